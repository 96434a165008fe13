/-
  Counts: a bin that is frozen or set free, and no more; by the program and by the document.
-/
import Derived.Test.YtghhmkogooancaaGreatHCo
set_option linter.unusedVariables false
set_option linter.unusedSimpArgs false
set_option maxRecDepth 10000
namespace Go.Fw
open Go.Proofs

/-! ### Frozen, and no more -/
set_option maxHeartbeats 4000000 in
theorem freeze43 (h : House) (c : Str) (on : Bool) (hbig : (h.bins.xs.length + 1) * 80 ≤ 140737488355328) (hbc : (h.counted.xs.length + 1) * 64 ≤ 140737488355328) : Ret Tryz.prog 43 [.agg h.enc, .v (.string c), .v (.bool on)] (houseOut (h.count c on)) := by
  refine ret43 rfl fun hbd => ?_
  obtain ⟨⟨g, e⟩, hr⟩ : ∃ p, p = h.freeze c on := ⟨_, rfl⟩
  have hf := freeze65 h c on hbig
  rw [← hr] at hf
  replace hf : Ret Tryz.prog 87 _ (.tup [.agg g.enc, .v (.int .i64 e)]) := hf
  have hR : h.count c on = if e = 0 then (g.without c, 0) else (House.zero, e) := by unfold House.count; rw [← hr]
  have hgc : g.counted.xs.length ≤ h.counted.xs.length := by
    have : h.freeze c on = (g, e) := hr.symm
    unfold House.freeze at this
    repeat' split at this
    all_goals (simp only [Prod.mk.injEq] at this; obtain ⟨rfl, -⟩ := this)
    all_goals first | exact Nat.zero_le _ | exact Nat.le_refl _
  rw [hR]
  unfold c43
  cases h0 : decide (e = 0) with
  | false =>
    have h0' : (!decide (e = 0)) = true := by rw [h0]; rfl
    rw [if_neg (of_decide_eq_false h0)]
    repeat (first
      | refine r_call rfl (hf) ?_ | refine r_mv_p rfl ?_ | refine r_loadB rfl rfl ?_ | refine r_sem rfl rfl rfl rfl ?_ | refine r_nil ?_ | refine r_storeAll rfl rfl rfl rfl rfl rfl ?_
      | refine r_alloc rfl ?_ | refine r_box rfl rfl rfl ?_ | refine run_seq ?_ | refine run_reg ?_ | refine run_ret ?_ | refine fin_seq ?_ | refine fin_seq_r ?_ | refine run_condT rfl ?_)
    exact fin_out rfl rfl
  | true =>
    have h0' : (!decide (e = 0)) = false := by rw [h0]; rfl
    rw [if_pos (of_decide_eq_true h0)]
    have hk := keep69 88 [.ref [.v (.string c)] 0] (notIn c) g.counted.xs g.counted.sp (Nat.le_trans (Nat.mul_le_mul_right 64 (by omega)) hbc) (fun x _ => closure88 c x)
    repeat (first
      | refine r_call rfl (hf) ?_ | refine r_call rfl (hk) ?_ | refine r_mv_p rfl ?_ | refine r_fad rfl rfl ?_ | refine r_loadB rfl rfl ?_ | refine r_sem rfl rfl rfl rfl ?_
      | refine r_nil ?_ | refine r_storeAll rfl rfl rfl rfl rfl rfl ?_ | refine r_store rfl rfl rfl rfl (And.intro rfl (Nat.le_of_ble_eq_true rfl)) ?_ | refine r_alloc rfl ?_
      | refine r_box rfl rfl rfl ?_ | refine r_semF rfl rfl rfl rfl ?_ | refine run_seq ?_ | refine run_reg ?_ | refine run_skip ?_ | refine run_ret ?_ | refine fin_seq ?_
      | refine run_condF rfl ?_)
    exact fin_out rfl rfl
theorem count12 (h : House) (c : Str) (hbig : (h.bins.xs.length + 1) * 80 ≤ 140737488355328) (hbc : (h.counted.xs.length + 1) * 64 ≤ 140737488355328) : Ret Tryz.prog 12 [.agg h.enc, .v (.string c)] (houseOut (h.count c true)) := by
  refine ret12 rfl fun hbd => ?_
  have hf := freeze43 h c true hbig hbc
  unfold c12
  repeat (first
    | refine r_call rfl (hf) ?_ | refine r_mv_p rfl ?_ | refine r_loadB rfl rfl ?_ | refine r_sem rfl rfl rfl rfl ?_ | refine r_nil ?_ | refine r_storeAll rfl rfl rfl rfl rfl rfl ?_
    | refine r_alloc rfl ?_ | refine r_box rfl rfl rfl ?_ | refine run_seq ?_ | refine run_reg ?_ | refine run_ret ?_ | refine fin_seq ?_)
  exact fin_out rfl rfl
theorem count19 (h : House) (c : Str) (hbig : (h.bins.xs.length + 1) * 80 ≤ 140737488355328) (hbc : (h.counted.xs.length + 1) * 64 ≤ 140737488355328) : Ret Tryz.prog 19 [.agg h.enc, .v (.string c)] (houseOut (h.count c false)) := by
  refine ret19 rfl fun hbd => ?_
  have hf := freeze43 h c false hbig hbc
  unfold c19
  repeat (first
    | refine r_call rfl (hf) ?_ | refine r_mv_p rfl ?_ | refine r_loadB rfl rfl ?_ | refine r_sem rfl rfl rfl rfl ?_ | refine r_nil ?_ | refine r_storeAll rfl rfl rfl rfl rfl rfl ?_
    | refine r_alloc rfl ?_ | refine r_box rfl rfl rfl ?_ | refine run_seq ?_ | refine run_reg ?_ | refine run_ret ?_ | refine fin_seq ?_)
  exact fin_out rfl rfl
set_option maxHeartbeats 4000000 in
theorem refCount13 (h : House) (c : Str) (hbig : (h.bins.xs.length + 1) * 80 ≤ 140737488355328) (hbc : (h.counted.xs.length + 1) * 64 ≤ 140737488355328) : Ret Tryz.prog 13 [.agg h.enc, .v (.string c)] (houseOut (h.count c true)) := by
  refine ret13 rfl fun hbd => ?_
  obtain ⟨⟨g, e⟩, hr⟩ : ∃ p, p = h.freeze c true := ⟨_, rfl⟩
  have hf := refFreeze66 h c true hbig
  rw [← hr] at hf
  replace hf : Ret Tryz.prog 44 _ (.tup [.agg g.enc, .v (.int .i64 e)]) := hf
  have hR : h.count c true = if e = 0 then (g.without c, 0) else (House.zero, e) := by unfold House.count; rw [← hr]
  have hgc : g.counted.xs.length ≤ h.counted.xs.length := by
    have : h.freeze c true = (g, e) := hr.symm
    unfold House.freeze at this
    repeat' split at this
    all_goals (simp only [Prod.mk.injEq] at this; obtain ⟨rfl, -⟩ := this)
    all_goals first | exact Nat.zero_le _ | exact Nat.le_refl _
  have hk := without45 g c (Nat.le_trans (Nat.mul_le_mul_right 64 (by omega)) hbc)
  rw [hR]
  unfold c13
  cases h0 : decide (e = 0) with
  | false =>
    have h0' : (!decide (e = 0)) = true := by rw [h0]; rfl
    rw [if_neg (of_decide_eq_false h0)]
    repeat (first
      | refine r_call rfl (hf) ?_ | refine r_mv_p rfl ?_ | refine r_loadB rfl rfl ?_ | refine r_sem rfl rfl rfl rfl ?_ | refine r_nil ?_ | refine r_storeAll rfl rfl rfl rfl rfl rfl ?_
      | refine r_alloc rfl ?_ | refine r_box rfl rfl rfl ?_ | refine run_seq ?_ | refine run_reg ?_ | refine run_ret ?_ | refine fin_seq ?_ | refine fin_seq_r ?_ | refine run_condT rfl ?_)
    exact fin_out rfl rfl
  | true =>
    have h0' : (!decide (e = 0)) = false := by rw [h0]; rfl
    rw [if_pos (of_decide_eq_true h0)]
    repeat (first
      | refine r_call rfl (hf) ?_ | refine r_call rfl (hk) ?_ | refine r_mv_p rfl ?_ | refine r_loadB rfl rfl ?_ | refine r_sem rfl rfl rfl rfl ?_ | refine r_nil ?_
      | refine r_storeAll rfl rfl rfl rfl rfl rfl ?_ | refine r_alloc rfl ?_ | refine r_box rfl rfl rfl ?_ | refine run_seq ?_ | refine run_reg ?_ | refine run_skip ?_ | refine run_ret ?_
      | refine fin_seq ?_ | refine run_condF rfl ?_)
    exact fin_out rfl rfl
set_option maxHeartbeats 4000000 in
theorem refCount20 (h : House) (c : Str) (hbig : (h.bins.xs.length + 1) * 80 ≤ 140737488355328) (hbc : (h.counted.xs.length + 1) * 64 ≤ 140737488355328) : Ret Tryz.prog 20 [.agg h.enc, .v (.string c)] (houseOut (h.count c false)) := by
  refine ret20 rfl fun hbd => ?_
  obtain ⟨⟨g, e⟩, hr⟩ : ∃ p, p = h.freeze c false := ⟨_, rfl⟩
  have hf := refFreeze66 h c false hbig
  rw [← hr] at hf
  replace hf : Ret Tryz.prog 44 _ (.tup [.agg g.enc, .v (.int .i64 e)]) := hf
  have hR : h.count c false = if e = 0 then (g.without c, 0) else (House.zero, e) := by unfold House.count; rw [← hr]
  have hgc : g.counted.xs.length ≤ h.counted.xs.length := by
    have : h.freeze c false = (g, e) := hr.symm
    unfold House.freeze at this
    repeat' split at this
    all_goals (simp only [Prod.mk.injEq] at this; obtain ⟨rfl, -⟩ := this)
    all_goals first | exact Nat.zero_le _ | exact Nat.le_refl _
  have hk := without45 g c (Nat.le_trans (Nat.mul_le_mul_right 64 (by omega)) hbc)
  rw [hR]
  unfold c20
  cases h0 : decide (e = 0) with
  | false =>
    have h0' : (!decide (e = 0)) = true := by rw [h0]; rfl
    rw [if_neg (of_decide_eq_false h0)]
    repeat (first
      | refine r_call rfl (hf) ?_ | refine r_mv_p rfl ?_ | refine r_loadB rfl rfl ?_ | refine r_sem rfl rfl rfl rfl ?_ | refine r_nil ?_ | refine r_storeAll rfl rfl rfl rfl rfl rfl ?_
      | refine r_alloc rfl ?_ | refine r_box rfl rfl rfl ?_ | refine run_seq ?_ | refine run_reg ?_ | refine run_ret ?_ | refine fin_seq ?_ | refine fin_seq_r ?_ | refine run_condT rfl ?_)
    exact fin_out rfl rfl
  | true =>
    have h0' : (!decide (e = 0)) = false := by rw [h0]; rfl
    rw [if_pos (of_decide_eq_true h0)]
    repeat (first
      | refine r_call rfl (hf) ?_ | refine r_call rfl (hk) ?_ | refine r_mv_p rfl ?_ | refine r_loadB rfl rfl ?_ | refine r_sem rfl rfl rfl rfl ?_ | refine r_nil ?_
      | refine r_storeAll rfl rfl rfl rfl rfl rfl ?_ | refine r_alloc rfl ?_ | refine r_box rfl rfl rfl ?_ | refine run_seq ?_ | refine run_reg ?_ | refine run_skip ?_ | refine run_ret ?_
      | refine fin_seq ?_ | refine run_condF rfl ?_)
    exact fin_out rfl rfl
theorem frozen60 (h : House) (c : Str) : Ret Tryz.prog 60 [.agg h.enc, .v (.string c)] (.v (.int .i64 (h.frozenE c))) := by
  refine ret60 rfl fun hbd => ?_
  have hb := findBin h c
  unfold c60
  unfold House.frozenE
  cases hc : h.bin? c with
  | none =>
    simp only [hc, binOut_none, binOut_some] at hb
    repeat (first
      | refine r_call rfl (hb) ?_ | refine r_mv_p rfl ?_ | refine r_loadB rfl rfl ?_ | refine r_sem rfl rfl rfl rfl ?_ | refine r_nil ?_ | refine r_storeAll rfl rfl rfl rfl rfl rfl ?_
      | refine r_alloc rfl ?_ | refine r_box rfl rfl rfl ?_ | refine run_seq ?_ | refine run_reg ?_ | refine run_block ?_ | refine run_ret ?_ | refine fin_seq ?_ | refine fin_seq_r ?_
      | refine fin_blk_r ?_ | refine run_condT rfl ?_)
    exact fin_out rfl rfl
  | some b =>
    simp only [hc, binOut_none, binOut_some] at hb
    simp only
    cases hf : b.frozen with
    | true =>
      have hf' : (!b.frozen) = false := by rw [hf]; rfl
      repeat (first
        | refine r_call rfl (hb) ?_ | refine r_mv_p rfl ?_ | refine r_fad rfl rfl ?_ | refine r_loadB rfl rfl ?_ | refine r_sem rfl rfl rfl rfl ?_ | refine r_nil ?_
        | refine r_storeAll rfl rfl rfl rfl rfl rfl ?_ | refine r_alloc rfl ?_ | refine r_box rfl rfl rfl ?_ | refine run_seq ?_ | refine run_reg ?_ | refine run_block ?_ | refine run_skip ?_
        | refine run_ret ?_ | refine fin_seq ?_ | refine fin_blk ?_ | refine run_condF rfl ?_)
      exact fin_out rfl rfl
    | false =>
      have hf' : (!b.frozen) = true := by rw [hf]; rfl
      repeat (first
        | refine r_call rfl (hb) ?_ | refine r_mv_p rfl ?_ | refine r_fad rfl rfl ?_ | refine r_loadB rfl rfl ?_ | refine r_sem rfl rfl rfl rfl ?_ | refine r_nil ?_
        | refine r_storeAll rfl rfl rfl rfl rfl rfl ?_ | refine r_alloc rfl ?_ | refine r_box rfl rfl rfl ?_ | refine run_seq ?_ | refine run_reg ?_ | refine run_block ?_ | refine run_ret ?_
        | refine fin_seq ?_ | refine fin_seq_r ?_ | refine fin_blk_r ?_ | refine run_condT rfl ?_ | refine run_condF rfl ?_)
      exact fin_out rfl rfl
end Go.Fw
