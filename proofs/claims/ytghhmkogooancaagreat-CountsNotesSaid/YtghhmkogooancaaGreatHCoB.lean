/-
  Counts: what is noted; by the program and by the document.
-/
import Derived.Test.YtghhmkogooancaaGreatHCoA
set_option linter.unusedVariables false
set_option linter.unusedSimpArgs false
set_option maxRecDepth 10000
namespace Go.Fw
open Go.Proofs

/-! ### What is noted -/
theorem lotE_fits (h : House) (i c : Str) : (h.lotE i c ≠ 0 ∧ h.fits i c 0 = h.lotE i c ∧ h.lotE i c ≠ 22) ∨ (h.lotE i c = 0 ∧ (h.fits i c 0 = 0 ∨ h.fits i c 0 = 22)) := by
  have hx : ∀ b : Bool, (if b = true then (22 : Int) else 0) = 0 ∨ (if b = true then (22 : Int) else 0) = 22 := fun b => by cases b <;> simp
  unfold House.lotE House.fits badLot
  cases hi : h.item? i with
  | none => simp
  | some x =>
    simp only [Option.isSome_some, Option.getD_some]
    generalize (x.lots && !(h.lot? i c).isSome || !x.lots && !decide (c = ⟨#[]⟩)) = b
    cases b with
    | true => exact .inl ⟨by decide, rfl, by decide⟩
    | false => exact .inr ⟨rfl, hx _⟩
theorem there_any (xs : List Counted) (k : Key) (n : Int) : findB (fun y => decide (countedCmp y (Counted.of k n) = 0)) xs = xs.any fun y => decide (y.key = k) := by
  have hq : (fun y : Counted => decide (countedCmp y (Counted.of k n) = 0)) = fun y => decide (y.key = k) := by
    funext y; rw [decide_eq_decide]; exact counted0 y _
  rw [hq, findB_find]
  cases hf : xs.find? (fun y => decide (y.key = k)) with
  | none =>
    symm
    rw [Option.isSome_none, List.any_eq_false]
    exact List.find?_eq_none.1 hf
  | some y =>
    symm
    rw [Option.isSome_some, List.any_eq_true]
    exact ⟨y, List.mem_of_find?_eq_some hf, by simpa using List.find?_some hf⟩
set_option maxHeartbeats 16000000 in
theorem record15 (h : House) (k : Key) (n : Int) (hbc : (h.counted.xs.length + 1) * 64 ≤ 140737488355328) : Ret Tryz.prog 15 [.agg h.enc, .agg k.enc, .v (.int .i64 n)] (houseOut (h.record k n)) := by
  refine ret15 rfl fun hbd => ?_
  have hz := frozen60 h k.bin
  have hfi := lotsFits h k.item k.lot 0
  have hfd := find63 Counted.enc (fun _ => rfl) 91 countedCmp order91 (Counted.of k n) h.counted.xs h.counted.sp
  rw [there_any] at hfd
  have hp := put64 Counted.enc (fun _ => rfl) 91 countedCmp order91 (Counted.of k n) h.counted.xs h.counted.sp hbc
  have hcases := lotE_fits h k.item k.lot
  have hll : (h.counted.xs.map Counted.enc).length = h.counted.xs.length := List.length_map ..
  unfold House.record House.recordE
  unfold c15
  generalize h.frozenE k.bin = fe at *
  generalize h.fits k.item k.lot 0 = fi at *
  generalize h.lotE k.item k.lot = le at *
  generalize (h.counted.xs.any fun y => decide (y.key = k)) = th at *
  generalize findI (fun y => decide (countedCmp y (Counted.of k n) = 0)) h.counted.xs = ix at *
  cases h0 : decide (fe = 0) with
  | false =>
    have h0' : (!decide (fe = 0)) = true := by rw [h0]; rfl
    have h0n := of_decide_eq_false h0
    rw [if_pos (show fe ≠ 0 from h0n), if_neg h0n]
    repeat (first
      | refine r_call rfl (hz) ?_ | refine r_mv_p rfl ?_ | refine r_fad rfl rfl ?_ | refine r_loadB rfl rfl ?_ | refine r_sem rfl rfl rfl rfl ?_ | refine r_nil ?_
      | refine r_storeAll rfl rfl rfl rfl rfl rfl ?_ | refine r_alloc rfl ?_ | refine r_box rfl rfl rfl ?_ | refine run_seq ?_ | refine run_reg ?_ | refine run_ret ?_ | refine fin_seq ?_
      | refine fin_seq_r ?_ | refine run_condT rfl ?_)
    exact fin_out rfl rfl
  | true =>
    have h0' : (!decide (fe = 0)) = false := by rw [h0]; rfl
    rw [if_neg (show ¬ fe ≠ 0 from fun e => e (of_decide_eq_true h0))]
    rcases hcases with ⟨c1, c2, c3⟩ | ⟨c1, c2⟩
    · have k1 : (!decide (fi = 0)) = true := by rw [c2]; simp [c1]
      have k2 : (!decide (fi = 22)) = true := by rw [c2]; simp [c3]
      rw [if_pos c1, if_neg c1, ← c2]
      repeat (first
        | refine r_call rfl (hz) ?_ | refine r_call rfl (hfi) ?_ | refine r_mv_p rfl ?_ | refine r_doA rfl ?_ | refine r_fad rfl rfl ?_ | refine r_loadB rfl rfl ?_
        | refine r_pickT rfl rfl rfl ?_ | refine r_sem rfl rfl rfl rfl ?_ | refine r_nil ?_ | refine r_storeAll rfl rfl rfl rfl rfl rfl ?_ | refine r_alloc rfl ?_
        | refine r_box rfl rfl rfl ?_ | refine run_seq ?_ | refine run_reg ?_ | refine run_skip ?_ | refine run_ret ?_ | refine fin_seq ?_ | refine fin_seq_r ?_ | refine run_condT rfl ?_
        | refine run_condF rfl ?_)
      exact fin_out rfl rfl
    · rw [if_neg (show ¬ le ≠ 0 from fun e => e c1)]
      have key : ∀ (fi : Int), (fi = 0 ∨ fi = 22) → Ret Tryz.prog 61 [.agg h.enc, .v (.string k.item), .v (.string k.lot), .v (.int .i64 0)] (.v (.int .i64 fi)) → True := fun _ _ _ => trivial
      cases a1 : decide (k.status < 1) with
      | true =>
        rw [if_pos (show (true || decide (3 < k.status)) = true from rfl), if_neg (by decide)]
        rcases c2 with rfl | rfl
        · repeat (first
            | refine r_call rfl (hz) ?_ | refine r_call rfl (hfi) ?_ | refine r_call rfl (rows62) ?_ | refine r_call rfl (hfd) ?_ | refine r_mv_p rfl ?_ | refine r_skipA rfl ?_
            | refine r_fad rfl rfl ?_ | refine r_loadB rfl rfl ?_ | refine r_pickT rfl rfl rfl ?_ | refine r_pickF rfl rfl rfl ?_ | refine r_sem rfl rfl rfl rfl ?_ | refine r_nil ?_
            | refine r_storeAll rfl rfl rfl rfl rfl rfl ?_ | refine r_alloc rfl ?_ | refine r_box rfl rfl rfl ?_ | refine run_seq ?_ | refine run_reg ?_ | refine run_regd rfl ?_
            | refine run_block ?_ | refine run_skip ?_ | refine run_ret ?_ | refine fin_seq ?_ | refine fin_seq_r ?_ | refine fin_blk_r ?_ | refine run_condT rfl ?_ | refine run_condF rfl ?_)
          exact fin_out rfl rfl
        · repeat (first
            | refine r_call rfl (hz) ?_ | refine r_call rfl (hfi) ?_ | refine r_call rfl (rows62) ?_ | refine r_call rfl (hfd) ?_ | refine r_mv_p rfl ?_ | refine r_doA rfl ?_
            | refine r_skipA rfl ?_ | refine r_fad rfl rfl ?_ | refine r_loadB rfl rfl ?_ | refine r_pickT rfl rfl rfl ?_ | refine r_sem rfl rfl rfl rfl ?_ | refine r_nil ?_
            | refine r_storeAll rfl rfl rfl rfl rfl rfl ?_ | refine r_alloc rfl ?_ | refine r_box rfl rfl rfl ?_ | refine run_seq ?_ | refine run_reg ?_ | refine run_regd rfl ?_
            | refine run_block ?_ | refine run_skip ?_ | refine run_ret ?_ | refine fin_seq ?_ | refine fin_seq_r ?_ | refine fin_blk_r ?_ | refine run_condT rfl ?_ | refine run_condF rfl ?_)
          exact fin_out rfl rfl
      | false =>
        cases a2 : decide ((3 : Int) < k.status) with
        | true =>
          rw [if_pos (show (false || true) = true from rfl), if_neg (by decide)]
          rcases c2 with rfl | rfl
          · repeat (first
              | refine r_call rfl (hz) ?_ | refine r_call rfl (hfi) ?_ | refine r_call rfl (rows62) ?_ | refine r_call rfl (hfd) ?_ | refine r_mv_p rfl ?_ | refine r_doA rfl ?_
              | refine r_skipA rfl ?_ | refine r_fad rfl rfl ?_ | refine r_loadB rfl rfl ?_ | refine r_pickF rfl rfl rfl ?_ | refine r_sem rfl rfl rfl rfl ?_ | refine r_nil ?_
              | refine r_storeAll rfl rfl rfl rfl rfl rfl ?_ | refine r_alloc rfl ?_ | refine r_box rfl rfl rfl ?_ | refine run_seq ?_ | refine run_reg ?_ | refine run_regd rfl ?_
              | refine run_block ?_ | refine run_skip ?_ | refine run_ret ?_ | refine fin_seq ?_ | refine fin_seq_r ?_ | refine fin_blk_r ?_ | refine run_condT rfl ?_ | refine run_condF rfl ?_)
            exact fin_out rfl rfl
          · repeat (first
              | refine r_call rfl (hz) ?_ | refine r_call rfl (hfi) ?_ | refine r_call rfl (rows62) ?_ | refine r_call rfl (hfd) ?_ | refine r_mv_p rfl ?_ | refine r_doA rfl ?_
              | refine r_fad rfl rfl ?_ | refine r_loadB rfl rfl ?_ | refine r_pickT rfl rfl rfl ?_ | refine r_pickF rfl rfl rfl ?_ | refine r_sem rfl rfl rfl rfl ?_ | refine r_nil ?_
              | refine r_storeAll rfl rfl rfl rfl rfl rfl ?_ | refine r_alloc rfl ?_ | refine r_box rfl rfl rfl ?_ | refine run_seq ?_ | refine run_reg ?_ | refine run_regd rfl ?_
              | refine run_block ?_ | refine run_skip ?_ | refine run_ret ?_ | refine fin_seq ?_ | refine fin_seq_r ?_ | refine fin_blk_r ?_ | refine run_condT rfl ?_ | refine run_condF rfl ?_)
            exact fin_out rfl rfl
        | false =>
          rw [if_neg (show ¬ (false || false) = true from by decide)]
          cases b1 : decide (n < 0) with
          | true =>
            rw [if_pos (show (true || decide (1000000000 < n)) = true from rfl), if_neg (by decide)]
            rcases c2 with rfl | rfl
            · repeat (first
                | refine r_call rfl (hz) ?_ | refine r_call rfl (hfi) ?_ | refine r_call rfl (rows62) ?_ | refine r_call rfl (hfd) ?_ | refine r_mv_p rfl ?_ | refine r_doA rfl ?_
                | refine r_skipA rfl ?_ | refine r_fad rfl rfl ?_ | refine r_loadB rfl rfl ?_ | refine r_pickT rfl rfl rfl ?_ | refine r_pickF rfl rfl rfl ?_ | refine r_sem rfl rfl rfl rfl ?_
                | refine r_nil ?_ | refine r_storeAll rfl rfl rfl rfl rfl rfl ?_ | refine r_alloc rfl ?_ | refine r_box rfl rfl rfl ?_ | refine run_seq ?_ | refine run_reg ?_ | refine run_regd rfl ?_
                | refine run_block ?_ | refine run_skip ?_ | refine run_ret ?_ | refine fin_seq ?_ | refine fin_seq_r ?_ | refine fin_blk_r ?_ | refine run_condT rfl ?_ | refine run_condF rfl ?_)
              exact fin_out rfl rfl
            · repeat (first
                | refine r_call rfl (hz) ?_ | refine r_call rfl (hfi) ?_ | refine r_call rfl (rows62) ?_ | refine r_call rfl (hfd) ?_ | refine r_mv_p rfl ?_ | refine r_doA rfl ?_
                | refine r_skipA rfl ?_ | refine r_fad rfl rfl ?_ | refine r_loadB rfl rfl ?_ | refine r_pickT rfl rfl rfl ?_ | refine r_pickF rfl rfl rfl ?_ | refine r_sem rfl rfl rfl rfl ?_
                | refine r_nil ?_ | refine r_storeAll rfl rfl rfl rfl rfl rfl ?_ | refine r_alloc rfl ?_ | refine r_box rfl rfl rfl ?_ | refine run_seq ?_ | refine run_reg ?_ | refine run_regd rfl ?_
                | refine run_block ?_ | refine run_skip ?_ | refine run_ret ?_ | refine fin_seq ?_ | refine fin_seq_r ?_ | refine fin_blk_r ?_ | refine run_condT rfl ?_ | refine run_condF rfl ?_)
              exact fin_out rfl rfl
          | false =>
            cases b2 : decide ((1000000000 : Int) < n) with
            | true =>
              rw [if_pos (show (false || true) = true from rfl), if_neg (by decide)]
              rcases c2 with rfl | rfl
              · repeat (first
                  | refine r_call rfl (hz) ?_ | refine r_call rfl (hfi) ?_ | refine r_call rfl (rows62) ?_ | refine r_call rfl (hfd) ?_ | refine r_mv_p rfl ?_ | refine r_doA rfl ?_
                  | refine r_skipA rfl ?_ | refine r_fad rfl rfl ?_ | refine r_loadB rfl rfl ?_ | refine r_pickF rfl rfl rfl ?_ | refine r_sem rfl rfl rfl rfl ?_ | refine r_nil ?_
                  | refine r_storeAll rfl rfl rfl rfl rfl rfl ?_ | refine r_alloc rfl ?_ | refine r_box rfl rfl rfl ?_ | refine run_seq ?_ | refine run_reg ?_ | refine run_regd rfl ?_
                  | refine run_block ?_ | refine run_skip ?_ | refine run_ret ?_ | refine fin_seq ?_ | refine fin_seq_r ?_ | refine fin_blk_r ?_ | refine run_condT rfl ?_ | refine run_condF rfl ?_)
                exact fin_out rfl rfl
              · repeat (first
                  | refine r_call rfl (hz) ?_ | refine r_call rfl (hfi) ?_ | refine r_call rfl (rows62) ?_ | refine r_call rfl (hfd) ?_ | refine r_mv_p rfl ?_ | refine r_doA rfl ?_
                  | refine r_fad rfl rfl ?_ | refine r_loadB rfl rfl ?_ | refine r_pickT rfl rfl rfl ?_ | refine r_pickF rfl rfl rfl ?_ | refine r_sem rfl rfl rfl rfl ?_ | refine r_nil ?_
                  | refine r_storeAll rfl rfl rfl rfl rfl rfl ?_ | refine r_alloc rfl ?_ | refine r_box rfl rfl rfl ?_ | refine run_seq ?_ | refine run_reg ?_ | refine run_regd rfl ?_
                  | refine run_block ?_ | refine run_skip ?_ | refine run_ret ?_ | refine fin_seq ?_ | refine fin_seq_r ?_ | refine fin_blk_r ?_ | refine run_condT rfl ?_ | refine run_condF rfl ?_)
                exact fin_out rfl rfl
            | false =>
              rw [if_neg (show ¬ (false || false) = true from by decide)]
              cases th with
              | true =>
                rw [if_neg (show ¬ (!true && decide (64 ≤ h.counted.xs.length)) = true from by simp), if_pos rfl]
                rcases c2 with rfl | rfl
                · repeat (first
                    | refine r_call rfl (hz) ?_ | refine r_call rfl (hfi) ?_ | refine r_call rfl (rows62) ?_ | refine r_call rfl (hfd) ?_ | refine r_call rfl (hp) ?_ | refine r_mv_p rfl ?_
                    | refine r_doA rfl ?_ | refine r_skipA rfl ?_ | refine r_fad rfl rfl ?_ | refine r_loadB rfl rfl ?_ | refine r_pickF rfl rfl rfl ?_ | refine r_sem rfl rfl rfl rfl ?_ | refine r_nil ?_
                    | refine r_storeAll rfl rfl rfl rfl rfl rfl ?_ | refine r_store rfl rfl rfl rfl (And.intro rfl (Nat.le_of_ble_eq_true rfl)) ?_ | refine r_alloc rfl ?_ | refine r_box rfl rfl rfl ?_
                    | refine run_seq ?_ | refine run_reg ?_ | refine run_regd rfl ?_ | refine run_block ?_ | refine run_skip ?_ | refine run_ret ?_ | refine fin_seq ?_ | refine fin_blk ?_
                    | refine run_condF rfl ?_)
                  exact fin_out rfl rfl
                · repeat (first
                    | refine r_call rfl (hz) ?_ | refine r_call rfl (hfi) ?_ | refine r_call rfl (rows62) ?_ | refine r_call rfl (hfd) ?_ | refine r_call rfl (hp) ?_ | refine r_mv_p rfl ?_
                    | refine r_doA rfl ?_ | refine r_skipA rfl ?_ | refine r_fad rfl rfl ?_ | refine r_loadB rfl rfl ?_ | refine r_pickT rfl rfl rfl ?_ | refine r_pickF rfl rfl rfl ?_
                    | refine r_sem rfl rfl rfl rfl ?_ | refine r_nil ?_ | refine r_storeAll rfl rfl rfl rfl rfl rfl ?_ | refine r_store rfl rfl rfl rfl (And.intro rfl (Nat.le_of_ble_eq_true rfl)) ?_
                    | refine r_alloc rfl ?_ | refine r_box rfl rfl rfl ?_ | refine run_seq ?_ | refine run_reg ?_ | refine run_regd rfl ?_ | refine run_block ?_ | refine run_skip ?_ | refine run_ret ?_
                    | refine fin_seq ?_ | refine fin_blk ?_ | refine run_condF rfl ?_)
                  exact fin_out rfl rfl
              | false =>
                cases k5 : decide ((64 : Int) ≤ (((h.counted.xs.map Counted.enc).length : Nat) : Int)) with
                | true =>
                  have k5' : 64 ≤ h.counted.xs.length := by rw [hll] at k5; have := of_decide_eq_true k5; omega
                  rw [if_pos (show (!false && decide (64 ≤ h.counted.xs.length)) = true from by simp [k5']), if_neg (by decide)]
                  rcases c2 with rfl | rfl
                  · repeat (first
                      | refine r_call rfl (hz) ?_ | refine r_call rfl (hfi) ?_ | refine r_call rfl (rows62) ?_ | refine r_call rfl (hfd) ?_ | refine r_mv_p rfl ?_ | refine r_doA rfl ?_
                      | refine r_skipA rfl ?_ | refine r_fad rfl rfl ?_ | refine r_loadB rfl rfl ?_ | refine r_pickT rfl rfl rfl ?_ | refine r_pickF rfl rfl rfl ?_ | refine r_sem rfl rfl rfl rfl ?_
                      | refine r_nil ?_ | refine r_storeAll rfl rfl rfl rfl rfl rfl ?_ | refine r_alloc rfl ?_ | refine r_box rfl rfl rfl ?_ | refine run_seq ?_ | refine run_reg ?_ | refine run_regd rfl ?_
                      | refine run_block ?_ | refine run_skip ?_ | refine run_ret ?_ | refine fin_seq ?_ | refine fin_seq_r ?_ | refine fin_blk_r ?_ | refine run_condT rfl ?_ | refine run_condF rfl ?_)
                    exact fin_out rfl rfl
                  · repeat (first
                      | refine r_call rfl (hz) ?_ | refine r_call rfl (hfi) ?_ | refine r_call rfl (rows62) ?_ | refine r_call rfl (hfd) ?_ | refine r_mv_p rfl ?_ | refine r_doA rfl ?_
                      | refine r_fad rfl rfl ?_ | refine r_loadB rfl rfl ?_ | refine r_pickT rfl rfl rfl ?_ | refine r_pickF rfl rfl rfl ?_ | refine r_sem rfl rfl rfl rfl ?_ | refine r_nil ?_
                      | refine r_storeAll rfl rfl rfl rfl rfl rfl ?_ | refine r_alloc rfl ?_ | refine r_box rfl rfl rfl ?_ | refine run_seq ?_ | refine run_reg ?_ | refine run_regd rfl ?_
                      | refine run_block ?_ | refine run_skip ?_ | refine run_ret ?_ | refine fin_seq ?_ | refine fin_seq_r ?_ | refine fin_blk_r ?_ | refine run_condT rfl ?_ | refine run_condF rfl ?_)
                    exact fin_out rfl rfl
                | false =>
                  have k5' : ¬ 64 ≤ h.counted.xs.length := by rw [hll] at k5; have := of_decide_eq_false k5; omega
                  rw [if_neg (show ¬ (!false && decide (64 ≤ h.counted.xs.length)) = true from by simp; omega), if_pos rfl]
                  rcases c2 with rfl | rfl
                  · repeat (first
                      | refine r_call rfl (hz) ?_ | refine r_call rfl (hfi) ?_ | refine r_call rfl (rows62) ?_ | refine r_call rfl (hfd) ?_ | refine r_call rfl (hp) ?_ | refine r_mv_p rfl ?_
                      | refine r_doA rfl ?_ | refine r_skipA rfl ?_ | refine r_fad rfl rfl ?_ | refine r_loadB rfl rfl ?_ | refine r_pickT rfl rfl rfl ?_ | refine r_pickF rfl rfl rfl ?_
                      | refine r_sem rfl rfl rfl rfl ?_ | refine r_nil ?_ | refine r_storeAll rfl rfl rfl rfl rfl rfl ?_ | refine r_store rfl rfl rfl rfl (And.intro rfl (Nat.le_of_ble_eq_true rfl)) ?_
                      | refine r_alloc rfl ?_ | refine r_box rfl rfl rfl ?_ | refine run_seq ?_ | refine run_reg ?_ | refine run_regd rfl ?_ | refine run_block ?_ | refine run_skip ?_ | refine run_ret ?_
                      | refine fin_seq ?_ | refine fin_blk ?_ | refine run_condF rfl ?_)
                    exact fin_out rfl rfl
                  · repeat (first
                      | refine r_call rfl (hz) ?_ | refine r_call rfl (hfi) ?_ | refine r_call rfl (rows62) ?_ | refine r_call rfl (hfd) ?_ | refine r_call rfl (hp) ?_ | refine r_mv_p rfl ?_
                      | refine r_doA rfl ?_ | refine r_fad rfl rfl ?_ | refine r_loadB rfl rfl ?_ | refine r_pickT rfl rfl rfl ?_ | refine r_pickF rfl rfl rfl ?_ | refine r_sem rfl rfl rfl rfl ?_
                      | refine r_nil ?_ | refine r_storeAll rfl rfl rfl rfl rfl rfl ?_ | refine r_store rfl rfl rfl rfl (And.intro rfl (Nat.le_of_ble_eq_true rfl)) ?_ | refine r_alloc rfl ?_
                      | refine r_box rfl rfl rfl ?_ | refine run_seq ?_ | refine run_reg ?_ | refine run_regd rfl ?_ | refine run_block ?_ | refine run_skip ?_ | refine run_ret ?_ | refine fin_seq ?_
                      | refine fin_blk ?_ | refine run_condF rfl ?_)
                    exact fin_out rfl rfl
end Go.Fw
