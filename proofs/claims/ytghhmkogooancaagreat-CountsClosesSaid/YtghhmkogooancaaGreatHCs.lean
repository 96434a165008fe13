/-
  Counts: what is noted; by the document.
-/
import Derived.Test.YtghhmkogooancaaGreatHCp
set_option linter.unusedVariables false
set_option linter.unusedSimpArgs false
set_option maxRecDepth 10000
namespace Go.Fw
open Go.Proofs

theorem record_no {h : House} {k : Key} {n e : Int} (hE : h.recordE k n = e) (he : e ≠ 0) : h.record k n = (House.zero, e) := by
  unfold House.record
  rw [hE, if_neg he]
theorem record_yes {h : House} {k : Key} {n : Int} (hE : h.recordE k n = 0) : h.record k n = (h.withCounted (Counted.of k n), 0) := by
  unfold House.record
  rw [hE, if_pos rfl]
set_option maxHeartbeats 32000000 in
theorem refRecord16 (h : House) (k : Key) (n : Int) (hbc : (h.counted.xs.length + 1) * 64 ≤ 140737488355328) : Ret Tryz.prog 16 [.agg h.enc, .agg k.enc, .v (.int .i64 n)] (houseOut (h.record k n)) := by
  refine ret16 rfl fun hbd => ?_
  have hbcl := bd_counted (hbd _ (List.mem_cons_self))
  have hb := refFindBin h k.bin
  have hi := refFindItem h k.item
  have hl := refFindLot h k.item k.lot
  have hw := refwithCounted h (Counted.of k n) hbc
  have hll : (h.counted.xs.map Counted.enc).length = h.counted.xs.length := List.length_map ..
  unfold c16
  cases hbn : h.bin? k.bin with
  | none =>
    have hfz : h.frozenE k.bin = 12 := by unfold House.frozenE; rw [hbn]
    rw [record_no (e := 12) (by unfold House.recordE; rw [hfz, if_pos (by decide)]) (by decide)]
    rw [hbn, binOut_none] at hb
    repeat (first
      | refine r_call rfl (hb) ?_ | refine r_mv_p rfl ?_ | refine r_fad rfl rfl ?_ | refine r_loadB rfl rfl ?_ | refine r_sem rfl rfl rfl rfl ?_ | refine r_nil ?_
      | refine r_storeAll rfl rfl rfl rfl rfl rfl ?_ | refine r_alloc rfl ?_ | refine r_box rfl rfl rfl ?_ | refine run_seq ?_ | refine run_reg ?_ | refine run_ret ?_ | refine fin_seq ?_
      | refine fin_seq_r ?_ | refine run_condT rfl ?_)
    exact fin_out rfl rfl
  | some b =>
  rw [hbn, binOut_some] at hb
  cases hfr : b.frozen with
  | false =>
    have hfz : h.frozenE k.bin = 13 := by unfold House.frozenE; rw [hbn]; simp [hfr]
    have hfr' : (!b.frozen) = true := by rw [hfr]; rfl
    rw [record_no (e := 13) (by unfold House.recordE; rw [hfz, if_pos (by decide)]) (by decide)]
    repeat (first
      | refine r_call rfl (hb) ?_ | refine r_mv_p rfl ?_ | refine r_fad rfl rfl ?_ | refine r_loadB rfl rfl ?_ | refine r_sem rfl rfl rfl rfl ?_ | refine r_nil ?_
      | refine r_storeAll rfl rfl rfl rfl rfl rfl ?_ | refine r_alloc rfl ?_ | refine r_box rfl rfl rfl ?_ | refine run_seq ?_ | refine run_reg ?_ | refine run_skip ?_ | refine run_ret ?_
      | refine fin_seq ?_ | refine fin_seq_r ?_ | refine run_condT rfl ?_ | refine run_condF rfl ?_)
    exact fin_out rfl rfl
  | true =>
  have hfz : h.frozenE k.bin = 0 := by unfold House.frozenE; rw [hbn]; simp [hfr]
  have hfr' : (!b.frozen) = false := by rw [hfr]; rfl
  have hE1 : h.recordE k n = if h.lotE k.item k.lot ≠ 0 then h.lotE k.item k.lot
    else if (decide (k.status < 1) || decide (3 < k.status)) = true then 31
    else if (decide (n < 0) || decide (1000000000 < n)) = true then 10
    else if (!(h.counted.xs.any fun y => decide (y.key = k)) && decide (64 ≤ h.counted.xs.length)) = true then 14
    else 0 := by unfold House.recordE; rw [hfz, if_neg (by decide)]
  cases hit : h.item? k.item with
  | none =>
    have hle : h.lotE k.item k.lot = 12 := by unfold House.lotE; rw [hit]
    rw [record_no (e := 12) (by rw [hE1, hle, if_pos (by decide)]) (by decide)]
    rw [hit, itemOut_none] at hi
    repeat (first
      | refine r_call rfl (hb) ?_ | refine r_call rfl (hi) ?_ | refine r_mv_p rfl ?_ | refine r_fad rfl rfl ?_ | refine r_loadB rfl rfl ?_ | refine r_sem rfl rfl rfl rfl ?_
      | refine r_nil ?_ | refine r_storeAll rfl rfl rfl rfl rfl rfl ?_ | refine r_alloc rfl ?_ | refine r_box rfl rfl rfl ?_ | refine run_seq ?_ | refine run_reg ?_ | refine run_skip ?_
      | refine run_ret ?_ | refine fin_seq ?_ | refine fin_seq_r ?_ | refine run_condT rfl ?_ | refine run_condF rfl ?_)
    exact fin_out rfl rfl
  | some x =>
  have hle : h.lotE k.item k.lot = if badLot x.lots (h.lot? k.item k.lot).isSome k.lot = true then 21 else 0 := by unfold House.lotE; rw [hit]
  rw [hit, itemOut_some] at hi
  unfold lotOut at hl
  generalize (h.lot? k.item k.lot).isSome = th at *
  generalize (h.lot? k.item k.lot).getD Lot.zero = lo at *
  repeat (first
    | refine r_call rfl (hb) ?_ | refine r_call rfl (hi) ?_ | refine r_call rfl (hl) ?_ | refine r_mv_p rfl ?_ | refine r_fad rfl rfl ?_ | refine r_loadB rfl rfl ?_
    | refine r_sem rfl rfl rfl rfl ?_ | refine r_nil ?_ | refine r_storeAll rfl rfl rfl rfl rfl rfl ?_ | refine r_alloc rfl ?_ | refine r_box rfl rfl rfl ?_ | refine run_seq ?_
    | refine run_reg ?_ | refine run_skip ?_ | refine fin_seq ?_ | refine run_condF rfl ?_)
  refine run_reg_join (S [(2, .p (.v (.int .i64 n))), (3, .own 3 0), (4, .own 4 0), (6, .own 6 0), (64, .p (.v (.bool (badLot x.lots th k.lot))))] [(3, some (.box h.enc false)), (4, some (.box k.enc false)), (6, some (.box House.zero.enc false))]) ?_ ?_
  · cases x1 : x.lots with
    | true =>
      have x1' : (!x.lots) = false := by rw [x1]; rfl
      cases th with
      | true =>
        repeat (first
          | refine r_mv_p rfl ?_ | refine r_doA rfl ?_ | refine r_skipA rfl ?_ | refine r_fad rfl rfl ?_ | refine r_pickT rfl rfl rfl ?_ | refine r_pickF rfl rfl rfl ?_
          | refine r_sem rfl rfl rfl rfl ?_ | refine r_nil ?_)
        exact ⟨weak_S ⟨rfl, rfl, rfl, rfl, tb rfl rfl, trivial⟩ ⟨rfl, rfl, rfl, trivial⟩⟩
      | false =>
        repeat (first
          | refine r_mv_p rfl ?_ | refine r_doA rfl ?_ | refine r_skipA rfl ?_ | refine r_skipU rfl ?_ | refine r_pickT rfl rfl rfl ?_ | refine r_sem rfl rfl rfl rfl ?_ | refine r_nil ?_)
        exact ⟨weak_S ⟨rfl, rfl, rfl, rfl, tb rfl rfl, trivial⟩ ⟨rfl, rfl, rfl, trivial⟩⟩
    | false =>
      have x1' : (!x.lots) = true := by rw [x1]; rfl
      cases x2 : (!decide (k.lot = ⟨#[]⟩)) with
      | true =>
        repeat (first
          | refine r_mv_p rfl ?_ | refine r_doA rfl ?_ | refine r_skipA rfl ?_ | refine r_fad rfl rfl ?_ | refine r_pickT rfl rfl rfl ?_ | refine r_pickF rfl rfl rfl ?_
          | refine r_sem rfl rfl rfl rfl ?_ | refine r_nil ?_)
        exact ⟨weak_S ⟨rfl, rfl, rfl, rfl, tb rfl (by simp only [badLot, x2]; rfl), trivial⟩ ⟨rfl, rfl, rfl, trivial⟩⟩
      | false =>
        repeat (first
          | refine r_mv_p rfl ?_ | refine r_doA rfl ?_ | refine r_skipA rfl ?_ | refine r_fad rfl rfl ?_ | refine r_pickT rfl rfl rfl ?_ | refine r_pickF rfl rfl rfl ?_
          | refine r_sem rfl rfl rfl rfl ?_ | refine r_nil ?_)
        exact ⟨weak_S ⟨rfl, rfl, rfl, rfl, tb rfl (by simp only [badLot, x2]; rfl), trivial⟩ ⟨rfl, rfl, rfl, trivial⟩⟩
  clear hb hi hl hfr hfr' hbn hit
  cases hbad : badLot x.lots th k.lot with
  | true =>
    rw [record_no (e := 21) (by rw [hE1, hle, if_pos hbad, if_pos (by decide)]) (by decide)]
    repeat (first
      | refine r_mv_p rfl ?_ | refine r_sem rfl rfl rfl rfl ?_ | refine r_nil ?_ | refine r_storeAll rfl rfl rfl rfl rfl rfl ?_ | refine run_seq ?_ | refine run_reg ?_ | refine run_ret ?_
      | refine fin_seq ?_ | refine fin_seq_r ?_ | refine run_condT rfl ?_)
    exact fin_out rfl rfl
  | false =>
  rw [hle, if_neg (by rw [hbad]; decide)] at hE1
  clear hle hbad
  repeat (first
    | refine r_mv_p rfl ?_ | refine r_fad rfl rfl ?_ | refine r_sem rfl rfl rfl rfl ?_ | refine run_seq ?_ | refine run_reg ?_ | refine run_skip ?_ | refine fin_seq ?_
    | refine run_condF rfl ?_)
  refine run_reg_join (S [(2, .p (.v (.int .i64 n))), (3, .own 3 0), (4, .own 4 0), (6, .own 6 0), (78, .p (.v (.bool (decide (k.status < 1) || decide (3 < k.status)))))] [(3, some (.box h.enc false)), (4, some (.box k.enc false)), (6, some (.box House.zero.enc false))]) ?_ ?_
  · cases a1 : decide (k.status = 1) with
    | true =>
      have e : k.status = 1 := of_decide_eq_true a1
      have n1 : (!decide (k.status = 1)) = false := by rw [a1]; rfl
      repeat (first
        | refine r_mv_p rfl ?_ | refine r_skipA rfl ?_ | refine r_pickF rfl rfl rfl ?_ | refine r_nil ?_)
      exact ⟨weak_S ⟨rfl, rfl, rfl, rfl, tb rfl (by rw [e]; rfl), trivial⟩ ⟨rfl, rfl, rfl, trivial⟩⟩
    | false =>
      have n1 : (!decide (k.status = 1)) = true := by rw [a1]; rfl
      cases a2 : decide (k.status = 2) with
      | true =>
        have e : k.status = 2 := of_decide_eq_true a2
        have n2 : (!decide (k.status = 2)) = false := by rw [a2]; rfl
        repeat (first
          | refine r_mv_p rfl ?_ | refine r_doA rfl ?_ | refine r_skipA rfl ?_ | refine r_fad rfl rfl ?_ | refine r_pickT rfl rfl rfl ?_ | refine r_pickF rfl rfl rfl ?_
          | refine r_sem rfl rfl rfl rfl ?_ | refine r_nil ?_)
        exact ⟨weak_S ⟨rfl, rfl, rfl, rfl, tb rfl (by rw [e]; rfl), trivial⟩ ⟨rfl, rfl, rfl, trivial⟩⟩
      | false =>
        have n2 : (!decide (k.status = 2)) = true := by rw [a2]; rfl
        cases a3 : decide (k.status = 3) with
        | true =>
          have e : k.status = 3 := of_decide_eq_true a3
          have n3 : (!decide (k.status = 3)) = false := by rw [a3]; rfl
          repeat (first
            | refine r_mv_p rfl ?_ | refine r_doA rfl ?_ | refine r_fad rfl rfl ?_ | refine r_pickT rfl rfl rfl ?_ | refine r_sem rfl rfl rfl rfl ?_ | refine r_nil ?_)
          exact ⟨weak_S ⟨rfl, rfl, rfl, rfl, tb rfl (by rw [n3, e]; rfl), trivial⟩ ⟨rfl, rfl, rfl, trivial⟩⟩
        | false =>
          have n3 : (!decide (k.status = 3)) = true := by rw [a3]; rfl
          have e : (decide (k.status < 1) || decide (3 < k.status)) = true := by
            have := of_decide_eq_false a1
            have := of_decide_eq_false a2
            have := of_decide_eq_false a3
            simp only [Bool.or_eq_true, decide_eq_true_eq]; omega
          repeat (first
            | refine r_mv_p rfl ?_ | refine r_doA rfl ?_ | refine r_fad rfl rfl ?_ | refine r_pickT rfl rfl rfl ?_ | refine r_sem rfl rfl rfl rfl ?_ | refine r_nil ?_)
          exact ⟨weak_S ⟨rfl, rfl, rfl, rfl, tb rfl (by rw [n3, e]), trivial⟩ ⟨rfl, rfl, rfl, trivial⟩⟩
  cases hst : (decide (k.status < 1) || decide (3 < k.status)) with
  | true =>
    rw [record_no (e := 31) (by rw [hE1, if_pos hst]) (by decide)]
    repeat (first
      | refine r_mv_p rfl ?_ | refine r_sem rfl rfl rfl rfl ?_ | refine r_nil ?_ | refine r_storeAll rfl rfl rfl rfl rfl rfl ?_ | refine run_seq ?_ | refine run_reg ?_ | refine run_ret ?_
      | refine fin_seq ?_ | refine fin_seq_r ?_ | refine run_condT rfl ?_)
    exact fin_out rfl rfl
  | false =>
  rw [if_neg (by rw [hst]; decide)] at hE1
  cases b1 : decide (n < 0) with
  | true =>
    rw [record_no (e := 10) (by rw [hE1, b1, if_pos (by rfl)]) (by decide)]
    repeat (first
      | refine r_mv_p rfl ?_ | refine r_skipA rfl ?_ | refine r_pickT rfl rfl rfl ?_ | refine r_sem rfl rfl rfl rfl ?_ | refine r_nil ?_ | refine r_storeAll rfl rfl rfl rfl rfl rfl ?_
      | refine run_seq ?_ | refine run_reg ?_ | refine run_skip ?_ | refine run_ret ?_ | refine fin_seq ?_ | refine fin_seq_r ?_ | refine run_condT rfl ?_ | refine run_condF rfl ?_)
    exact fin_out rfl rfl
  | false =>
  cases b2 : decide ((1000000000 : Int) < n) with
  | true =>
    rw [record_no (e := 10) (by rw [hE1, b1, b2, if_pos (by rfl)]) (by decide)]
    repeat (first
      | refine r_mv_p rfl ?_ | refine r_doA rfl ?_ | refine r_pickF rfl rfl rfl ?_ | refine r_sem rfl rfl rfl rfl ?_ | refine r_nil ?_ | refine r_storeAll rfl rfl rfl rfl rfl rfl ?_
      | refine run_seq ?_ | refine run_reg ?_ | refine run_skip ?_ | refine run_ret ?_ | refine fin_seq ?_ | refine fin_seq_r ?_ | refine run_condT rfl ?_ | refine run_condF rfl ?_)
    exact fin_out rfl rfl
  | false =>
  rw [b1, b2, if_neg (by decide)] at hE1
  repeat (first
    | refine r_mv_p rfl ?_ | refine r_doA rfl ?_ | refine r_pickF rfl rfl rfl ?_ | refine r_sem rfl rfl rfl rfl ?_ | refine r_nil ?_ | refine run_seq ?_ | refine run_reg ?_
    | refine run_block ?_ | refine run_skip ?_ | refine fin_seq ?_ | refine run_condF rfl ?_)
  refine run_weak (weak_S ?_ ?_) (run_inv (fun i : Nat => S [(2, .p (.v (.int .i64 n))), (3, .own 3 0), (4, .own 4 0), (6, .own 6 0), (14, .p (.v (.bool ((h.counted.xs.take i).any fun y => decide (y.key = k))))), (15, .p (.v (.int .i64 (i : Nat))))] [(3, some (.box h.enc false)), (4, some (.box k.enc false)), (6, some (.box House.zero.enc false))])
    (fun i => i ≤ h.counted.xs.length) (fun i => h.counted.xs.length - i) ?_ 0 (Nat.zero_le _))
  · exact ⟨rfl, rfl, rfl, rfl, rfl, rfl, trivial⟩
  · exact ⟨rfl, rfl, rfl, trivial⟩
  intro i hi ih
  repeat (first
    | refine r_mv_p rfl ?_ | refine r_fad rfl rfl ?_ | refine r_sem rfl rfl rfl rfl ?_ | refine r_nil ?_ | refine run_seq ?_ | refine run_reg ?_ | refine fin_seq ?_)
  refine run_cond rfl (fun h1 => ?_) (fun h1 => ?_)
  · have hlt : i < h.counted.xs.length := by simpa using h1
    have hx : (h.counted.xs.map Counted.enc)[i]? = some h.counted.xs[i].enc := by simp [hlt]
    have hs : ((h.counted.xs.take (i + 1)).any fun y => decide (y.key = k)) = (((h.counted.xs.take i).any fun y => decide (y.key = k)) || decide (h.counted.xs[i].key = k)) := by
      rw [← List.take_append_getElem hlt, List.any_append]; simp
    obtain ⟨y, hy⟩ : ∃ y, y = h.counted.xs[i] := ⟨_, rfl⟩
    rw [← hy] at hx hs
    have he := key_eqs y.key k
    obtain ⟨o, ho⟩ : ∃ o, o = ((h.counted.xs.take i).any fun y => decide (y.key = k)) := ⟨_, rfl⟩
    rw [← ho] at hs ⊢
    cases o with
    | true =>
      repeat (first
        | refine r_mv_p rfl ?_ | refine r_skipA rfl ?_ | refine r_addA rfl rfl ?_ | refine r_pickT rfl rfl rfl ?_ | refine r_nil ?_ | refine run_seq ?_ | refine run_reg ?_
        | refine run_regd rfl ?_ | refine run_block ?_ | refine run_skip ?_ | refine fin_seq ?_ | refine fin_blk ?_)
      refine fin_loop (run_weak (weak_S ?_ ?_) (ih (i + 1) hlt (by omega)))
      · exact ⟨rfl, rfl, rfl, rfl, tb rfl (by rw [hs]; rfl), rfl, trivial⟩
      · exact ⟨rfl, rfl, rfl, trivial⟩
    | false =>
      repeat (first
        | refine r_eqsV rfl rfl he ?_ | refine r_mv_p rfl ?_ | refine r_doA rfl ?_ | refine r_fad rfl rfl ?_ | refine r_addA rfl rfl ?_ | refine r_loadB rfl rfl ?_
        | refine r_pickF rfl rfl rfl ?_ | refine r_sem rfl rfl rfl rfl ?_ | refine r_nil ?_ | refine r_iadA rfl rfl ?_ | refine run_seq ?_ | refine run_reg ?_ | refine run_regd rfl ?_
        | refine run_block ?_ | refine run_skip ?_ | refine fin_seq ?_ | refine fin_blk ?_)
      refine fin_loop (run_weak (weak_S ?_ ?_) (ih (i + 1) hlt (by omega)))
      · exact ⟨rfl, rfl, rfl, rfl, tb rfl (by rw [hs]; rfl), rfl, trivial⟩
      · exact ⟨rfl, rfl, rfl, trivial⟩
  · have hlt : i = h.counted.xs.length := by simp at h1; omega
    have hall : ((h.counted.xs.take i).any fun y => decide (y.key = k)) = (h.counted.xs.any fun y => decide (y.key = k)) := by rw [hlt, List.take_length]
    rw [hall]
    clear ih
    generalize (h.counted.xs.any fun y => decide (y.key = k)) = o at *
    cases o with
    | true =>
      rw [if_neg (by simp)] at hE1
      rw [record_yes hE1]
      repeat (first
        | refine r_call rfl (hw) ?_ | refine r_mv_p rfl ?_ | refine r_skipA rfl ?_ | refine r_loadB rfl rfl ?_ | refine r_pickF rfl rfl rfl ?_ | refine r_sem rfl rfl rfl rfl ?_
        | refine r_nil ?_ | refine r_storeAll rfl rfl rfl rfl rfl rfl ?_ | refine run_seq ?_ | refine run_reg ?_ | refine run_skip ?_ | refine run_exit ?_ | refine run_ret ?_
        | refine fin_seq ?_ | refine fin_seq_e ?_ | refine fin_blk_e ?_ | refine fin_loop_e ?_ | refine run_condF rfl ?_)
      exact fin_out rfl rfl
    | false =>
      cases k5 : decide ((64 : Int) ≤ (((h.counted.xs.map Counted.enc).length : Nat) : Int)) with
      | true =>
        have k5' : 64 ≤ h.counted.xs.length := by rw [hll] at k5; have := of_decide_eq_true k5; omega
        rw [record_no (e := 14) (by rw [hE1, if_pos (by simp [k5'])]) (by decide)]
        repeat (first
          | refine r_mv_p rfl ?_ | refine r_doA rfl ?_ | refine r_fad rfl rfl ?_ | refine r_pickT rfl rfl rfl ?_ | refine r_sem rfl rfl rfl rfl ?_ | refine r_nil ?_
          | refine r_storeAll rfl rfl rfl rfl rfl rfl ?_ | refine run_seq ?_ | refine run_reg ?_ | refine run_exit ?_ | refine run_ret ?_ | refine fin_seq ?_ | refine fin_seq_e ?_
          | refine fin_seq_r ?_ | refine fin_blk_e ?_ | refine fin_loop_e ?_ | refine run_condT rfl ?_)
        exact fin_out rfl rfl
      | false =>
        have k5' : ¬ 64 ≤ h.counted.xs.length := by rw [hll] at k5; have := of_decide_eq_false k5; omega
        rw [if_neg (by simp; omega)] at hE1
        rw [record_yes hE1]
        repeat (first
          | refine r_call rfl (hw) ?_ | refine r_mv_p rfl ?_ | refine r_doA rfl ?_ | refine r_fad rfl rfl ?_ | refine r_loadB rfl rfl ?_ | refine r_pickT rfl rfl rfl ?_
          | refine r_sem rfl rfl rfl rfl ?_ | refine r_nil ?_ | refine r_storeAll rfl rfl rfl rfl rfl rfl ?_ | refine run_seq ?_ | refine run_reg ?_ | refine run_skip ?_ | refine run_exit ?_
          | refine run_ret ?_ | refine fin_seq ?_ | refine fin_seq_e ?_ | refine fin_blk_e ?_ | refine fin_loop_e ?_ | refine run_condF rfl ?_)
        exact fin_out rfl rfl
end Go.Fw
