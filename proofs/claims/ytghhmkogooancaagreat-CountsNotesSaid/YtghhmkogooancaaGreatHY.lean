/-
  Bins that are frozen; by the program and by the document.
-/
import Derived.Test.YtghhmkogooancaaGreatHX
import Derived.Test.YtghhmkogooancaaGreatHL
import Derived.Test.YtghhmkogooancaaGreatIrF
set_option linter.unusedVariables false
set_option linter.unusedSimpArgs false
set_option maxRecDepth 10000
namespace Go.Fw
open Go.Proofs

set_option maxHeartbeats 4000000 in
theorem freeze65 (h : House) (c : Str) (on : Bool) (hbig : (h.bins.xs.length + 1) * 80 ≤ 140737488355328) : Ret Tryz.prog 87 [.agg h.enc, .v (.string c), .v (.bool on)] (houseOut (h.freeze c on)) := by
  refine ret87 rfl fun hbd => ?_
  have hb := findBin h c
  unfold c87
  unfold House.freeze
  cases hc : h.bin? c with
  | none =>
    simp only [hc, itemOut_none, itemOut_some, binOut_none, binOut_some] at hb
    repeat (first
      | refine r_call rfl (hb) ?_ | refine r_mv_p rfl ?_ | refine r_loadB rfl rfl ?_ | refine r_sem rfl rfl rfl rfl ?_ | refine r_nil ?_ | refine r_storeAll rfl rfl rfl rfl rfl rfl ?_
      | refine r_alloc rfl ?_ | refine r_box rfl rfl rfl ?_ | refine run_seq ?_ | refine run_reg ?_ | refine run_block ?_ | refine run_ret ?_ | refine fin_seq ?_ | refine fin_seq_r ?_
      | refine fin_blk_r ?_ | refine run_condT rfl ?_)
    exact fin_out rfl rfl
  | some b =>
    simp only [hc, itemOut_none, itemOut_some, binOut_none, binOut_some] at hb
    simp only
    have hp := put119 Bin.enc (fun _ => rfl) 143 binCmp order143 { b with frozen := on } h.bins.xs h.bins.sp hbig
    cases on with
    | true =>
      cases hf : b.frozen with
      | true =>
        repeat (first
          | refine r_call rfl (hb) ?_ | refine r_mv_p rfl ?_ | refine r_doA rfl ?_ | refine r_fad rfl rfl ?_ | refine r_loadB rfl rfl ?_ | refine r_pickT rfl rfl rfl ?_
          | refine r_sem rfl rfl rfl rfl ?_ | refine r_nil ?_ | refine r_storeAll rfl rfl rfl rfl rfl rfl ?_ | refine r_alloc rfl ?_ | refine r_box rfl rfl rfl ?_ | refine run_seq ?_
          | refine run_reg ?_ | refine run_block ?_ | refine run_ret ?_ | refine fin_seq ?_ | refine fin_seq_r ?_ | refine fin_blk_r ?_ | refine run_condT rfl ?_ | refine run_condF rfl ?_)
        exact fin_out rfl rfl
      | false =>
        have hd : (false != decide (true = b.frozen)) = false := by rw [hf]; rfl
        repeat (first
          | refine r_call rfl (hb) ?_ | refine r_call rfl (rows107) ?_ | refine r_call rfl (hp) ?_ | refine r_mv_p rfl ?_ | refine r_doA rfl ?_ | refine r_fad rfl rfl ?_
          | refine r_loadB rfl rfl ?_ | refine r_pickT rfl rfl rfl ?_ | refine r_sem rfl rfl rfl rfl ?_ | refine r_nil ?_ | refine r_storeAll rfl rfl rfl rfl rfl rfl ?_
          | refine r_store rfl rfl rfl rfl (And.intro rfl (Nat.le_of_ble_eq_true rfl)) ?_ | refine r_alloc rfl ?_ | refine r_box rfl rfl rfl ?_ | refine run_seq ?_ | refine run_reg ?_
          | refine run_regd rfl ?_ | refine run_block ?_ | refine run_skip ?_ | refine run_ret ?_ | refine fin_seq ?_ | refine fin_blk ?_ | refine run_condF rfl ?_)
        exact fin_out rfl rfl
    | false =>
      cases hf : b.frozen with
      | true =>
        have hd : (false != decide (false = b.frozen)) = false := by rw [hf]; rfl
        repeat (first
          | refine r_call rfl (hb) ?_ | refine r_call rfl (rows107) ?_ | refine r_call rfl (hp) ?_ | refine r_mv_p rfl ?_ | refine r_skipA rfl ?_ | refine r_fad rfl rfl ?_
          | refine r_loadB rfl rfl ?_ | refine r_pickF rfl rfl rfl ?_ | refine r_sem rfl rfl rfl rfl ?_ | refine r_nil ?_ | refine r_storeAll rfl rfl rfl rfl rfl rfl ?_
          | refine r_store rfl rfl rfl rfl (And.intro rfl (Nat.le_of_ble_eq_true rfl)) ?_ | refine r_alloc rfl ?_ | refine r_box rfl rfl rfl ?_ | refine run_seq ?_ | refine run_reg ?_
          | refine run_regd rfl ?_ | refine run_block ?_ | refine run_skip ?_ | refine run_ret ?_ | refine fin_seq ?_ | refine fin_blk ?_ | refine run_condF rfl ?_)
        exact fin_out rfl rfl
      | false =>
        have hd : (false != decide (false = b.frozen)) = true := by rw [hf]; rfl
        repeat (first
          | refine r_call rfl (hb) ?_ | refine r_mv_p rfl ?_ | refine r_skipA rfl ?_ | refine r_fad rfl rfl ?_ | refine r_loadB rfl rfl ?_ | refine r_pickF rfl rfl rfl ?_
          | refine r_sem rfl rfl rfl rfl ?_ | refine r_nil ?_ | refine r_storeAll rfl rfl rfl rfl rfl rfl ?_ | refine r_alloc rfl ?_ | refine r_box rfl rfl rfl ?_ | refine run_seq ?_
          | refine run_reg ?_ | refine run_block ?_ | refine run_ret ?_ | refine fin_seq ?_ | refine fin_seq_r ?_ | refine fin_blk_r ?_ | refine run_condT rfl ?_ | refine run_condF rfl ?_)
        exact fin_out rfl rfl
set_option maxHeartbeats 4000000 in
theorem refFreeze66 (h : House) (c : Str) (on : Bool) (hbig : (h.bins.xs.length + 1) * 80 ≤ 140737488355328) : Ret Tryz.prog 44 [.agg h.enc, .v (.string c), .v (.bool on)] (houseOut (h.freeze c on)) := by
  refine ret44 rfl fun hbd => ?_
  have hb := refFindBin h c
  unfold c44
  unfold House.freeze
  cases hc : h.bin? c with
  | none =>
    simp only [hc, itemOut_none, itemOut_some, binOut_none, binOut_some] at hb
    repeat (first
      | refine r_call rfl (hb) ?_ | refine r_mv_p rfl ?_ | refine r_loadB rfl rfl ?_ | refine r_sem rfl rfl rfl rfl ?_ | refine r_nil ?_ | refine r_storeAll rfl rfl rfl rfl rfl rfl ?_
      | refine r_alloc rfl ?_ | refine r_box rfl rfl rfl ?_ | refine run_seq ?_ | refine run_reg ?_ | refine run_ret ?_ | refine fin_seq ?_ | refine fin_seq_r ?_ | refine run_condT rfl ?_)
    exact fin_out rfl rfl
  | some b =>
    simp only [hc, itemOut_none, itemOut_some, binOut_none, binOut_some] at hb
    simp only
    have hp := refwithBin h { b with frozen := on } hbig
    cases on with
    | true =>
      cases hf : b.frozen with
      | true =>
        repeat (first
          | refine r_call rfl (hb) ?_ | refine r_mv_p rfl ?_ | refine r_doA rfl ?_ | refine r_fad rfl rfl ?_ | refine r_loadB rfl rfl ?_ | refine r_pickT rfl rfl rfl ?_
          | refine r_sem rfl rfl rfl rfl ?_ | refine r_nil ?_ | refine r_storeAll rfl rfl rfl rfl rfl rfl ?_ | refine r_alloc rfl ?_ | refine r_box rfl rfl rfl ?_ | refine run_seq ?_
          | refine run_reg ?_ | refine run_skip ?_ | refine run_ret ?_ | refine fin_seq ?_ | refine fin_seq_r ?_ | refine run_condT rfl ?_ | refine run_condF rfl ?_)
        exact fin_out rfl rfl
      | false =>
        repeat (first
          | refine r_call rfl (hb) ?_ | refine r_call rfl (hp) ?_ | refine r_mv_p rfl ?_ | refine r_doA rfl ?_ | refine r_skipA rfl ?_ | refine r_fad rfl rfl ?_ | refine r_loadB rfl rfl ?_
          | refine r_pickT rfl rfl rfl ?_ | refine r_pickF rfl rfl rfl ?_ | refine r_sem rfl rfl rfl rfl ?_ | refine r_nil ?_ | refine r_storeAll rfl rfl rfl rfl rfl rfl ?_
          | refine r_store rfl rfl rfl rfl (And.intro rfl (Nat.le_of_ble_eq_true rfl)) ?_ | refine r_alloc rfl ?_ | refine r_box rfl rfl rfl ?_ | refine run_seq ?_ | refine run_reg ?_
          | refine run_skip ?_ | refine run_ret ?_ | refine fin_seq ?_ | refine run_condF rfl ?_)
        exact fin_out rfl rfl
    | false =>
      cases hf : b.frozen with
      | true =>
        have hd : (!b.frozen) = false := by rw [hf]; rfl
        repeat (first
          | refine r_call rfl (hb) ?_ | refine r_call rfl (hp) ?_ | refine r_mv_p rfl ?_ | refine r_doA rfl ?_ | refine r_skipA rfl ?_ | refine r_fad rfl rfl ?_ | refine r_loadB rfl rfl ?_
          | refine r_pickT rfl rfl rfl ?_ | refine r_pickF rfl rfl rfl ?_ | refine r_sem rfl rfl rfl rfl ?_ | refine r_nil ?_ | refine r_storeAll rfl rfl rfl rfl rfl rfl ?_
          | refine r_store rfl rfl rfl rfl (And.intro rfl (Nat.le_of_ble_eq_true rfl)) ?_ | refine r_alloc rfl ?_ | refine r_box rfl rfl rfl ?_ | refine run_seq ?_ | refine run_reg ?_
          | refine run_skip ?_ | refine run_ret ?_ | refine fin_seq ?_ | refine run_condF rfl ?_)
        exact fin_out rfl rfl
      | false =>
        have hd : (!b.frozen) = true := by rw [hf]; rfl
        repeat (first
          | refine r_call rfl (hb) ?_ | refine r_mv_p rfl ?_ | refine r_doA rfl ?_ | refine r_skipA rfl ?_ | refine r_fad rfl rfl ?_ | refine r_loadB rfl rfl ?_ | refine r_pickT rfl rfl rfl ?_
          | refine r_pickF rfl rfl rfl ?_ | refine r_sem rfl rfl rfl rfl ?_ | refine r_nil ?_ | refine r_storeAll rfl rfl rfl rfl rfl rfl ?_ | refine r_alloc rfl ?_
          | refine r_box rfl rfl rfl ?_ | refine run_seq ?_ | refine run_reg ?_ | refine run_skip ?_ | refine run_ret ?_ | refine fin_seq ?_ | refine fin_seq_r ?_ | refine run_condT rfl ?_
          | refine run_condF rfl ?_)
        exact fin_out rfl rfl
end Go.Fw

