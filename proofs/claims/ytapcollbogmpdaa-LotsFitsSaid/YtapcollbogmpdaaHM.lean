/-
  Lots: whether one is taken, and what a house is with it; by the program and by the document.
-/
import Derived.Test.YtapcollbogmpdaaHS
import Derived.Test.YtapcollbogmpdaaIrH
set_option linter.unusedVariables false
set_option linter.unusedSimpArgs false
set_option maxRecDepth 10000
namespace Go.Fw
open Go.Proofs

def House.lotE (h : House) (x : Lot) : Int :=
  if (h.item? x.item).isSome = false then 12
  else if ((h.item? x.item).getD Item.zero).lots = false then 21
  else if nameE x.code ≠ 0 then nameE x.code
  else if (decide (x.expiry < 0) || decide (100000 < x.expiry)) = true then 5
  else if (h.lot? x.item x.code).isSome = true then 11
  else if 128 ≤ h.lots.xs.length then 14
  else 0
theorem addLot_eq (h : House) (x : Lot) : h.addLot x = if h.lotE x = 0 then (h.withLot x, 0) else (House.zero, h.lotE x) := by
  unfold House.addLot House.lotE
  split
  · rw [if_neg (by decide)]
  split
  · rw [if_neg (by decide)]
  split
  · rfl
  split
  · rw [if_neg (by decide)]
  split
  · rw [if_neg (by decide)]
  split
  · rw [if_neg (by decide)]
  rw [if_pos rfl]
set_option maxHeartbeats 8000000 in
theorem refuses110 (h : House) (x : Lot) : Ret Try.prog 110 [.agg h.enc, .agg x.enc] (.v (.int .i64 (h.lotE x))) := by
  refine ret110 rfl fun hbd => ?_
  have hi := itemsFind h x.item
  have hl := lotsFind h x.item x.code
  have hn := nums106 x.code
  have hll : (h.lots.xs.map Lot.enc).length = h.lots.xs.length := List.length_map ..
  unfold itemOut at hi
  unfold lotOut at hl
  unfold House.lotE
  unfold c110
  generalize (h.item? x.item).isSome = is at *
  generalize (h.item? x.item).getD Item.zero = it at *
  generalize (h.lot? x.item x.code).isSome = there at *
  generalize (h.lot? x.item x.code).getD Lot.zero = lo at *
  generalize nameE x.code = ne at *
  cases is with
  | false =>
    repeat (first
      | refine r_call rfl (hi) ?_ | refine r_mv_p rfl ?_ | refine r_fad rfl rfl ?_ | refine r_loadAllB rfl rfl (by first | rfl | assumption) ?_ | refine r_sem rfl rfl rfl rfl ?_
      | refine r_nil ?_ | refine r_storeAll rfl rfl rfl rfl rfl rfl ?_ | refine r_alloc rfl ?_ | refine r_box rfl rfl rfl ?_ | refine run_seq ?_ | refine run_reg ?_ | refine run_block ?_
      | refine run_ret ?_ | refine fin_seq ?_ | refine fin_seq_r ?_ | refine fin_blk_r ?_ | refine run_cond_t rfl (by first | with_reducible rfl | assumption | decide) ?_)
    exact fin_out rfl rfl
  | true =>
    cases k1 : it.lots with
    | false =>
      have k1' : (!it.lots) = true := by rw [k1]; rfl
      repeat (first
        | refine r_call rfl (hi) ?_ | refine r_mv_p rfl ?_ | refine r_fad rfl rfl ?_ | refine r_loadAllB rfl rfl (by first | rfl | assumption) ?_ | refine r_sem rfl rfl rfl rfl ?_
        | refine r_nil ?_ | refine r_storeAll rfl rfl rfl rfl rfl rfl ?_ | refine r_alloc rfl ?_ | refine r_box rfl rfl rfl ?_ | refine run_seq ?_ | refine run_reg ?_ | refine run_block ?_
        | refine run_ret ?_ | refine fin_seq ?_ | refine fin_seq_r ?_ | refine fin_blk_r ?_ | refine run_cond_t rfl (by first | with_reducible rfl | assumption | decide) ?_
        | refine run_cond_f rfl (by first | with_reducible rfl | assumption | decide) ?_)
      exact fin_out rfl (by simp [k1])
    | true =>
      have k1' : (!it.lots) = false := by rw [k1]; rfl
      cases k2 : decide (ne = 0) with
      | false =>
        have k2' : (!decide (ne = 0)) = true := by rw [k2]; rfl
        have k2n := of_decide_eq_false k2
        repeat (first
          | refine r_call rfl (hi) ?_ | refine r_call rfl (hn) ?_ | refine r_mv_p rfl ?_ | refine r_fad rfl rfl ?_ | refine r_loadAllB rfl rfl (by first | rfl | assumption) ?_
          | refine r_sem rfl rfl rfl rfl ?_ | refine r_nil ?_ | refine r_storeAll rfl rfl rfl rfl rfl rfl ?_ | refine r_alloc rfl ?_ | refine r_box rfl rfl rfl ?_ | refine run_seq ?_
          | refine run_reg ?_ | refine run_block ?_ | refine run_skip ?_ | refine run_ret ?_ | refine fin_seq ?_ | refine fin_seq_r ?_ | refine fin_blk ?_
          | refine run_cond_t rfl (by first | with_reducible rfl | assumption | decide) ?_ | refine run_cond_f rfl (by first | with_reducible rfl | assumption | decide) ?_)
        exact fin_out rfl (by simp [k1, k2n])
      | true =>
        have k2' : (!decide (ne = 0)) = false := by rw [k2]; rfl
        have k2n := of_decide_eq_true k2
        cases k3 : decide (x.expiry < 0) with
        | true =>
          repeat (first
            | refine r_call rfl (hi) ?_ | refine r_call rfl (hn) ?_ | refine r_call rfl (hl) ?_ | refine r_mv_p rfl ?_ | refine r_skip rfl (by first | with_reducible rfl | assumption | decide) ?_
            | refine r_fad rfl rfl ?_ | refine r_loadAllB rfl rfl (by first | rfl | assumption) ?_ | refine r_pick_t rfl (by first | with_reducible rfl | assumption | decide) rfl rfl ?_
            | refine r_sem rfl rfl rfl rfl ?_ | refine r_nil ?_ | refine r_storeAll rfl rfl rfl rfl rfl rfl ?_ | refine r_alloc rfl ?_ | refine r_box rfl rfl rfl ?_ | refine run_seq ?_
            | refine run_reg ?_ | refine run_block ?_ | refine run_skip ?_ | refine run_ret ?_ | refine fin_seq ?_ | refine fin_seq_r ?_ | refine fin_blk ?_ | refine fin_blk_r ?_
            | refine run_cond_t rfl (by first | with_reducible rfl | assumption | decide) ?_ | refine run_cond_f rfl (by first | with_reducible rfl | assumption | decide) ?_)
          exact fin_out rfl (by simp [k1, k2n, k3])
        | false =>
          cases k4 : decide ((100000 : Int) < x.expiry) with
          | true =>
            repeat (first
              | refine r_call rfl (hi) ?_ | refine r_call rfl (hn) ?_ | refine r_call rfl (hl) ?_ | refine r_mv_p rfl ?_ | refine r_do rfl (by first | with_reducible rfl | assumption | decide) ?_
              | refine r_fad rfl rfl ?_ | refine r_loadAllB rfl rfl (by first | rfl | assumption) ?_ | refine r_pick_f rfl (by first | with_reducible rfl | assumption | decide) rfl rfl ?_
              | refine r_sem rfl rfl rfl rfl ?_ | refine r_nil ?_ | refine r_storeAll rfl rfl rfl rfl rfl rfl ?_ | refine r_alloc rfl ?_ | refine r_box rfl rfl rfl ?_ | refine run_seq ?_
              | refine run_reg ?_ | refine run_block ?_ | refine run_skip ?_ | refine run_ret ?_ | refine fin_seq ?_ | refine fin_seq_r ?_ | refine fin_blk ?_ | refine fin_blk_r ?_
              | refine run_cond_t rfl (by first | with_reducible rfl | assumption | decide) ?_ | refine run_cond_f rfl (by first | with_reducible rfl | assumption | decide) ?_)
            exact fin_out rfl (by simp [k1, k2n, k3, k4])
          | false =>
            cases there with
            | true =>
              repeat (first
                | refine r_call rfl (hi) ?_ | refine r_call rfl (hn) ?_ | refine r_call rfl (hl) ?_ | refine r_mv_p rfl ?_ | refine r_do rfl (by first | with_reducible rfl | assumption | decide) ?_
                | refine r_fad rfl rfl ?_ | refine r_loadAllB rfl rfl (by first | rfl | assumption) ?_ | refine r_pick_f rfl (by first | with_reducible rfl | assumption | decide) rfl rfl ?_
                | refine r_sem rfl rfl rfl rfl ?_ | refine r_nil ?_ | refine r_storeAll rfl rfl rfl rfl rfl rfl ?_ | refine r_alloc rfl ?_ | refine r_box rfl rfl rfl ?_ | refine run_seq ?_
                | refine run_reg ?_ | refine run_block ?_ | refine run_skip ?_ | refine run_ret ?_ | refine fin_seq ?_ | refine fin_seq_r ?_ | refine fin_blk ?_ | refine fin_blk_r ?_
                | refine run_cond_t rfl (by first | with_reducible rfl | assumption | decide) ?_ | refine run_cond_f rfl (by first | with_reducible rfl | assumption | decide) ?_)
              exact fin_out rfl (by simp [k1, k2n, k3, k4])
            | false =>
              cases k5 : decide ((128 : Int) ≤ (((h.lots.xs.map Lot.enc).length : Nat) : Int)) with
              | true =>
                have k5' : 128 ≤ h.lots.xs.length := by rw [hll] at k5; have := of_decide_eq_true k5; omega
                repeat (first
                  | refine r_call rfl (hi) ?_ | refine r_call rfl (hn) ?_ | refine r_call rfl (hl) ?_ | refine r_mv_p rfl ?_ | refine r_do rfl (by first | with_reducible rfl | assumption | decide) ?_
                  | refine r_fad rfl rfl ?_ | refine r_loadAllB rfl rfl (by first | rfl | assumption) ?_ | refine r_pick_f rfl (by first | with_reducible rfl | assumption | decide) rfl rfl ?_
                  | refine r_sem rfl rfl rfl rfl ?_ | refine r_nil ?_ | refine r_storeAll rfl rfl rfl rfl rfl rfl ?_ | refine r_alloc rfl ?_ | refine r_box rfl rfl rfl ?_ | refine run_seq ?_
                  | refine run_reg ?_ | refine run_block ?_ | refine run_skip ?_ | refine run_ret ?_ | refine fin_seq ?_ | refine fin_seq_r ?_ | refine fin_blk ?_ | refine fin_blk_r ?_
                  | refine run_cond_t rfl (by first | with_reducible rfl | assumption | decide) ?_ | refine run_cond_f rfl (by first | with_reducible rfl | assumption | decide) ?_)
                exact fin_out rfl (by simp [k1, k2n, k3, k4, k5'])
              | false =>
                have k5' : ¬ 128 ≤ h.lots.xs.length := by rw [hll] at k5; have := of_decide_eq_false k5; omega
                repeat (first
                  | refine r_call rfl (hi) ?_ | refine r_call rfl (hn) ?_ | refine r_call rfl (hl) ?_ | refine r_mv_p rfl ?_ | refine r_do rfl (by first | with_reducible rfl | assumption | decide) ?_
                  | refine r_fad rfl rfl ?_ | refine r_loadAllB rfl rfl (by first | rfl | assumption) ?_ | refine r_pick_f rfl (by first | with_reducible rfl | assumption | decide) rfl rfl ?_
                  | refine r_sem rfl rfl rfl rfl ?_ | refine r_nil ?_ | refine r_storeAll rfl rfl rfl rfl rfl rfl ?_ | refine r_alloc rfl ?_ | refine r_box rfl rfl rfl ?_ | refine run_seq ?_
                  | refine run_reg ?_ | refine run_block ?_ | refine run_skip ?_ | refine run_ret ?_ | refine fin_seq ?_ | refine fin_blk ?_
                  | refine run_cond_f rfl (by first | with_reducible rfl | assumption | decide) ?_)
                exact fin_out rfl (by simp [k1, k2n, k3, k4, k5'])
set_option maxHeartbeats 4000000 in
theorem addLot44 (h : House) (x : Lot) (hbig : (h.lots.xs.length + 1) * 40 ≤ 140737488355328) : Ret Try.prog 44 [.agg h.enc, .agg x.enc] (houseOut (h.addLot x)) := by
  refine ret44 rfl fun hbd => ?_
  rw [addLot_eq]
  unfold c44
  repeat (first
    | refine r_call rfl (refuses110 h x) ?_ | refine r_mv_p rfl ?_ | refine r_loadAllB rfl rfl (by first | rfl | assumption) ?_ | refine r_sem rfl rfl rfl rfl ?_ | refine r_nil ?_
    | refine r_alloc rfl ?_ | refine r_box rfl rfl rfl ?_ | refine run_seq ?_ | refine run_reg ?_ | refine fin_seq ?_)
  refine run_cond rfl (fun h1 => ?_) (fun h1 => ?_)
  · have h1' : ¬ h.lotE x = 0 := by simpa using h1
    rw [if_neg h1']
    repeat (first
      | refine r_mv_p rfl ?_ | refine r_sem rfl rfl rfl rfl ?_ | refine r_nil ?_ | refine r_storeAll rfl rfl rfl rfl rfl rfl ?_ | refine run_seq ?_ | refine run_reg ?_ | refine run_ret ?_
      | refine fin_seq ?_ | refine fin_seq_r ?_)
    exact fin_out rfl rfl
  have h1' : h.lotE x = 0 := by simpa using h1
  rw [if_pos h1']
  repeat (first
    | refine r_call rfl (rowsLots) ?_ | refine r_call rfl (put112 Lot.enc (fun _ => rfl) 140 lotCmp lots_order x h.lots.xs h.lots.sp hbig) ?_ | refine r_mv_p rfl ?_
    | refine r_fad rfl rfl ?_ | refine r_loadAllB rfl rfl (by first | rfl | assumption) ?_ | refine r_sem rfl rfl rfl rfl ?_ | refine r_nil ?_
    | refine r_storeAll rfl rfl rfl rfl rfl rfl ?_ | refine r_store rfl rfl rfl rfl (And.intro rfl (Nat.le_of_ble_eq_true rfl)) ?_ | refine run_seq ?_ | refine run_reg ?_
    | refine run_regd rfl ?_ | refine run_skip ?_ | refine run_ret ?_ | refine fin_seq ?_)
  exact fin_out rfl rfl
set_option maxHeartbeats 8000000 in
theorem refAddLot45 (h : House) (x : Lot) (hbig : (h.lots.xs.length + 1) * 40 ≤ 140737488355328) : Ret Try.prog 45 [.agg h.enc, .agg x.enc] (houseOut (h.addLot x)) := by
  refine ret45 rfl fun hbd => ?_
  have hi := refFindItem h x.item
  have hl := refFindLot h x.item x.code
  have hn := refName109 x.code
  have hw := refwithLot h x hbig
  have hll : (h.lots.xs.map Lot.enc).length = h.lots.xs.length := List.length_map ..
  unfold itemOut at hi
  unfold lotOut at hl
  unfold House.addLot
  unfold c45
  generalize (h.item? x.item).isSome = is at *
  generalize (h.item? x.item).getD Item.zero = it at *
  generalize (h.lot? x.item x.code).isSome = there at *
  generalize (h.lot? x.item x.code).getD Lot.zero = lo at *
  generalize nameE x.code = ne at *
  cases is with
  | false =>
    repeat (first
      | refine r_call rfl (hi) ?_ | refine r_mv_p rfl ?_ | refine r_fad rfl rfl ?_ | refine r_loadAllB rfl rfl (by first | rfl | assumption) ?_ | refine r_sem rfl rfl rfl rfl ?_
      | refine r_nil ?_ | refine r_storeAll rfl rfl rfl rfl rfl rfl ?_ | refine r_alloc rfl ?_ | refine r_box rfl rfl rfl ?_ | refine run_seq ?_ | refine run_reg ?_ | refine run_ret ?_
      | refine fin_seq ?_ | refine fin_seq_r ?_ | refine run_cond_t rfl (by first | with_reducible rfl | assumption | decide) ?_)
    exact fin_out rfl rfl
  | true =>
    cases k1 : it.lots with
    | false =>
      have k1' : (!it.lots) = true := by rw [k1]; rfl
      rw [if_neg (by decide), if_pos rfl]
      repeat (first
        | refine r_call rfl (hi) ?_ | refine r_mv_p rfl ?_ | refine r_fad rfl rfl ?_ | refine r_loadAllB rfl rfl (by first | rfl | assumption) ?_ | refine r_sem rfl rfl rfl rfl ?_
        | refine r_nil ?_ | refine r_storeAll rfl rfl rfl rfl rfl rfl ?_ | refine r_alloc rfl ?_ | refine r_box rfl rfl rfl ?_ | refine run_seq ?_ | refine run_reg ?_ | refine run_skip ?_
        | refine run_ret ?_ | refine fin_seq ?_ | refine fin_seq_r ?_ | refine run_cond_t rfl (by first | with_reducible rfl | assumption | decide) ?_
        | refine run_cond_f rfl (by first | with_reducible rfl | assumption | decide) ?_)
      exact fin_out rfl rfl
    | true =>
      have k1' : (!it.lots) = false := by rw [k1]; rfl
      rw [if_neg (by decide), if_neg (by decide)]
      cases k2 : decide (ne = 0) with
      | false =>
        have k2' : (!decide (ne = 0)) = true := by rw [k2]; rfl
        rw [if_pos (show ne ≠ 0 from of_decide_eq_false k2)]
        repeat (first
          | refine r_call rfl (hi) ?_ | refine r_call rfl (hn) ?_ | refine r_mv_p rfl ?_ | refine r_fad rfl rfl ?_ | refine r_loadAllB rfl rfl (by first | rfl | assumption) ?_
          | refine r_sem rfl rfl rfl rfl ?_ | refine r_nil ?_ | refine r_storeAll rfl rfl rfl rfl rfl rfl ?_ | refine r_alloc rfl ?_ | refine r_box rfl rfl rfl ?_ | refine run_seq ?_
          | refine run_reg ?_ | refine run_skip ?_ | refine run_ret ?_ | refine fin_seq ?_ | refine fin_seq_r ?_ | refine run_cond_t rfl (by first | with_reducible rfl | assumption | decide) ?_
          | refine run_cond_f rfl (by first | with_reducible rfl | assumption | decide) ?_)
        exact fin_out rfl rfl
      | true =>
        have k2' : (!decide (ne = 0)) = false := by rw [k2]; rfl
        rw [if_neg (show ¬ ne ≠ 0 from fun e => e (of_decide_eq_true k2))]
        cases k3 : decide (x.expiry < 0) with
        | true =>
          rw [if_pos (by rfl)]
          repeat (first
            | refine r_call rfl (hi) ?_ | refine r_call rfl (hn) ?_ | refine r_mv_p rfl ?_ | refine r_skip rfl (by first | with_reducible rfl | assumption | decide) ?_ | refine r_fad rfl rfl ?_
            | refine r_loadAllB rfl rfl (by first | rfl | assumption) ?_ | refine r_pick_t rfl (by first | with_reducible rfl | assumption | decide) rfl rfl ?_ | refine r_sem rfl rfl rfl rfl ?_
            | refine r_nil ?_ | refine r_storeAll rfl rfl rfl rfl rfl rfl ?_ | refine r_alloc rfl ?_ | refine r_box rfl rfl rfl ?_ | refine run_seq ?_ | refine run_reg ?_ | refine run_skip ?_
            | refine run_ret ?_ | refine fin_seq ?_ | refine fin_seq_r ?_ | refine run_cond_t rfl (by first | with_reducible rfl | assumption | decide) ?_
            | refine run_cond_f rfl (by first | with_reducible rfl | assumption | decide) ?_)
          exact fin_out rfl rfl
        | false =>
          cases k4 : decide ((100000 : Int) < x.expiry) with
          | true =>
            rw [if_pos (by rfl)]
            repeat (first
              | refine r_call rfl (hi) ?_ | refine r_call rfl (hn) ?_ | refine r_mv_p rfl ?_ | refine r_do rfl (by first | with_reducible rfl | assumption | decide) ?_ | refine r_fad rfl rfl ?_
              | refine r_loadAllB rfl rfl (by first | rfl | assumption) ?_ | refine r_pick_f rfl (by first | with_reducible rfl | assumption | decide) rfl rfl ?_ | refine r_sem rfl rfl rfl rfl ?_
              | refine r_nil ?_ | refine r_storeAll rfl rfl rfl rfl rfl rfl ?_ | refine r_alloc rfl ?_ | refine r_box rfl rfl rfl ?_ | refine run_seq ?_ | refine run_reg ?_ | refine run_skip ?_
              | refine run_ret ?_ | refine fin_seq ?_ | refine fin_seq_r ?_ | refine run_cond_t rfl (by first | with_reducible rfl | assumption | decide) ?_
              | refine run_cond_f rfl (by first | with_reducible rfl | assumption | decide) ?_)
            exact fin_out rfl rfl
          | false =>
            rw [if_neg (by decide)]
            cases there with
            | true =>
              rw [if_pos rfl]
              repeat (first
                | refine r_call rfl (hi) ?_ | refine r_call rfl (hn) ?_ | refine r_call rfl (hl) ?_ | refine r_mv_p rfl ?_ | refine r_do rfl (by first | with_reducible rfl | assumption | decide) ?_
                | refine r_fad rfl rfl ?_ | refine r_loadAllB rfl rfl (by first | rfl | assumption) ?_ | refine r_pick_f rfl (by first | with_reducible rfl | assumption | decide) rfl rfl ?_
                | refine r_sem rfl rfl rfl rfl ?_ | refine r_nil ?_ | refine r_storeAll rfl rfl rfl rfl rfl rfl ?_ | refine r_alloc rfl ?_ | refine r_box rfl rfl rfl ?_ | refine run_seq ?_
                | refine run_reg ?_ | refine run_skip ?_ | refine run_ret ?_ | refine fin_seq ?_ | refine fin_seq_r ?_ | refine run_cond_t rfl (by first | with_reducible rfl | assumption | decide) ?_
                | refine run_cond_f rfl (by first | with_reducible rfl | assumption | decide) ?_)
              exact fin_out rfl rfl
            | false =>
              rw [if_neg (by decide)]
              cases k5 : decide ((128 : Int) ≤ (((h.lots.xs.map Lot.enc).length : Nat) : Int)) with
              | true =>
                have k5' : 128 ≤ h.lots.xs.length := by rw [hll] at k5; have := of_decide_eq_true k5; omega
                rw [if_pos k5']
                repeat (first
                  | refine r_call rfl (hi) ?_ | refine r_call rfl (hn) ?_ | refine r_call rfl (hl) ?_ | refine r_mv_p rfl ?_ | refine r_do rfl (by first | with_reducible rfl | assumption | decide) ?_
                  | refine r_fad rfl rfl ?_ | refine r_loadAllB rfl rfl (by first | rfl | assumption) ?_ | refine r_pick_f rfl (by first | with_reducible rfl | assumption | decide) rfl rfl ?_
                  | refine r_sem rfl rfl rfl rfl ?_ | refine r_nil ?_ | refine r_storeAll rfl rfl rfl rfl rfl rfl ?_ | refine r_alloc rfl ?_ | refine r_box rfl rfl rfl ?_ | refine run_seq ?_
                  | refine run_reg ?_ | refine run_skip ?_ | refine run_ret ?_ | refine fin_seq ?_ | refine fin_seq_r ?_ | refine run_cond_t rfl (by first | with_reducible rfl | assumption | decide) ?_
                  | refine run_cond_f rfl (by first | with_reducible rfl | assumption | decide) ?_)
                exact fin_out rfl rfl
              | false =>
                have k5' : ¬ 128 ≤ h.lots.xs.length := by rw [hll] at k5; have := of_decide_eq_false k5; omega
                rw [if_neg k5']
                repeat (first
                  | refine r_call rfl (hi) ?_ | refine r_call rfl (hn) ?_ | refine r_call rfl (hl) ?_ | refine r_call rfl (hw) ?_ | refine r_mv_p rfl ?_
                  | refine r_do rfl (by first | with_reducible rfl | assumption | decide) ?_ | refine r_fad rfl rfl ?_ | refine r_loadAllB rfl rfl (by first | rfl | assumption) ?_
                  | refine r_pick_f rfl (by first | with_reducible rfl | assumption | decide) rfl rfl ?_ | refine r_sem rfl rfl rfl rfl ?_ | refine r_nil ?_
                  | refine r_storeAll rfl rfl rfl rfl rfl rfl ?_ | refine r_alloc rfl ?_ | refine r_box rfl rfl rfl ?_ | refine run_seq ?_ | refine run_reg ?_ | refine run_skip ?_ | refine run_ret ?_
                  | refine fin_seq ?_ | refine run_cond_f rfl (by first | with_reducible rfl | assumption | decide) ?_)
                exact fin_out rfl rfl
set_option maxHeartbeats 8000000 in
theorem law_LotsAdds (h : House) (hx : h.Ok) (x : Lot) (n : Int) : Ret Try.prog 11 [.agg h.enc, .agg x.enc, .v (.int .i64 n)] (.v (.bool true)) := by
  refine ret11 rfl fun hbd => ?_
  unfold c11
  repeat (first
    | refine r_call rfl (small_ok h) ?_ | refine r_mv_p rfl ?_ | refine r_loadAllB rfl rfl (by first | rfl | assumption) ?_ | refine r_sem rfl rfl rfl rfl ?_ | refine r_nil ?_
    | refine r_box rfl rfl rfl ?_ | refine run_seq ?_ | refine run_reg ?_ | refine fin_seq ?_)
  refine run_cond rfl (fun h1 => ?_) (fun h1 => ?_)
  · repeat (first
      | refine r_call rfl (awake9) ?_ | refine r_mv_p rfl ?_ | refine r_nil ?_ | refine run_seq ?_ | refine run_reg ?_ | refine run_ret ?_ | refine fin_seq ?_ | refine fin_seq_r ?_)
    exact fin_out rfl rfl
  have hs : h.small = true := by simpa using h1
  obtain ⟨l0, l1, l2, l3, l4, -⟩ := small_lens hs
  obtain ⟨g, k, e, c1, c2, c3⟩ := two (addLot44 h.lent x (show (h.lots.xs.length + 1) * 40 ≤ _ by omega)) (refAddLot45 h x (by omega)) (addLot_same (SameH.lent h) x) (addLot_ok (House.lent_ok hx) x)
  have cf := lotsFits h.lent x.item x.code n
  rw [fits_same (SameH.lent h)] at cf
  have cd := lotsDay h.lent x.item x.code
  rw [day_same (SameH.lent h)] at cd
  have cf2 := refFits h x.item x.code n
  have cd2 := refDay h x.item x.code
  generalize h.fits x.item x.code n = f at *
  generalize h.day x.item x.code = d at *
  have ck := kept_ok h hx hs
  have he : decide (e = e) = true := by simp
  have hf : decide (f = f) = true := by simp
  have hd : decide (d = d) = true := by simp
  clear l0 l1 l2 l3 l4
  repeat (first
    | refine r_call rfl (lent_ok h hx hs) ?_ | refine r_call rfl (c1) ?_ | refine r_call rfl (c2) ?_ | refine r_call rfl (c3) ?_ | refine r_call rfl (cf) ?_ | refine r_call rfl (cf2) ?_
    | refine r_call rfl (cd) ?_ | refine r_call rfl (cd2) ?_ | refine r_call rfl (ck) ?_ | refine r_call rfl (awake9) ?_ | refine r_mv_p rfl ?_
    | refine r_do rfl (by first | with_reducible rfl | assumption | decide) ?_ | refine r_fad rfl rfl ?_ | refine r_loadAllB rfl rfl (by first | rfl | assumption) ?_
    | refine r_pick_t rfl (by first | with_reducible rfl | assumption | decide) rfl rfl ?_ | refine r_sem rfl rfl rfl rfl ?_ | refine r_nil ?_
    | refine r_storeAll rfl rfl rfl rfl rfl rfl ?_ | refine r_alloc rfl ?_ | refine run_seq ?_ | refine run_reg ?_ | refine run_regd rfl ?_ | refine run_skip ?_ | refine run_ret ?_
    | refine fin_seq ?_)
  exact fin_out rfl rfl
end Go.Fw
