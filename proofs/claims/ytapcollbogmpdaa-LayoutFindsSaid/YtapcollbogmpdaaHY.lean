/-
  The layout: zones, bins, sites; by the program and by the document.
-/
import Derived.Test.YtapcollbogmpdaaHX
import Derived.Test.YtapcollbogmpdaaHN
import Derived.Test.YtapcollbogmpdaaIrF
set_option linter.unusedVariables false
set_option linter.unusedSimpArgs false
set_option maxRecDepth 10000
namespace Go.Fw
open Go.Proofs


/-! ### Zones -/
set_option maxHeartbeats 4000000 in
theorem addZone59 (h : House) (x : Zone) (hbig : (h.zones.xs.length + 1) * 32 ≤ 140737488355328) : Ret Try.prog 59 [.agg h.enc, .agg x.enc] (houseOut (h.addZone x)) := by
  refine ret59 rfl fun hbd => ?_
  unfold c59
  repeat (first
    | refine run_loop ?_ | refine r_load_rp rfl rfl rfl rfl ?_ | refine r_call rfl (nums106 _) ?_ | refine r_mv_p rfl ?_ | refine r_fad rfl rfl ?_ | refine r_sem rfl rfl rfl rfl ?_
    | refine r_nil ?_ | refine r_alloc rfl ?_ | refine r_box rfl rfl rfl ?_ | refine r_bsl rfl rfl rfl rfl rfl rfl ?_
    | refine r_iad_row rfl rfl (by first | rfl | assumption | omega | (simp; done) | (simp; omega)) rfl (by first | rfl | assumption | omega | (simp; done) | (simp; omega)) ?_
    | refine run_seq ?_ | refine run_reg ?_ | refine run_block ?_ | refine run_skip ?_ | refine fin_seq ?_ | refine run_cond_t rfl (by first | with_reducible rfl | assumption | decide) ?_)
  refine run_cond rfl (fun h1 => ?_) (fun h1 => ?_)
  · have h1' : nameE x.code ≠ 0 := by simpa using h1
    have hR : h.addZone x = (House.zero, nameE x.code) := by unfold House.addZone; rw [if_pos h1']
    rw [hR]
    repeat (first
      | refine r_mv_p rfl ?_ | refine r_sem rfl rfl rfl rfl ?_ | refine r_nil ?_ | refine r_storeAll rfl rfl rfl rfl rfl rfl ?_ | refine run_seq ?_ | refine run_reg ?_ | refine run_ret ?_
      | refine fin_seq ?_ | refine fin_seq_r ?_ | refine fin_blk_r ?_ | refine fin_loop_r ?_)
    exact fin_out rfl rfl
  have h1' : ¬ nameE x.code ≠ 0 := by simpa using h1
  repeat (first
    | refine run_loop ?_ | refine fin_loop ?_ | refine r_load_rp rfl rfl rfl rfl ?_ | refine r_call rfl (nums106 _) ?_ | refine r_mv_p rfl ?_ | refine r_add rfl rfl (by omega) ?_
    | refine r_sem rfl rfl rfl rfl ?_ | refine r_nil ?_
    | refine r_iad_row rfl rfl (by first | rfl | assumption | omega | (simp; done) | (simp; omega)) rfl (by first | rfl | assumption | omega | (simp; done) | (simp; omega)) ?_
    | refine run_seq ?_ | refine run_reg ?_ | refine run_block ?_ | refine run_skip ?_ | refine fin_seq ?_ | refine fin_blk ?_
    | refine run_cond_t rfl (by first | with_reducible rfl | assumption | decide) ?_)
  refine run_cond rfl (fun h2 => ?_) (fun h2 => ?_)
  · have h2' : nameE x.site ≠ 0 := by simpa using h2
    have hR : h.addZone x = (House.zero, nameE x.site) := by unfold House.addZone; rw [if_neg h1', if_pos h2']
    rw [hR]
    repeat (first
      | refine r_mv_p rfl ?_ | refine r_sem rfl rfl rfl rfl ?_ | refine r_nil ?_ | refine r_storeAll rfl rfl rfl rfl rfl rfl ?_ | refine run_seq ?_ | refine run_reg ?_ | refine run_ret ?_
      | refine fin_seq ?_ | refine fin_seq_r ?_ | refine fin_blk_r ?_ | refine fin_loop_r ?_)
    exact fin_out rfl rfl
  have h2' : ¬ nameE x.site ≠ 0 := by simpa using h2
  repeat (first
    | refine run_loop ?_ | refine fin_loop ?_ | refine r_call rfl (findZone h x.code) ?_ | refine r_mv_p rfl ?_ | refine r_fad rfl rfl ?_ | refine r_add rfl rfl (by omega) ?_
    | refine r_loadAllB rfl rfl (by first | rfl | assumption) ?_ | refine r_sem rfl rfl rfl rfl ?_ | refine r_nil ?_ | refine r_storeAll rfl rfl rfl rfl rfl rfl ?_ | refine r_alloc rfl ?_
    | refine run_seq ?_ | refine run_reg ?_ | refine run_skip ?_ | refine run_exit ?_ | refine fin_seq ?_ | refine fin_seq_e ?_ | refine fin_blk ?_ | refine fin_blk_e ?_
    | refine fin_loop_e ?_ | refine run_cond_f rfl (by first | with_reducible rfl | assumption | decide) ?_)
  refine run_cond rfl (fun h3 => ?_) (fun h3 => ?_)
  · have hR : h.addZone x = (House.zero, 11) := by unfold House.addZone; rw [if_neg h1', if_neg h2', if_pos h3]
    rw [hR]
    repeat (first
      | refine r_mv_p rfl ?_ | refine r_sem rfl rfl rfl rfl ?_ | refine r_nil ?_ | refine r_storeAll rfl rfl rfl rfl rfl rfl ?_ | refine run_seq ?_ | refine run_reg ?_ | refine run_ret ?_
      | refine fin_seq ?_ | refine fin_seq_r ?_)
    exact fin_out rfl rfl
  have h3' : ¬ (h.zone? x.code).isSome = true := fun e => by rw [e] at h3; cases h3
  repeat (first
    | refine r_fad rfl rfl ?_ | refine r_sem rfl rfl rfl rfl ?_ | refine r_nil ?_ | refine run_seq ?_ | refine run_reg ?_ | refine run_skip ?_ | refine fin_seq ?_)
  refine run_cond rfl (fun h4 => ?_) (fun h4 => ?_)
  · have h4' : 16 ≤ h.zones.xs.length := by have := of_decide_eq_true h4; simp only [List.length_map] at this; omega
    have hR : h.addZone x = (House.zero, 14) := by unfold House.addZone; rw [if_neg h1', if_neg h2', if_neg h3', if_pos h4']
    rw [hR]
    repeat (first
      | refine r_mv_p rfl ?_ | refine r_sem rfl rfl rfl rfl ?_ | refine r_nil ?_ | refine r_storeAll rfl rfl rfl rfl rfl rfl ?_ | refine run_seq ?_ | refine run_reg ?_ | refine run_ret ?_
      | refine fin_seq ?_ | refine fin_seq_r ?_)
    exact fin_out rfl rfl
  have h4' : ¬ 16 ≤ h.zones.xs.length := by have := of_decide_eq_false h4; simp only [List.length_map] at this; omega
  have hR : h.addZone x = (h.withZone x, 0) := by unfold House.addZone; rw [if_neg h1', if_neg h2', if_neg h3', if_neg h4']
  rw [hR]
  repeat (first
    | refine r_call rfl (rows125) ?_ | refine r_call rfl (put126 Zone.enc (fun _ => rfl) 157 zoneCmp order157 x h.zones.xs h.zones.sp hbig) ?_ | refine r_mv_p rfl ?_
    | refine r_fad rfl rfl ?_ | refine r_loadAllB rfl rfl (by first | rfl | assumption) ?_ | refine r_sem rfl rfl rfl rfl ?_ | refine r_nil ?_
    | refine r_storeAll rfl rfl rfl rfl rfl rfl ?_ | refine r_store rfl rfl rfl rfl (And.intro rfl (Nat.le_of_ble_eq_true rfl)) ?_ | refine run_seq ?_ | refine run_reg ?_
    | refine run_regd rfl ?_ | refine run_skip ?_ | refine run_ret ?_ | refine fin_seq ?_)
  exact fin_out rfl rfl
set_option maxHeartbeats 4000000 in
theorem refAddZone60 (h : House) (x : Zone) (hbig : (h.zones.xs.length + 1) * 32 ≤ 140737488355328) : Ret Try.prog 60 [.agg h.enc, .agg x.enc] (houseOut (h.addZone x)) := by
  refine ret60 rfl fun hbd => ?_
  have hf := refFindZone h x.code
  have hw := refwithZone h x hbig
  unfold c60
  cases h1 : decide (nameE x.code = 0) with
  | false =>
    have h1' : nameE x.code ≠ 0 := of_decide_eq_false h1
    have hn : (!decide (nameE x.code = 0)) = true := by rw [h1]; rfl
    have hR : h.addZone x = (House.zero, nameE x.code) := by unfold House.addZone; rw [if_pos h1']
    rw [hR]
    repeat (first
      | refine r_call rfl (refName109 _) ?_ | refine r_call rfl (hf) ?_ | refine r_mv_p rfl ?_ | refine r_skip rfl (by first | with_reducible rfl | assumption | decide) ?_
      | refine r_fad rfl rfl ?_ | refine r_loadAllB rfl rfl (by first | rfl | assumption) ?_ | refine r_pick_f rfl (by first | with_reducible rfl | assumption | decide) rfl rfl ?_
      | refine r_sem rfl rfl rfl rfl ?_ | refine r_nil ?_ | refine r_storeAll rfl rfl rfl rfl rfl rfl ?_ | refine r_alloc rfl ?_ | refine r_box rfl rfl rfl ?_ | refine run_seq ?_
      | refine run_reg ?_ | refine run_skip ?_ | refine run_ret ?_ | refine fin_seq ?_ | refine fin_seq_r ?_ | refine run_cond_t rfl (by first | with_reducible rfl | assumption | decide) ?_
      | refine run_cond_f rfl (by first | with_reducible rfl | assumption | decide) ?_)
    exact fin_out rfl rfl
  | true =>
    have h1' : ¬ nameE x.code ≠ 0 := fun e => e (of_decide_eq_true h1)
    cases h2 : decide (nameE x.site = 0) with
    | false =>
      have h2' : nameE x.site ≠ 0 := of_decide_eq_false h2
      have hn : (!decide (nameE x.site = 0)) = true := by rw [h2]; rfl
      have hR : h.addZone x = (House.zero, nameE x.site) := by unfold House.addZone; rw [if_neg h1', if_pos h2']
      rw [hR]
      repeat (first
        | refine r_call rfl (refName109 _) ?_ | refine r_call rfl (hf) ?_ | refine r_mv_p rfl ?_ | refine r_skip rfl (by first | with_reducible rfl | assumption | decide) ?_
        | refine r_fad rfl rfl ?_ | refine r_loadAllB rfl rfl (by first | rfl | assumption) ?_ | refine r_pick_f rfl (by first | with_reducible rfl | assumption | decide) rfl rfl ?_
        | refine r_sem rfl rfl rfl rfl ?_ | refine r_nil ?_ | refine r_storeAll rfl rfl rfl rfl rfl rfl ?_ | refine r_alloc rfl ?_ | refine r_box rfl rfl rfl ?_ | refine run_seq ?_
        | refine run_reg ?_ | refine run_skip ?_ | refine run_ret ?_ | refine fin_seq ?_ | refine fin_seq_r ?_ | refine run_cond_t rfl (by first | with_reducible rfl | assumption | decide) ?_
        | refine run_cond_f rfl (by first | with_reducible rfl | assumption | decide) ?_)
      exact fin_out rfl rfl
    | true =>
      have h2' : ¬ nameE x.site ≠ 0 := fun e => e (of_decide_eq_true h2)
      have hn : (!decide (nameE x.site = 0)) = false := by rw [h2]; rfl
      cases h3 : (h.zone? x.code).isSome with
      | true =>
        have hR : h.addZone x = (House.zero, 11) := by unfold House.addZone; rw [if_neg h1', if_neg h2', if_pos h3]
        rw [hR]
        repeat (first
          | refine r_call rfl (refName109 _) ?_ | refine r_call rfl (hf) ?_ | refine r_mv_p rfl ?_ | refine r_do rfl (by first | with_reducible rfl | assumption | decide) ?_
          | refine r_skip rfl (by first | with_reducible rfl | assumption | decide) ?_ | refine r_fad rfl rfl ?_ | refine r_loadAllB rfl rfl (by first | rfl | assumption) ?_
          | refine r_pick_t rfl (by first | with_reducible rfl | assumption | decide) rfl rfl ?_ | refine r_pick_f rfl (by first | with_reducible rfl | assumption | decide) rfl rfl ?_
          | refine r_sem rfl rfl rfl rfl ?_ | refine r_nil ?_ | refine r_storeAll rfl rfl rfl rfl rfl rfl ?_ | refine r_alloc rfl ?_ | refine r_box rfl rfl rfl ?_ | refine run_seq ?_
          | refine run_reg ?_ | refine run_skip ?_ | refine run_ret ?_ | refine fin_seq ?_ | refine fin_seq_r ?_ | refine run_cond_t rfl (by first | with_reducible rfl | assumption | decide) ?_
          | refine run_cond_f rfl (by first | with_reducible rfl | assumption | decide) ?_)
        exact fin_out rfl rfl
      | false =>
        have h3' : ¬ (h.zone? x.code).isSome = true := fun e => by rw [e] at h3; cases h3
        cases h4 : decide ((16 : Int) ≤ (((h.zones.xs.map Zone.enc).length : Nat) : Int)) with
        | true =>
          have h4' : 16 ≤ h.zones.xs.length := by have := of_decide_eq_true h4; simp only [List.length_map] at this; omega
          have hR : h.addZone x = (House.zero, 14) := by unfold House.addZone; rw [if_neg h1', if_neg h2', if_neg h3', if_pos h4']
          rw [hR]
          repeat (first
            | refine r_call rfl (refName109 _) ?_ | refine r_call rfl (hf) ?_ | refine r_mv_p rfl ?_ | refine r_do rfl (by first | with_reducible rfl | assumption | decide) ?_
            | refine r_fad rfl rfl ?_ | refine r_loadAllB rfl rfl (by first | rfl | assumption) ?_ | refine r_pick_t rfl (by first | with_reducible rfl | assumption | decide) rfl rfl ?_
            | refine r_sem rfl rfl rfl rfl ?_ | refine r_nil ?_ | refine r_storeAll rfl rfl rfl rfl rfl rfl ?_ | refine r_alloc rfl ?_ | refine r_box rfl rfl rfl ?_ | refine run_seq ?_
            | refine run_reg ?_ | refine run_skip ?_ | refine run_ret ?_ | refine fin_seq ?_ | refine fin_seq_r ?_ | refine run_cond_t rfl (by first | with_reducible rfl | assumption | decide) ?_
            | refine run_cond_f rfl (by first | with_reducible rfl | assumption | decide) ?_)
          exact fin_out rfl rfl
        | false =>
          have h4' : ¬ 16 ≤ h.zones.xs.length := by have := of_decide_eq_false h4; simp only [List.length_map] at this; omega
          have hR : h.addZone x = (h.withZone x, 0) := by unfold House.addZone; rw [if_neg h1', if_neg h2', if_neg h3', if_neg h4']
          rw [hR]
          repeat (first
            | refine r_call rfl (refName109 _) ?_ | refine r_call rfl (hf) ?_ | refine r_call rfl (hw) ?_ | refine r_mv_p rfl ?_
            | refine r_do rfl (by first | with_reducible rfl | assumption | decide) ?_ | refine r_fad rfl rfl ?_ | refine r_loadAllB rfl rfl (by first | rfl | assumption) ?_
            | refine r_pick_t rfl (by first | with_reducible rfl | assumption | decide) rfl rfl ?_ | refine r_sem rfl rfl rfl rfl ?_ | refine r_nil ?_
            | refine r_storeAll rfl rfl rfl rfl rfl rfl ?_ | refine r_alloc rfl ?_ | refine r_box rfl rfl rfl ?_ | refine run_seq ?_ | refine run_reg ?_ | refine run_skip ?_ | refine run_ret ?_
            | refine fin_seq ?_ | refine run_cond_t rfl (by first | with_reducible rfl | assumption | decide) ?_ | refine run_cond_f rfl (by first | with_reducible rfl | assumption | decide) ?_)
          exact fin_out rfl rfl

/-! ### Bins -/
theorem outR_eq (m n : Int) : (!outR m n) = (decide (0 ≤ n) && decide (n ≤ m)) := by
  unfold outR
  rw [Bool.not_or, ← decide_not, ← decide_not]
  simp only [Int.not_lt]
theorem within164 (n m : Int) : Ret Try.prog 164 [.v (.int .i64 n), .v (.int .i64 m)] (.v (.bool (!outR m n))) := by
  refine ret164 rfl fun hbd => ?_
  rw [outR_eq]
  unfold c164
  cases h1 : decide (0 ≤ n) with
  | true =>
    repeat (first
      | refine r_mv_p rfl ?_ | refine r_do rfl (by first | with_reducible rfl | assumption | decide) ?_
      | refine r_pick_t rfl (by first | with_reducible rfl | assumption | decide) rfl rfl ?_ | refine r_sem rfl rfl rfl rfl ?_ | refine r_nil ?_ | refine run_seq ?_ | refine run_reg ?_
      | refine run_ret ?_ | refine fin_seq ?_)
    exact fin_out rfl rfl
  | false =>
    repeat (first
      | refine r_mv_p rfl ?_ | refine r_skip rfl (by first | with_reducible rfl | assumption | decide) ?_
      | refine r_pick_f rfl (by first | with_reducible rfl | assumption | decide) rfl rfl ?_ | refine r_sem rfl rfl rfl rfl ?_ | refine r_nil ?_ | refine run_seq ?_ | refine run_reg ?_
      | refine run_ret ?_ | refine fin_seq ?_)
    exact fin_out rfl rfl
set_option maxHeartbeats 8000000 in
theorem refuses128 (h : House) (x : Bin) : Ret Try.prog 128 [.agg h.enc, .agg x.enc] (.v (.int .i64 (h.refuses x))) := by
  refine ret128 rfl fun hbd => ?_
  have hz := findZone h x.zone
  have hb := findBin h x.code
  unfold zoneOut at hz
  unfold binOut at hb
  have w1 := within164 x.aisle 999
  have w2 := within164 x.place 999
  have w3 := within164 x.volume 1000000000000
  have w4 := within164 x.weight 1000000000000
  have hbp : badPlace x = (outR 999 x.aisle || outR 999 x.place || outR 1000000000000 x.volume || outR 1000000000000 x.weight) := rfl
  have hbl : (h.bins.xs.map Bin.enc).length = h.bins.xs.length := List.length_map ..
  unfold c128
  repeat (first
    | refine r_call rfl (nums106 _) ?_ | refine r_mv_p rfl ?_ | refine r_fad rfl rfl ?_ | refine r_sem rfl rfl rfl rfl ?_ | refine r_nil ?_ | refine r_box rfl rfl rfl ?_
    | refine run_seq ?_ | refine run_reg ?_ | refine fin_seq ?_)
  refine run_cond rfl (fun h1 => ?_) (fun h1 => ?_)
  · have h1' : nameE x.code ≠ 0 := by simpa using h1
    have hR : h.refuses x = nameE x.code := by unfold House.refuses; rw [if_pos h1']
    rw [hR]
    repeat (first
      | refine r_mv_p rfl ?_ | refine r_nil ?_ | refine run_seq ?_ | refine run_reg ?_ | refine run_ret ?_ | refine fin_seq ?_ | refine fin_seq_r ?_)
    exact fin_out rfl rfl
  have h1' : ¬ nameE x.code ≠ 0 := by simpa using h1
  have hR : h.refuses x = if (h.zone? x.zone).isSome = false then 12
    else if (decide (x.kind < 1) || decide (4 < x.kind)) = true then 23
    else if badPlace x = true then 5
    else if x.frozen = true then 13
    else if (h.bin? x.code).isSome = true then 11
    else if 64 ≤ h.bins.xs.length then 15
    else 0 := by unfold House.refuses; rw [if_neg h1']
  rw [hR]
  clear hR
  rw [hbp]
  generalize outR 999 x.aisle = o1 at *
  generalize outR 999 x.place = o2 at *
  generalize outR 1000000000000 x.volume = o3 at *
  generalize outR 1000000000000 x.weight = o4 at *
  generalize (h.zone? x.zone).isSome = z at *
  generalize (h.bin? x.code).isSome = bb at *
  cases z with
  | false =>
    repeat (first
      | refine r_call rfl (hz) ?_ | refine r_call rfl (hb) ?_ | refine r_mv_p rfl ?_ | refine r_fad rfl rfl ?_ | refine r_loadAllB rfl rfl (by first | rfl | assumption) ?_
      | refine r_sem rfl rfl rfl rfl ?_ | refine r_nil ?_ | refine r_storeAll rfl rfl rfl rfl rfl rfl ?_ | refine r_alloc rfl ?_ | refine run_seq ?_ | refine run_reg ?_
      | refine run_block ?_ | refine run_skip ?_ | refine run_ret ?_ | refine fin_seq ?_ | refine fin_seq_r ?_ | refine fin_blk_r ?_
      | refine run_cond_t rfl (by first | with_reducible rfl | assumption | decide) ?_)
    exact fin_out rfl rfl
  | true =>
    cases k1 : decide (x.kind < 1) with
    | true =>
      repeat (first
        | refine r_call rfl (hz) ?_ | refine r_call rfl (hb) ?_ | refine r_mv_p rfl ?_ | refine r_skip rfl (by first | with_reducible rfl | assumption | decide) ?_ | refine r_fad rfl rfl ?_
        | refine r_loadAllB rfl rfl (by first | rfl | assumption) ?_ | refine r_pick_t rfl (by first | with_reducible rfl | assumption | decide) rfl rfl ?_ | refine r_sem rfl rfl rfl rfl ?_
        | refine r_nil ?_ | refine r_storeAll rfl rfl rfl rfl rfl rfl ?_ | refine r_alloc rfl ?_ | refine run_seq ?_ | refine run_reg ?_ | refine run_block ?_ | refine run_skip ?_
        | refine run_ret ?_ | refine fin_seq ?_ | refine fin_seq_r ?_ | refine fin_blk_r ?_ | refine run_cond_t rfl (by first | with_reducible rfl | assumption | decide) ?_
        | refine run_cond_f rfl (by first | with_reducible rfl | assumption | decide) ?_)
      exact fin_out rfl rfl
    | false =>
      cases k2 : decide (4 < x.kind) with
      | true =>
        repeat (first
          | refine r_call rfl (hz) ?_ | refine r_call rfl (hb) ?_ | refine r_mv_p rfl ?_ | refine r_do rfl (by first | with_reducible rfl | assumption | decide) ?_ | refine r_fad rfl rfl ?_
          | refine r_loadAllB rfl rfl (by first | rfl | assumption) ?_ | refine r_pick_f rfl (by first | with_reducible rfl | assumption | decide) rfl rfl ?_ | refine r_sem rfl rfl rfl rfl ?_
          | refine r_nil ?_ | refine r_storeAll rfl rfl rfl rfl rfl rfl ?_ | refine r_alloc rfl ?_ | refine run_seq ?_ | refine run_reg ?_ | refine run_block ?_ | refine run_skip ?_
          | refine run_ret ?_ | refine fin_seq ?_ | refine fin_seq_r ?_ | refine fin_blk_r ?_ | refine run_cond_t rfl (by first | with_reducible rfl | assumption | decide) ?_
          | refine run_cond_f rfl (by first | with_reducible rfl | assumption | decide) ?_)
        exact fin_out rfl rfl
      | false =>
        cases o1 with
        | true =>
          repeat (first
            | refine r_call rfl (hz) ?_ | refine r_call rfl (hb) ?_ | refine r_call rfl (w1) ?_ | refine r_mv_p rfl ?_ | refine r_do rfl (by first | with_reducible rfl | assumption | decide) ?_
            | refine r_skip rfl (by first | with_reducible rfl | assumption | decide) ?_ | refine r_fad rfl rfl ?_ | refine r_loadAllB rfl rfl (by first | rfl | assumption) ?_
            | refine r_pick_t rfl (by first | with_reducible rfl | assumption | decide) rfl rfl ?_ | refine r_pick_f rfl (by first | with_reducible rfl | assumption | decide) rfl rfl ?_
            | refine r_sem rfl rfl rfl rfl ?_ | refine r_nil ?_ | refine r_storeAll rfl rfl rfl rfl rfl rfl ?_ | refine r_alloc rfl ?_ | refine run_seq ?_ | refine run_reg ?_
            | refine run_block ?_ | refine run_skip ?_ | refine run_ret ?_ | refine fin_seq ?_ | refine fin_seq_r ?_ | refine fin_blk_r ?_
            | refine run_cond_t rfl (by first | with_reducible rfl | assumption | decide) ?_ | refine run_cond_f rfl (by first | with_reducible rfl | assumption | decide) ?_)
          exact fin_out rfl rfl
        | false =>
          cases o2 with
          | true =>
            repeat (first
              | refine r_call rfl (hz) ?_ | refine r_call rfl (hb) ?_ | refine r_call rfl (w1) ?_ | refine r_call rfl (w2) ?_ | refine r_mv_p rfl ?_
              | refine r_do rfl (by first | with_reducible rfl | assumption | decide) ?_ | refine r_skip rfl (by first | with_reducible rfl | assumption | decide) ?_ | refine r_fad rfl rfl ?_
              | refine r_loadAllB rfl rfl (by first | rfl | assumption) ?_ | refine r_pick_t rfl (by first | with_reducible rfl | assumption | decide) rfl rfl ?_
              | refine r_pick_f rfl (by first | with_reducible rfl | assumption | decide) rfl rfl ?_ | refine r_sem rfl rfl rfl rfl ?_ | refine r_nil ?_
              | refine r_storeAll rfl rfl rfl rfl rfl rfl ?_ | refine r_alloc rfl ?_ | refine run_seq ?_ | refine run_reg ?_ | refine run_block ?_ | refine run_skip ?_ | refine run_ret ?_
              | refine fin_seq ?_ | refine fin_seq_r ?_ | refine fin_blk_r ?_ | refine run_cond_t rfl (by first | with_reducible rfl | assumption | decide) ?_
              | refine run_cond_f rfl (by first | with_reducible rfl | assumption | decide) ?_)
            exact fin_out rfl rfl
          | false =>
            cases o3 with
            | true =>
              repeat (first
                | refine r_call rfl (hz) ?_ | refine r_call rfl (hb) ?_ | refine r_call rfl (w1) ?_ | refine r_call rfl (w2) ?_ | refine r_call rfl (w3) ?_ | refine r_mv_p rfl ?_
                | refine r_do rfl (by first | with_reducible rfl | assumption | decide) ?_ | refine r_skip rfl (by first | with_reducible rfl | assumption | decide) ?_ | refine r_fad rfl rfl ?_
                | refine r_loadAllB rfl rfl (by first | rfl | assumption) ?_ | refine r_pick_t rfl (by first | with_reducible rfl | assumption | decide) rfl rfl ?_
                | refine r_pick_f rfl (by first | with_reducible rfl | assumption | decide) rfl rfl ?_ | refine r_sem rfl rfl rfl rfl ?_ | refine r_nil ?_
                | refine r_storeAll rfl rfl rfl rfl rfl rfl ?_ | refine r_alloc rfl ?_ | refine run_seq ?_ | refine run_reg ?_ | refine run_block ?_ | refine run_skip ?_ | refine run_ret ?_
                | refine fin_seq ?_ | refine fin_seq_r ?_ | refine fin_blk_r ?_ | refine run_cond_t rfl (by first | with_reducible rfl | assumption | decide) ?_
                | refine run_cond_f rfl (by first | with_reducible rfl | assumption | decide) ?_)
              exact fin_out rfl rfl
            | false =>
              cases o4 with
              | true =>
                repeat (first
                  | refine r_call rfl (hz) ?_ | refine r_call rfl (hb) ?_ | refine r_call rfl (w1) ?_ | refine r_call rfl (w2) ?_ | refine r_call rfl (w3) ?_ | refine r_call rfl (w4) ?_
                  | refine r_mv_p rfl ?_ | refine r_do rfl (by first | with_reducible rfl | assumption | decide) ?_ | refine r_fad rfl rfl ?_
                  | refine r_loadAllB rfl rfl (by first | rfl | assumption) ?_ | refine r_pick_f rfl (by first | with_reducible rfl | assumption | decide) rfl rfl ?_ | refine r_sem rfl rfl rfl rfl ?_
                  | refine r_nil ?_ | refine r_storeAll rfl rfl rfl rfl rfl rfl ?_ | refine r_alloc rfl ?_ | refine run_seq ?_ | refine run_reg ?_ | refine run_block ?_ | refine run_skip ?_
                  | refine run_ret ?_ | refine fin_seq ?_ | refine fin_seq_r ?_ | refine fin_blk_r ?_ | refine run_cond_t rfl (by first | with_reducible rfl | assumption | decide) ?_
                  | refine run_cond_f rfl (by first | with_reducible rfl | assumption | decide) ?_)
                exact fin_out rfl rfl
              | false =>
                cases hfr : x.frozen with
                | true =>
                  repeat (first
                    | refine r_call rfl (hz) ?_ | refine r_call rfl (hb) ?_ | refine r_call rfl (w1) ?_ | refine r_call rfl (w2) ?_ | refine r_call rfl (w3) ?_ | refine r_call rfl (w4) ?_
                    | refine r_mv_p rfl ?_ | refine r_do rfl (by first | with_reducible rfl | assumption | decide) ?_ | refine r_fad rfl rfl ?_
                    | refine r_loadAllB rfl rfl (by first | rfl | assumption) ?_ | refine r_pick_f rfl (by first | with_reducible rfl | assumption | decide) rfl rfl ?_ | refine r_sem rfl rfl rfl rfl ?_
                    | refine r_nil ?_ | refine r_storeAll rfl rfl rfl rfl rfl rfl ?_ | refine r_alloc rfl ?_ | refine run_seq ?_ | refine run_reg ?_ | refine run_block ?_ | refine run_skip ?_
                    | refine run_ret ?_ | refine fin_seq ?_ | refine fin_seq_r ?_ | refine fin_blk_r ?_ | refine run_cond_t rfl (by first | with_reducible rfl | assumption | decide) ?_
                    | refine run_cond_f rfl (by first | with_reducible rfl | assumption | decide) ?_)
                  exact fin_out rfl rfl
                | false =>
                  cases bb with
                  | true =>
                    repeat (first
                      | refine r_call rfl (hz) ?_ | refine r_call rfl (hb) ?_ | refine r_call rfl (w1) ?_ | refine r_call rfl (w2) ?_ | refine r_call rfl (w3) ?_ | refine r_call rfl (w4) ?_
                      | refine r_mv_p rfl ?_ | refine r_do rfl (by first | with_reducible rfl | assumption | decide) ?_ | refine r_fad rfl rfl ?_
                      | refine r_loadAllB rfl rfl (by first | rfl | assumption) ?_ | refine r_pick_f rfl (by first | with_reducible rfl | assumption | decide) rfl rfl ?_ | refine r_sem rfl rfl rfl rfl ?_
                      | refine r_nil ?_ | refine r_storeAll rfl rfl rfl rfl rfl rfl ?_ | refine r_alloc rfl ?_ | refine run_seq ?_ | refine run_reg ?_ | refine run_block ?_ | refine run_skip ?_
                      | refine run_ret ?_ | refine fin_seq ?_ | refine fin_seq_r ?_ | refine fin_blk_r ?_ | refine run_cond_t rfl (by first | with_reducible rfl | assumption | decide) ?_
                      | refine run_cond_f rfl (by first | with_reducible rfl | assumption | decide) ?_)
                    exact fin_out rfl rfl
                  | false =>
                    cases hl : decide ((64 : Int) ≤ (((h.bins.xs.map Bin.enc).length : Nat) : Int)) with
                    | true =>
                      have hl' : 64 ≤ h.bins.xs.length := by rw [hbl] at hl; have := of_decide_eq_true hl; omega
                      repeat (first
                        | refine r_call rfl (hz) ?_ | refine r_call rfl (hb) ?_ | refine r_call rfl (w1) ?_ | refine r_call rfl (w2) ?_ | refine r_call rfl (w3) ?_ | refine r_call rfl (w4) ?_
                        | refine r_mv_p rfl ?_ | refine r_do rfl (by first | with_reducible rfl | assumption | decide) ?_ | refine r_fad rfl rfl ?_
                        | refine r_loadAllB rfl rfl (by first | rfl | assumption) ?_ | refine r_pick_f rfl (by first | with_reducible rfl | assumption | decide) rfl rfl ?_ | refine r_sem rfl rfl rfl rfl ?_
                        | refine r_nil ?_ | refine r_storeAll rfl rfl rfl rfl rfl rfl ?_ | refine r_alloc rfl ?_ | refine run_seq ?_ | refine run_reg ?_ | refine run_block ?_ | refine run_skip ?_
                        | refine run_ret ?_ | refine fin_seq ?_ | refine fin_seq_r ?_ | refine fin_blk_r ?_ | refine run_cond_t rfl (by first | with_reducible rfl | assumption | decide) ?_
                        | refine run_cond_f rfl (by first | with_reducible rfl | assumption | decide) ?_)
                      exact fin_out rfl (by rw [if_pos hl']; rfl)
                    | false =>
                      have hl' : ¬ 64 ≤ h.bins.xs.length := by rw [hbl] at hl; have := of_decide_eq_false hl; omega
                      repeat (first
                        | refine r_call rfl (hz) ?_ | refine r_call rfl (hb) ?_ | refine r_call rfl (w1) ?_ | refine r_call rfl (w2) ?_ | refine r_call rfl (w3) ?_ | refine r_call rfl (w4) ?_
                        | refine r_mv_p rfl ?_ | refine r_do rfl (by first | with_reducible rfl | assumption | decide) ?_ | refine r_fad rfl rfl ?_
                        | refine r_loadAllB rfl rfl (by first | rfl | assumption) ?_ | refine r_pick_f rfl (by first | with_reducible rfl | assumption | decide) rfl rfl ?_ | refine r_sem rfl rfl rfl rfl ?_
                        | refine r_nil ?_ | refine r_storeAll rfl rfl rfl rfl rfl rfl ?_ | refine r_alloc rfl ?_ | refine run_seq ?_ | refine run_reg ?_ | refine run_block ?_ | refine run_skip ?_
                        | refine run_ret ?_ | refine fin_seq ?_ | refine fin_blk ?_ | refine run_cond_f rfl (by first | with_reducible rfl | assumption | decide) ?_)
                      exact fin_out rfl (by rw [if_neg hl']; rfl)
set_option maxHeartbeats 4000000 in
theorem addBin61 (h : House) (x : Bin) (hbig : (h.bins.xs.length + 1) * 80 ≤ 140737488355328) : Ret Try.prog 61 [.agg h.enc, .agg x.enc] (houseOut (h.addBin x)) := by
  refine ret61 rfl fun hbd => ?_
  unfold c61
  repeat (first
    | refine r_call rfl (refuses128 h x) ?_ | refine r_mv_p rfl ?_ | refine r_loadAllB rfl rfl (by first | rfl | assumption) ?_ | refine r_sem rfl rfl rfl rfl ?_ | refine r_nil ?_
    | refine r_alloc rfl ?_ | refine r_box rfl rfl rfl ?_ | refine run_seq ?_ | refine run_reg ?_ | refine fin_seq ?_)
  refine run_cond rfl (fun h1 => ?_) (fun h1 => ?_)
  · have h1' : ¬ h.refuses x = 0 := by simpa using h1
    have hR : h.addBin x = (House.zero, h.refuses x) := by unfold House.addBin; rw [if_neg h1']
    rw [hR]
    repeat (first
      | refine r_mv_p rfl ?_ | refine r_sem rfl rfl rfl rfl ?_ | refine r_nil ?_ | refine r_storeAll rfl rfl rfl rfl rfl rfl ?_ | refine run_seq ?_ | refine run_reg ?_ | refine run_ret ?_
      | refine fin_seq ?_ | refine fin_seq_r ?_)
    exact fin_out rfl rfl
  have h1' : h.refuses x = 0 := by simpa using h1
  have hR : h.addBin x = (h.withBin x, 0) := by unfold House.addBin; rw [if_pos h1']
  rw [hR]
  repeat (first
    | refine r_call rfl (rows121) ?_ | refine r_call rfl (put122 Bin.enc (fun _ => rfl) 149 binCmp order149 x h.bins.xs h.bins.sp hbig) ?_ | refine r_mv_p rfl ?_ | refine r_fad rfl rfl ?_
    | refine r_loadAllB rfl rfl (by first | rfl | assumption) ?_ | refine r_sem rfl rfl rfl rfl ?_ | refine r_nil ?_ | refine r_storeAll rfl rfl rfl rfl rfl rfl ?_
    | refine r_store rfl rfl rfl rfl (And.intro rfl (Nat.le_of_ble_eq_true rfl)) ?_ | refine run_seq ?_ | refine run_reg ?_ | refine run_regd rfl ?_ | refine run_skip ?_
    | refine run_ret ?_ | refine fin_seq ?_)
  exact fin_out rfl rfl
set_option maxHeartbeats 8000000 in
theorem refAddBin62 (h : House) (x : Bin) (hbig : (h.bins.xs.length + 1) * 80 ≤ 140737488355328) : Ret Try.prog 62 [.agg h.enc, .agg x.enc] (houseOut (h.addBin x)) := by
  refine ret62 rfl fun hbd => ?_
  have hz := refFindZone h x.zone
  have hb := refFindBin h x.code
  have hw := refwithBin h x hbig
  unfold zoneOut at hz
  unfold binOut at hb
  have hbl : (h.bins.xs.map Bin.enc).length = h.bins.xs.length := List.length_map ..
  unfold c62
  repeat (first
    | refine r_call rfl (refName109 _) ?_ | refine r_mv_p rfl ?_ | refine r_fad rfl rfl ?_ | refine r_sem rfl rfl rfl rfl ?_ | refine r_nil ?_ | refine r_alloc rfl ?_
    | refine r_box rfl rfl rfl ?_ | refine run_seq ?_ | refine run_reg ?_ | refine fin_seq ?_)
  refine run_cond rfl (fun h1 => ?_) (fun h1 => ?_)
  · have h1' : nameE x.code ≠ 0 := by simpa using h1
    have hR : h.addBin x = (House.zero, nameE x.code) := by
      have : h.refuses x = nameE x.code := by unfold House.refuses; rw [if_pos h1']
      unfold House.addBin; rw [this, if_neg h1']
    rw [hR]
    repeat (first
      | refine r_mv_p rfl ?_ | refine r_sem rfl rfl rfl rfl ?_ | refine r_nil ?_ | refine r_storeAll rfl rfl rfl rfl rfl rfl ?_ | refine run_seq ?_ | refine run_reg ?_ | refine run_ret ?_
      | refine fin_seq ?_ | refine fin_seq_r ?_)
    exact fin_out rfl rfl
  have h1' : ¬ nameE x.code ≠ 0 := by simpa using h1
  have hR : h.refuses x = if (h.zone? x.zone).isSome = false then 12
    else if (decide (x.kind < 1) || decide (4 < x.kind)) = true then 23
    else if badPlace x = true then 5
    else if x.frozen = true then 13
    else if (h.bin? x.code).isSome = true then 11
    else if 64 ≤ h.bins.xs.length then 15
    else 0 := by unfold House.refuses; rw [if_neg h1']
  have hA : h.addBin x = if h.refuses x = 0 then (h.withBin x, 0) else (House.zero, h.refuses x) := rfl
  rw [hA, hR]
  clear hR hA
  generalize (h.zone? x.zone).isSome = z at *
  generalize (h.bin? x.code).isSome = bb at *
  cases z with
  | false =>
    repeat (first
      | refine r_call rfl (hz) ?_ | refine r_mv_p rfl ?_ | refine r_fad rfl rfl ?_ | refine r_loadAllB rfl rfl (by first | rfl | assumption) ?_ | refine r_sem rfl rfl rfl rfl ?_
      | refine r_nil ?_ | refine r_storeAll rfl rfl rfl rfl rfl rfl ?_ | refine r_alloc rfl ?_ | refine run_seq ?_ | refine run_reg ?_ | refine run_skip ?_ | refine run_ret ?_
      | refine fin_seq ?_ | refine fin_seq_r ?_ | refine run_cond_t rfl (by first | with_reducible rfl | assumption | decide) ?_)
    exact fin_out rfl rfl
  | true =>
    repeat (first
      | refine r_call rfl (hz) ?_ | refine r_mv_p rfl ?_ | refine r_fad rfl rfl ?_ | refine r_loadAllB rfl rfl (by first | rfl | assumption) ?_ | refine r_sem rfl rfl rfl rfl ?_
      | refine r_nil ?_ | refine r_storeAll rfl rfl rfl rfl rfl rfl ?_ | refine r_alloc rfl ?_ | refine run_seq ?_ | refine run_reg ?_ | refine run_skip ?_ | refine fin_seq ?_
      | refine run_cond_f rfl (by first | with_reducible rfl | assumption | decide) ?_)
    refine run_reg_join (S [(2, .own 2 0), (3, .own 3 0), (4, .own 4 0), (45, .p (.v (.bool (decide (x.kind < 1) || decide (4 < x.kind)))))] [(2, some (.box h.enc false)), (3, some (.box x.enc false)), (4, some (.box House.zero.enc false))]) ?_ ?_
    · cases a1 : decide (x.kind = 1) with
      | true =>
        have e : x.kind = 1 := of_decide_eq_true a1
        have n1 : (!decide (x.kind = 1)) = false := by rw [a1]; rfl
        repeat (first
          | refine r_mv_p rfl ?_ | refine r_skip rfl (by first | with_reducible rfl | assumption | decide) ?_
          | refine r_pick_f rfl (by first | with_reducible rfl | assumption | decide) rfl rfl ?_ | refine r_nil ?_)
        exact ⟨weak_S ⟨rfl, rfl, rfl, tb rfl (by rw [e]; rfl), trivial⟩ ⟨rfl, rfl, rfl, trivial⟩⟩
      | false =>
        have n1 : (!decide (x.kind = 1)) = true := by rw [a1]; rfl
        cases a2 : decide (x.kind = 2) with
        | true =>
          have e : x.kind = 2 := of_decide_eq_true a2
          have n2 : (!decide (x.kind = 2)) = false := by rw [a2]; rfl
          repeat (first
            | refine r_mv_p rfl ?_ | refine r_do rfl (by first | with_reducible rfl | assumption | decide) ?_ | refine r_skip rfl (by first | with_reducible rfl | assumption | decide) ?_
            | refine r_fad rfl rfl ?_ | refine r_pick_t rfl (by first | with_reducible rfl | assumption | decide) rfl rfl ?_
            | refine r_pick_f rfl (by first | with_reducible rfl | assumption | decide) rfl rfl ?_ | refine r_sem rfl rfl rfl rfl ?_ | refine r_nil ?_)
          exact ⟨weak_S ⟨rfl, rfl, rfl, tb rfl (by rw [e]; rfl), trivial⟩ ⟨rfl, rfl, rfl, trivial⟩⟩
        | false =>
          have n2 : (!decide (x.kind = 2)) = true := by rw [a2]; rfl
          cases a3 : decide (x.kind = 3) with
          | true =>
            have e : x.kind = 3 := of_decide_eq_true a3
            have n3 : (!decide (x.kind = 3)) = false := by rw [a3]; rfl
            repeat (first
              | refine r_mv_p rfl ?_ | refine r_do rfl (by first | with_reducible rfl | assumption | decide) ?_ | refine r_skip rfl (by first | with_reducible rfl | assumption | decide) ?_
              | refine r_fad rfl rfl ?_ | refine r_pick_t rfl (by first | with_reducible rfl | assumption | decide) rfl rfl ?_
              | refine r_pick_f rfl (by first | with_reducible rfl | assumption | decide) rfl rfl ?_ | refine r_sem rfl rfl rfl rfl ?_ | refine r_nil ?_)
            exact ⟨weak_S ⟨rfl, rfl, rfl, tb rfl (by rw [e]; rfl), trivial⟩ ⟨rfl, rfl, rfl, trivial⟩⟩
          | false =>
            have n3 : (!decide (x.kind = 3)) = true := by rw [a3]; rfl
            cases a4 : decide (x.kind = 4) with
            | true =>
              have e : x.kind = 4 := of_decide_eq_true a4
              have n4 : (!decide (x.kind = 4)) = false := by rw [a4]; rfl
              repeat (first
                | refine r_mv_p rfl ?_ | refine r_do rfl (by first | with_reducible rfl | assumption | decide) ?_ | refine r_fad rfl rfl ?_
                | refine r_pick_t rfl (by first | with_reducible rfl | assumption | decide) rfl rfl ?_ | refine r_sem rfl rfl rfl rfl ?_ | refine r_nil ?_)
              exact ⟨weak_S ⟨rfl, rfl, rfl, tb rfl (by rw [n4, e]; rfl), trivial⟩ ⟨rfl, rfl, rfl, trivial⟩⟩
            | false =>
              have n4 : (!decide (x.kind = 4)) = true := by rw [a4]; rfl
              have e : (decide (x.kind < 1) || decide (4 < x.kind)) = true := by
                have := of_decide_eq_false a1
                have := of_decide_eq_false a2
                have := of_decide_eq_false a3
                have := of_decide_eq_false a4
                simp only [Bool.or_eq_true, decide_eq_true_eq]; omega
              repeat (first
                | refine r_mv_p rfl ?_ | refine r_do rfl (by first | with_reducible rfl | assumption | decide) ?_ | refine r_fad rfl rfl ?_
                | refine r_pick_t rfl (by first | with_reducible rfl | assumption | decide) rfl rfl ?_ | refine r_sem rfl rfl rfl rfl ?_ | refine r_nil ?_)
              exact ⟨weak_S ⟨rfl, rfl, rfl, tb rfl (by rw [n4, e]), trivial⟩ ⟨rfl, rfl, rfl, trivial⟩⟩
    cases hk : (decide (x.kind < 1) || decide (4 < x.kind)) with
    | true =>
      repeat (first
        | refine r_mv_p rfl ?_ | refine r_sem rfl rfl rfl rfl ?_ | refine r_nil ?_ | refine r_storeAll rfl rfl rfl rfl rfl rfl ?_ | refine run_seq ?_ | refine run_reg ?_ | refine run_ret ?_
        | refine fin_seq ?_ | refine fin_seq_r ?_ | refine run_cond_t rfl (by first | with_reducible rfl | assumption | decide) ?_)
      exact fin_out rfl rfl
    | false =>
      repeat (first
        | refine r_mv_p rfl ?_ | refine r_fad rfl rfl ?_ | refine r_sem rfl rfl rfl rfl ?_ | refine run_seq ?_ | refine run_reg ?_ | refine run_skip ?_ | refine fin_seq ?_
        | refine run_cond_f rfl (by first | with_reducible rfl | assumption | decide) ?_)
      refine run_reg_join (S [(2, .own 2 0), (3, .own 3 0), (4, .own 4 0), (84, .p (.v (.bool (badPlace x))))] [(2, some (.box h.enc false)), (3, some (.box x.enc false)), (4, some (.box House.zero.enc false))]) ?_ ?_
      · cases d0 : decide (x.aisle < 0) with
        | true =>
          repeat (first
            | refine r_mv_p rfl ?_ | refine r_skip rfl (by first | with_reducible rfl | assumption | decide) ?_
            | refine r_pick_t rfl (by first | with_reducible rfl | assumption | decide) rfl rfl ?_ | refine r_nil ?_)
          exact ⟨weak_S ⟨rfl, rfl, rfl, tb rfl (by simp only [badPlace, outR, d0, Bool.true_or, Bool.or_true]), trivial⟩ ⟨rfl, rfl, rfl, trivial⟩⟩
        | false =>
          cases d1 : decide ((999 : Int) < x.aisle) with
          | true =>
            repeat (first
              | refine r_mv_p rfl ?_ | refine r_do rfl (by first | with_reducible rfl | assumption | decide) ?_ | refine r_skip rfl (by first | with_reducible rfl | assumption | decide) ?_
              | refine r_fad rfl rfl ?_ | refine r_pick_t rfl (by first | with_reducible rfl | assumption | decide) rfl rfl ?_
              | refine r_pick_f rfl (by first | with_reducible rfl | assumption | decide) rfl rfl ?_ | refine r_sem rfl rfl rfl rfl ?_ | refine r_nil ?_)
            exact ⟨weak_S ⟨rfl, rfl, rfl, tb rfl (by simp only [badPlace, outR, d1, Bool.true_or, Bool.or_true]), trivial⟩ ⟨rfl, rfl, rfl, trivial⟩⟩
          | false =>
            cases d2 : decide (x.place < 0) with
            | true =>
              repeat (first
                | refine r_mv_p rfl ?_ | refine r_do rfl (by first | with_reducible rfl | assumption | decide) ?_ | refine r_skip rfl (by first | with_reducible rfl | assumption | decide) ?_
                | refine r_fad rfl rfl ?_ | refine r_pick_t rfl (by first | with_reducible rfl | assumption | decide) rfl rfl ?_
                | refine r_pick_f rfl (by first | with_reducible rfl | assumption | decide) rfl rfl ?_ | refine r_sem rfl rfl rfl rfl ?_ | refine r_nil ?_)
              exact ⟨weak_S ⟨rfl, rfl, rfl, tb rfl (by simp only [badPlace, outR, d2, Bool.true_or, Bool.or_true]), trivial⟩ ⟨rfl, rfl, rfl, trivial⟩⟩
            | false =>
              cases d3 : decide ((999 : Int) < x.place) with
              | true =>
                repeat (first
                  | refine r_mv_p rfl ?_ | refine r_do rfl (by first | with_reducible rfl | assumption | decide) ?_ | refine r_skip rfl (by first | with_reducible rfl | assumption | decide) ?_
                  | refine r_fad rfl rfl ?_ | refine r_pick_t rfl (by first | with_reducible rfl | assumption | decide) rfl rfl ?_
                  | refine r_pick_f rfl (by first | with_reducible rfl | assumption | decide) rfl rfl ?_ | refine r_sem rfl rfl rfl rfl ?_ | refine r_nil ?_)
                exact ⟨weak_S ⟨rfl, rfl, rfl, tb rfl (by simp only [badPlace, outR, d3, Bool.true_or, Bool.or_true]), trivial⟩ ⟨rfl, rfl, rfl, trivial⟩⟩
              | false =>
                cases d4 : decide (x.volume < 0) with
                | true =>
                  repeat (first
                    | refine r_mv_p rfl ?_ | refine r_do rfl (by first | with_reducible rfl | assumption | decide) ?_ | refine r_skip rfl (by first | with_reducible rfl | assumption | decide) ?_
                    | refine r_fad rfl rfl ?_ | refine r_pick_t rfl (by first | with_reducible rfl | assumption | decide) rfl rfl ?_
                    | refine r_pick_f rfl (by first | with_reducible rfl | assumption | decide) rfl rfl ?_ | refine r_sem rfl rfl rfl rfl ?_ | refine r_nil ?_)
                  exact ⟨weak_S ⟨rfl, rfl, rfl, tb rfl (by simp only [badPlace, outR, d4, Bool.true_or, Bool.or_true]), trivial⟩ ⟨rfl, rfl, rfl, trivial⟩⟩
                | false =>
                  cases d5 : decide ((1000000000000 : Int) < x.volume) with
                  | true =>
                    repeat (first
                      | refine r_mv_p rfl ?_ | refine r_do rfl (by first | with_reducible rfl | assumption | decide) ?_ | refine r_skip rfl (by first | with_reducible rfl | assumption | decide) ?_
                      | refine r_fad rfl rfl ?_ | refine r_pick_t rfl (by first | with_reducible rfl | assumption | decide) rfl rfl ?_
                      | refine r_pick_f rfl (by first | with_reducible rfl | assumption | decide) rfl rfl ?_ | refine r_sem rfl rfl rfl rfl ?_ | refine r_nil ?_)
                    exact ⟨weak_S ⟨rfl, rfl, rfl, tb rfl (by simp only [badPlace, outR, d5, Bool.true_or, Bool.or_true]), trivial⟩ ⟨rfl, rfl, rfl, trivial⟩⟩
                  | false =>
                    cases d6 : decide (x.weight < 0) with
                    | true =>
                      repeat (first
                        | refine r_mv_p rfl ?_ | refine r_do rfl (by first | with_reducible rfl | assumption | decide) ?_ | refine r_skip rfl (by first | with_reducible rfl | assumption | decide) ?_
                        | refine r_fad rfl rfl ?_ | refine r_pick_t rfl (by first | with_reducible rfl | assumption | decide) rfl rfl ?_
                        | refine r_pick_f rfl (by first | with_reducible rfl | assumption | decide) rfl rfl ?_ | refine r_sem rfl rfl rfl rfl ?_ | refine r_nil ?_)
                      exact ⟨weak_S ⟨rfl, rfl, rfl, tb rfl (by simp only [badPlace, outR, d6, Bool.true_or, Bool.or_true]), trivial⟩ ⟨rfl, rfl, rfl, trivial⟩⟩
                    | false =>
                      cases d7 : decide ((1000000000000 : Int) < x.weight) with
                      | true =>
                        repeat (first
                          | refine r_mv_p rfl ?_ | refine r_do rfl (by first | with_reducible rfl | assumption | decide) ?_ | refine r_fad rfl rfl ?_
                          | refine r_pick_f rfl (by first | with_reducible rfl | assumption | decide) rfl rfl ?_ | refine r_sem rfl rfl rfl rfl ?_ | refine r_nil ?_)
                        exact ⟨weak_S ⟨rfl, rfl, rfl, tb rfl (by simp only [badPlace, outR, d7, Bool.true_or, Bool.or_true]), trivial⟩ ⟨rfl, rfl, rfl, trivial⟩⟩
                      | false =>
                        repeat (first
                          | refine r_mv_p rfl ?_ | refine r_do rfl (by first | with_reducible rfl | assumption | decide) ?_ | refine r_fad rfl rfl ?_
                          | refine r_pick_f rfl (by first | with_reducible rfl | assumption | decide) rfl rfl ?_ | refine r_sem rfl rfl rfl rfl ?_ | refine r_nil ?_)
                        exact ⟨weak_S ⟨rfl, rfl, rfl, tb rfl (by simp only [badPlace, outR, d0, d1, d2, d3, d4, d5, d6, d7]; decide), trivial⟩ ⟨rfl, rfl, rfl, trivial⟩⟩
      cases hp : badPlace x with
      | true =>
        repeat (first
          | refine r_mv_p rfl ?_ | refine r_sem rfl rfl rfl rfl ?_ | refine r_nil ?_ | refine r_storeAll rfl rfl rfl rfl rfl rfl ?_ | refine run_seq ?_ | refine run_reg ?_ | refine run_ret ?_
          | refine fin_seq ?_ | refine fin_seq_r ?_ | refine run_cond_t rfl (by first | with_reducible rfl | assumption | decide) ?_)
        exact fin_out rfl rfl
      | false =>
        cases hfr : x.frozen with
        | true =>
          repeat (first
            | refine r_mv_p rfl ?_ | refine r_fad rfl rfl ?_ | refine r_sem rfl rfl rfl rfl ?_ | refine r_nil ?_ | refine r_storeAll rfl rfl rfl rfl rfl rfl ?_ | refine run_seq ?_
            | refine run_reg ?_ | refine run_skip ?_ | refine run_ret ?_ | refine fin_seq ?_ | refine fin_seq_r ?_ | refine run_cond_t rfl (by first | with_reducible rfl | assumption | decide) ?_
            | refine run_cond_f rfl (by first | with_reducible rfl | assumption | decide) ?_)
          exact fin_out rfl rfl
        | false =>
          cases bb with
          | true =>
            repeat (first
              | refine r_call rfl (hb) ?_ | refine r_mv_p rfl ?_ | refine r_fad rfl rfl ?_ | refine r_loadAllB rfl rfl (by first | rfl | assumption) ?_ | refine r_sem rfl rfl rfl rfl ?_
              | refine r_nil ?_ | refine r_storeAll rfl rfl rfl rfl rfl rfl ?_ | refine r_alloc rfl ?_ | refine run_seq ?_ | refine run_reg ?_ | refine run_skip ?_ | refine run_ret ?_
              | refine fin_seq ?_ | refine fin_seq_r ?_ | refine run_cond_t rfl (by first | with_reducible rfl | assumption | decide) ?_
              | refine run_cond_f rfl (by first | with_reducible rfl | assumption | decide) ?_)
            exact fin_out rfl rfl
          | false =>
            cases hl : decide ((64 : Int) ≤ (((h.bins.xs.map Bin.enc).length : Nat) : Int)) with
            | true =>
              have hl' : 64 ≤ h.bins.xs.length := by rw [hbl] at hl; have := of_decide_eq_true hl; omega
              rw [if_pos hl']
              repeat (first
                | refine r_call rfl (hb) ?_ | refine r_mv_p rfl ?_ | refine r_fad rfl rfl ?_ | refine r_loadAllB rfl rfl (by first | rfl | assumption) ?_ | refine r_sem rfl rfl rfl rfl ?_
                | refine r_nil ?_ | refine r_storeAll rfl rfl rfl rfl rfl rfl ?_ | refine r_alloc rfl ?_ | refine run_seq ?_ | refine run_reg ?_ | refine run_skip ?_ | refine run_ret ?_
                | refine fin_seq ?_ | refine fin_seq_r ?_ | refine run_cond_t rfl (by first | with_reducible rfl | assumption | decide) ?_
                | refine run_cond_f rfl (by first | with_reducible rfl | assumption | decide) ?_)
              exact fin_out rfl rfl
            | false =>
              have hl' : ¬ 64 ≤ h.bins.xs.length := by rw [hbl] at hl; have := of_decide_eq_false hl; omega
              rw [if_neg hl']
              repeat (first
                | refine r_call rfl (hb) ?_ | refine r_call rfl (hw) ?_ | refine r_mv_p rfl ?_ | refine r_fad rfl rfl ?_ | refine r_loadAllB rfl rfl (by first | rfl | assumption) ?_
                | refine r_sem rfl rfl rfl rfl ?_ | refine r_nil ?_ | refine r_storeAll rfl rfl rfl rfl rfl rfl ?_ | refine r_alloc rfl ?_ | refine run_seq ?_ | refine run_reg ?_ | refine run_skip ?_
                | refine run_ret ?_ | refine fin_seq ?_ | refine run_cond_f rfl (by first | with_reducible rfl | assumption | decide) ?_)
              exact fin_out rfl rfl

/-! ### Sites, and what is frozen -/
theorem site67 (h : House) (c : Str) : Ret Try.prog 67 [.agg h.enc, .v (.string c)] (.v (.string (h.siteOf c))) := by
  refine ret67 rfl fun hbd => ?_
  have hb := findBin h c
  unfold c67
  unfold House.siteOf
  cases hc : h.bin? c with
  | none =>
    simp only [hc, itemOut_none, itemOut_some, binOut_none, binOut_some] at hb
    repeat (first
      | refine r_call rfl (hb) ?_ | refine r_call rfl (findZone h _) ?_ | refine r_mv_p rfl ?_ | refine r_fad rfl rfl ?_ | refine r_loadAllB rfl rfl (by first | rfl | assumption) ?_
      | refine r_sem rfl rfl rfl rfl ?_ | refine r_nil ?_ | refine r_storeAll rfl rfl rfl rfl rfl rfl ?_ | refine r_alloc rfl ?_ | refine r_box rfl rfl rfl ?_ | refine run_seq ?_
      | refine run_reg ?_ | refine run_ret ?_ | refine fin_seq ?_ | refine fin_seq_r ?_ | refine run_cond_t rfl (by first | with_reducible rfl | assumption | decide) ?_)
    exact fin_out rfl rfl
  | some b =>
    simp only [hc, itemOut_none, itemOut_some, binOut_none, binOut_some] at hb
    repeat (first
      | refine r_call rfl (hb) ?_ | refine r_call rfl (findZone h _) ?_ | refine r_mv_p rfl ?_ | refine r_fad rfl rfl ?_ | refine r_loadAllB rfl rfl (by first | rfl | assumption) ?_
      | refine r_sem rfl rfl rfl rfl ?_ | refine r_nil ?_ | refine r_storeAll rfl rfl rfl rfl rfl rfl ?_ | refine r_alloc rfl ?_ | refine r_box rfl rfl rfl ?_ | refine run_seq ?_
      | refine run_reg ?_ | refine run_skip ?_ | refine run_ret ?_ | refine fin_seq ?_ | refine run_cond_f rfl (by first | with_reducible rfl | assumption | decide) ?_)
    exact fin_out rfl rfl
theorem refSite68 (h : House) (c : Str) : Ret Try.prog 68 [.agg h.enc, .v (.string c)] (.v (.string (h.siteOf c))) := by
  refine ret68 rfl fun hbd => ?_
  have hb := refFindBin h c
  unfold c68
  unfold House.siteOf
  cases hc : h.bin? c with
  | none =>
    simp only [hc, itemOut_none, itemOut_some, binOut_none, binOut_some] at hb
    repeat (first
      | refine r_call rfl (hb) ?_ | refine r_mv_p rfl ?_ | refine r_loadAllB rfl rfl (by first | rfl | assumption) ?_ | refine r_sem rfl rfl rfl rfl ?_ | refine r_nil ?_
      | refine r_storeAll rfl rfl rfl rfl rfl rfl ?_ | refine r_alloc rfl ?_ | refine r_box rfl rfl rfl ?_ | refine run_seq ?_ | refine run_reg ?_ | refine run_ret ?_ | refine fin_seq ?_
      | refine fin_seq_r ?_ | refine run_cond_t rfl (by first | with_reducible rfl | assumption | decide) ?_)
    exact fin_out rfl rfl
  | some b =>
    simp only [hc, itemOut_none, itemOut_some, binOut_none, binOut_some] at hb
    repeat (first
      | refine r_call rfl (hb) ?_ | refine r_call rfl (refFindZone h _) ?_ | refine r_mv_p rfl ?_ | refine r_fad rfl rfl ?_ | refine r_loadAllB rfl rfl (by first | rfl | assumption) ?_
      | refine r_sem rfl rfl rfl rfl ?_ | refine r_nil ?_ | refine r_storeAll rfl rfl rfl rfl rfl rfl ?_ | refine r_alloc rfl ?_ | refine r_box rfl rfl rfl ?_ | refine run_seq ?_
      | refine run_reg ?_ | refine run_skip ?_ | refine run_ret ?_ | refine fin_seq ?_ | refine run_cond_f rfl (by first | with_reducible rfl | assumption | decide) ?_)
    exact fin_out rfl rfl
end Go.Fw
