/-
  Whether an item may be kept, by the document.
-/
import Derived.Test.YtapcollbogmpdaaHJ
set_option linter.unusedVariables false
set_option linter.unusedSimpArgs false
set_option maxRecDepth 10000
namespace Go.Fw
open Go.Proofs

set_option maxHeartbeats 16000000 in
theorem refCheck42 (x : Item) : Ret Try.prog 42 [.agg x.enc] (.v (.int .i64 x.check')) := by
  refine ret42 rfl fun hbd => ?_
  have hn := refName109 x.code
  unfold c42
  cases h1 : decide (nameE x.code = 0) with
  | false =>
    have h1' : (!decide (nameE x.code = 0)) = true := by rw [h1]; rfl
    rw [check_name (of_decide_eq_false h1)]
    repeat (first
      | refine r_call rfl (hn) ?_ | refine r_mv_p rfl ?_ | refine r_fad rfl rfl ?_ | refine r_sem rfl rfl rfl rfl ?_ | refine r_nil ?_ | refine r_box rfl rfl rfl ?_ | refine run_seq ?_
      | refine run_reg ?_ | refine run_ret ?_ | refine fin_seq ?_ | refine fin_seq_r ?_ | refine run_cond_t rfl (by first | with_reducible rfl | assumption | decide) ?_)
    exact fin_out rfl rfl
  | true =>
    have h1' : (!decide (nameE x.code = 0)) = false := by rw [h1]; rfl
    have hn0 := of_decide_eq_true h1
    repeat (first
      | refine r_call rfl (hn) ?_ | refine r_mv_p rfl ?_ | refine r_fad rfl rfl ?_ | refine r_sem rfl rfl rfl rfl ?_ | refine r_nil ?_ | refine r_box rfl rfl rfl ?_ | refine run_seq ?_
      | refine run_reg ?_ | refine run_block ?_ | refine run_skip ?_ | refine fin_seq ?_ | refine run_cond_f rfl (by first | with_reducible rfl | assumption | decide) ?_)
    refine run_weak (weak_S ?_ ?_) (run_inv (fun i : Nat => S [(1, .own 1 0), (4, .p (.v (.int .i64 (i : Nat))))] [(1, some (.box x.enc false))])
      (fun i => i ≤ 4 ∧ ∀ j, j < i → errAt x j = 0) (fun i => 4 - i) ?_ 0 ⟨by decide, fun j hj => by omega⟩)
    · exact ⟨rfl, rfl, trivial⟩
    · exact ⟨rfl, trivial⟩
    rintro i ⟨hi, hlo⟩ ih
    repeat (first
      | refine r_mv_p rfl ?_ | refine r_sem rfl rfl rfl rfl ?_ | refine r_nil ?_ | refine run_seq ?_ | refine run_reg ?_ | refine fin_seq ?_)
    refine run_cond rfl (fun h => ?_) (fun h => ?_)
    · have hlt : i < 4 := by have := of_decide_eq_true h; omega
      obtain ⟨u, hu⟩ := us_get x hlt
      obtain ⟨_, g1, g2, g3⟩ := unit_at hu
      have hnu := refName109 u.1
      cases k1 : decide (u.1 = ⟨#[]⟩) with
      | true =>
        have k1' : u.1 = ⟨#[]⟩ := of_decide_eq_true k1
        cases k2 : decide (u.2 = 0) with
        | true =>
          have k2' : (!decide (u.2 = 0)) = false := by rw [k2]; rfl
          have hz : unitE u (x.us.take i) = 0 := by unfold unitE; rw [if_pos k1', if_pos (of_decide_eq_true k2)]
          repeat (first
            | refine r_aad rfl rfl rfl (by omega) ?_ | refine r_loadO rfl rfl g1 ?_ | refine r_mv_p rfl ?_ | refine r_fad rfl rfl ?_ | refine r_add rfl rfl (by omega) ?_
            | refine r_sem rfl rfl rfl rfl ?_ | refine r_nil ?_ | refine r_storeAll rfl rfl rfl rfl rfl rfl ?_ | refine r_alloc rfl ?_ | refine run_seq ?_ | refine run_reg ?_
            | refine run_block ?_ | refine run_skip ?_ | refine run_exit ?_ | refine fin_seq ?_ | refine fin_seq_e ?_ | refine fin_blk_e ?_
            | refine run_cond_t rfl (by first | with_reducible rfl | assumption | decide) ?_ | refine run_cond_f rfl (by first | with_reducible rfl | assumption | decide) ?_)
          refine fin_loop (run_weak (weak_S ?_ ?_) (ih (i + 1) ⟨hlt, errAt_step hlo hu hz⟩ (by omega)))
          · exact ⟨rfl, rfl, trivial⟩
          · exact ⟨rfl, trivial⟩
        | false =>
          have k2' : (!decide (u.2 = 0)) = true := by rw [k2]; rfl
          have hz : unitE u (x.us.take i) = 5 := by unfold unitE; rw [if_pos k1', if_neg (of_decide_eq_false k2)]
          rw [check_unit hn0 hlo hu (by rw [hz]; decide), hz]
          repeat (first
            | refine r_aad rfl rfl rfl (by omega) ?_ | refine r_loadO rfl rfl g1 ?_ | refine r_mv_p rfl ?_ | refine r_fad rfl rfl ?_ | refine r_sem rfl rfl rfl rfl ?_ | refine r_nil ?_
            | refine r_storeAll rfl rfl rfl rfl rfl rfl ?_ | refine r_alloc rfl ?_ | refine run_seq ?_ | refine run_reg ?_ | refine run_block ?_ | refine run_skip ?_ | refine run_ret ?_
            | refine fin_seq ?_ | refine fin_seq_r ?_ | refine fin_blk_r ?_ | refine fin_loop_r ?_ | refine run_cond_t rfl (by first | with_reducible rfl | assumption | decide) ?_)
          exact fin_out rfl rfl
      | false =>
        have k1' : ¬ u.1 = ⟨#[]⟩ := of_decide_eq_false k1
        cases k2 : decide (nameE u.1 = 0) with
        | false =>
          have k2' : (!decide (nameE u.1 = 0)) = true := by rw [k2]; rfl
          have k2n : nameE u.1 ≠ 0 := of_decide_eq_false k2
          have hz : unitE u (x.us.take i) = nameE u.1 := by unfold unitE; rw [if_neg k1', if_pos k2n]
          rw [check_unit hn0 hlo hu (by rw [hz]; exact k2n), hz]
          repeat (first
            | refine r_aad rfl rfl rfl (by omega) ?_ | refine r_loadO rfl rfl g1 ?_ | refine r_call rfl (hnu) ?_ | refine r_mv_p rfl ?_ | refine r_fad rfl rfl ?_ | refine r_sem rfl rfl rfl rfl ?_
            | refine r_nil ?_ | refine r_storeAll rfl rfl rfl rfl rfl rfl ?_ | refine r_alloc rfl ?_ | refine run_seq ?_ | refine run_reg ?_ | refine run_block ?_ | refine run_skip ?_
            | refine run_ret ?_ | refine fin_seq ?_ | refine fin_seq_r ?_ | refine fin_blk_r ?_ | refine fin_loop_r ?_
            | refine run_cond_t rfl (by first | with_reducible rfl | assumption | decide) ?_ | refine run_cond_f rfl (by first | with_reducible rfl | assumption | decide) ?_)
          exact fin_out rfl rfl
        | true =>
          have k2' : (!decide (nameE u.1 = 0)) = false := by rw [k2]; rfl
          have k2n : ¬ nameE u.1 ≠ 0 := fun e => e (of_decide_eq_true k2)
          have hE : unitE u (x.us.take i) = if (decide (u.1 = eachS) || (x.us.take i).any (sameN u.1)) = true then 11 else if outB 2 1000000 u.2 = true then 5 else 0 := by unfold unitE; rw [if_neg k1', if_neg k2n]; rfl
          cases k3 : decide (u.1 = eachS) with
          | true =>
            have hz : unitE u (x.us.take i) = 11 := by rw [hE, k3]; rfl
            rw [check_unit hn0 hlo hu (by rw [hz]; decide), hz]
            repeat (first
              | refine r_aad rfl rfl rfl (by omega) ?_ | refine r_loadO rfl rfl g1 ?_ | refine r_call rfl (hnu) ?_ | refine r_mv_p rfl ?_ | refine r_fad rfl rfl ?_ | refine r_sem rfl rfl rfl rfl ?_
              | refine r_nil ?_ | refine r_storeAll rfl rfl rfl rfl rfl rfl ?_ | refine r_alloc rfl ?_ | refine run_seq ?_ | refine run_reg ?_ | refine run_block ?_ | refine run_skip ?_
              | refine run_ret ?_ | refine fin_seq ?_ | refine fin_seq_r ?_ | refine fin_blk_r ?_ | refine fin_loop_r ?_
              | refine run_cond_t rfl (by first | with_reducible rfl | assumption | decide) ?_ | refine run_cond_f rfl (by first | with_reducible rfl | assumption | decide) ?_)
            exact fin_out rfl rfl
          | false =>
            rw [k3, Bool.false_or] at hE
            repeat (first
              | refine r_aad rfl rfl rfl (by omega) ?_ | refine r_loadO rfl rfl g1 ?_ | refine r_call rfl (hnu) ?_ | refine r_mv_p rfl ?_ | refine r_fad rfl rfl ?_ | refine r_sem rfl rfl rfl rfl ?_
              | refine r_nil ?_ | refine r_storeAll rfl rfl rfl rfl rfl rfl ?_ | refine r_alloc rfl ?_ | refine run_seq ?_ | refine run_reg ?_ | refine run_block ?_ | refine run_skip ?_
              | refine fin_seq ?_ | refine run_cond_f rfl (by first | with_reducible rfl | assumption | decide) ?_)
            refine run_weak (weak_S ?_ ?_) (run_inv (fun k : Nat => S [(1, .own 1 0), (4, .p (.v (.int .i64 (i : Nat)))), (5, .own 5 0), (6, .p (.v (.int .i64 (k : Nat))))] [(1, some (.box x.enc false)), (5, some (.box (uEnc u) false))])
              (fun k => k ≤ i ∧ (x.us.take k).any (sameN u.1) = false) (fun k => i - k) ?_ 0 ⟨Nat.zero_le _, rfl⟩)
            · exact ⟨rfl, rfl, rfl, rfl, trivial⟩
            · exact ⟨rfl, rfl, trivial⟩
            rintro k ⟨hk, hno⟩ ihk
            repeat (first
              | refine r_mv_p rfl ?_ | refine r_sem rfl rfl rfl rfl ?_ | refine r_nil ?_ | refine run_seq ?_ | refine run_reg ?_ | refine fin_seq ?_)
            refine run_cond rfl (fun h3 => ?_) (fun h3 => ?_)
            · have hlk : k < i := by simpa using h3
              obtain ⟨a, ha⟩ := us_get x (show k < 4 by omega)
              obtain ⟨_, e1, e2, e3⟩ := unit_at ha
              have hkl : k < x.us.length := by show k < 4; omega
              have hak : x.us[k] = a := (List.getElem?_eq_some_iff.1 ha).2
              have hs := any_take_succ7 (sameN u.1) x.us k hkl
              rw [hak, hno, Bool.false_or] at hs
              cases k4 : decide (a.1 = u.1) with
              | true =>
                have hany : (x.us.take i).any (sameN u.1) = true := List.any_eq_true.2 ⟨a, by
                  rw [← hak]
                  exact List.mem_of_getElem? (i := k) (by rw [List.getElem?_take, if_pos hlk]; simp), k4⟩
                have hz : unitE u (x.us.take i) = 11 := by rw [hE, hany]; rfl
                rw [check_unit hn0 hlo hu (by rw [hz]; decide), hz]
                repeat (first
                  | refine r_aad rfl rfl rfl (by omega) ?_ | refine r_loadO rfl rfl e2 ?_ | refine r_mv_p rfl ?_ | refine r_fad rfl rfl ?_ | refine r_sem rfl rfl rfl rfl ?_ | refine r_nil ?_
                  | refine run_seq ?_ | refine run_reg ?_ | refine run_regd rfl ?_ | refine run_block ?_ | refine run_skip ?_ | refine run_ret ?_ | refine fin_seq ?_ | refine fin_seq_r ?_
                  | refine fin_blk_r ?_ | refine fin_loop_r ?_ | refine run_cond_t rfl (by first | with_reducible rfl | assumption | decide) ?_)
                exact fin_out rfl rfl
              | false =>
                repeat (first
                  | refine r_aad rfl rfl rfl (by omega) ?_ | refine r_loadO rfl rfl e2 ?_ | refine r_mv_p rfl ?_ | refine r_fad rfl rfl ?_ | refine r_add rfl rfl (by omega) ?_
                  | refine r_sem rfl rfl rfl rfl ?_ | refine r_nil ?_ | refine run_seq ?_ | refine run_reg ?_ | refine run_regd rfl ?_ | refine run_block ?_ | refine run_skip ?_ | refine fin_seq ?_
                  | refine fin_blk ?_ | refine run_cond_f rfl (by first | with_reducible rfl | assumption | decide) ?_)
                refine fin_loop (run_weak (weak_S ?_ ?_) (ihk (k + 1) ⟨hlk, by rw [hs]; exact k4⟩ (by omega)))
                · exact ⟨rfl, rfl, rfl, rfl, trivial⟩
                · exact ⟨rfl, rfl, trivial⟩
            · have hki : k = i := by simp at h3; omega
              subst hki
              rw [hno] at hE
              clear ihk
              cases k5 : decide (u.2 < 2) with
              | true =>
                have hz : unitE u (x.us.take k) = 5 := by rw [hE, outB, k5]; rfl
                rw [check_unit hn0 hlo hu (by rw [hz]; decide), hz]
                repeat (first
                  | refine r_mv_p rfl ?_ | refine r_skip rfl (by first | with_reducible rfl | assumption | decide) ?_ | refine r_fad rfl rfl ?_
                  | refine r_pick_t rfl (by first | with_reducible rfl | assumption | decide) rfl rfl ?_ | refine r_sem rfl rfl rfl rfl ?_ | refine r_nil ?_ | refine run_seq ?_ | refine run_reg ?_
                  | refine run_exit ?_ | refine run_ret ?_ | refine fin_seq ?_ | refine fin_seq_e ?_ | refine fin_seq_r ?_ | refine fin_blk_e ?_ | refine fin_blk_r ?_ | refine fin_loop_e ?_
                  | refine fin_loop_r ?_ | refine run_cond_t rfl (by first | with_reducible rfl | assumption | decide) ?_)
                exact fin_out rfl rfl
              | false =>
                cases k6 : decide ((1000000 : Int) < u.2) with
                | true =>
                  have hz : unitE u (x.us.take k) = 5 := by rw [hE, outB, k5, k6]; rfl
                  rw [check_unit hn0 hlo hu (by rw [hz]; decide), hz]
                  repeat (first
                    | refine r_mv_p rfl ?_ | refine r_do rfl (by first | with_reducible rfl | assumption | decide) ?_ | refine r_fad rfl rfl ?_
                    | refine r_pick_f rfl (by first | with_reducible rfl | assumption | decide) rfl rfl ?_ | refine r_sem rfl rfl rfl rfl ?_ | refine r_nil ?_ | refine run_seq ?_ | refine run_reg ?_
                    | refine run_exit ?_ | refine run_ret ?_ | refine fin_seq ?_ | refine fin_seq_e ?_ | refine fin_seq_r ?_ | refine fin_blk_e ?_ | refine fin_blk_r ?_ | refine fin_loop_e ?_
                    | refine fin_loop_r ?_ | refine run_cond_t rfl (by first | with_reducible rfl | assumption | decide) ?_)
                  exact fin_out rfl rfl
                | false =>
                  have hz : unitE u (x.us.take k) = 0 := by rw [hE, outB, k5, k6]; rfl
                  repeat (first
                    | refine r_mv_p rfl ?_ | refine r_do rfl (by first | with_reducible rfl | assumption | decide) ?_ | refine r_fad rfl rfl ?_ | refine r_add rfl rfl (by omega) ?_
                    | refine r_pick_f rfl (by first | with_reducible rfl | assumption | decide) rfl rfl ?_ | refine r_sem rfl rfl rfl rfl ?_ | refine r_nil ?_ | refine run_seq ?_ | refine run_reg ?_
                    | refine run_skip ?_ | refine run_exit ?_ | refine fin_seq ?_ | refine fin_seq_e ?_ | refine fin_blk ?_ | refine fin_blk_e ?_ | refine fin_loop_e ?_
                    | refine run_cond_f rfl (by first | with_reducible rfl | assumption | decide) ?_)
                  refine fin_loop (run_weak (weak_S ?_ ?_) (ih (k + 1) ⟨hlt, errAt_step hlo hu hz⟩ (by omega)))
                  · exact ⟨rfl, rfl, trivial⟩
                  · exact ⟨rfl, trivial⟩
    · have hlt : i = 4 := by simp at h; omega
      subst hlt
      rw [check_size hn0 hlo]
      clear ih hlo
      cases k1 : decide (x.volume < 0) with
      | true =>
        have hz : sizeE x = 5 := by unfold sizeE; rw [if_pos (by simp only [badM, k1, Bool.true_or])]
        rw [hz]
        repeat (first
          | refine r_mv_p rfl ?_ | refine r_skip rfl (by first | with_reducible rfl | assumption | decide) ?_ | refine r_fad rfl rfl ?_
          | refine r_pick_t rfl (by first | with_reducible rfl | assumption | decide) rfl rfl ?_ | refine r_sem rfl rfl rfl rfl ?_ | refine r_nil ?_ | refine run_seq ?_ | refine run_reg ?_
          | refine run_exit ?_ | refine run_ret ?_ | refine fin_seq ?_ | refine fin_seq_e ?_ | refine fin_seq_r ?_ | refine fin_blk_e ?_ | refine fin_loop_e ?_
          | refine run_cond_t rfl (by first | with_reducible rfl | assumption | decide) ?_)
        exact fin_out rfl rfl
      | false =>
        cases k2 : decide ((1000000 : Int) < x.volume) with
        | true =>
          have hz : sizeE x = 5 := by unfold sizeE; rw [if_pos (by simp only [badM, k2, Bool.true_or, Bool.or_true])]
          rw [hz]
          repeat (first
            | refine r_mv_p rfl ?_ | refine r_do rfl (by first | with_reducible rfl | assumption | decide) ?_ | refine r_skip rfl (by first | with_reducible rfl | assumption | decide) ?_
            | refine r_fad rfl rfl ?_ | refine r_pick_t rfl (by first | with_reducible rfl | assumption | decide) rfl rfl ?_
            | refine r_pick_f rfl (by first | with_reducible rfl | assumption | decide) rfl rfl ?_ | refine r_sem rfl rfl rfl rfl ?_ | refine r_nil ?_ | refine run_seq ?_ | refine run_reg ?_
            | refine run_exit ?_ | refine run_ret ?_ | refine fin_seq ?_ | refine fin_seq_e ?_ | refine fin_seq_r ?_ | refine fin_blk_e ?_ | refine fin_loop_e ?_
            | refine run_cond_t rfl (by first | with_reducible rfl | assumption | decide) ?_)
          exact fin_out rfl rfl
        | false =>
          cases k3 : decide (x.weight < 0) with
          | true =>
            have hz : sizeE x = 5 := by unfold sizeE; rw [if_pos (by simp only [badM, k3, Bool.true_or, Bool.or_true])]
            rw [hz]
            repeat (first
              | refine r_mv_p rfl ?_ | refine r_do rfl (by first | with_reducible rfl | assumption | decide) ?_ | refine r_skip rfl (by first | with_reducible rfl | assumption | decide) ?_
              | refine r_fad rfl rfl ?_ | refine r_pick_t rfl (by first | with_reducible rfl | assumption | decide) rfl rfl ?_
              | refine r_pick_f rfl (by first | with_reducible rfl | assumption | decide) rfl rfl ?_ | refine r_sem rfl rfl rfl rfl ?_ | refine r_nil ?_ | refine run_seq ?_ | refine run_reg ?_
              | refine run_exit ?_ | refine run_ret ?_ | refine fin_seq ?_ | refine fin_seq_e ?_ | refine fin_seq_r ?_ | refine fin_blk_e ?_ | refine fin_loop_e ?_
              | refine run_cond_t rfl (by first | with_reducible rfl | assumption | decide) ?_)
            exact fin_out rfl rfl
          | false =>
            cases k4 : decide ((1000000 : Int) < x.weight) with
            | true =>
              have hz : sizeE x = 5 := by unfold sizeE; rw [if_pos (by simp only [badM, k4, Bool.true_or, Bool.or_true])]
              rw [hz]
              repeat (first
                | refine r_mv_p rfl ?_ | refine r_do rfl (by first | with_reducible rfl | assumption | decide) ?_ | refine r_fad rfl rfl ?_
                | refine r_pick_f rfl (by first | with_reducible rfl | assumption | decide) rfl rfl ?_ | refine r_sem rfl rfl rfl rfl ?_ | refine r_nil ?_ | refine run_seq ?_ | refine run_reg ?_
                | refine run_exit ?_ | refine run_ret ?_ | refine fin_seq ?_ | refine fin_seq_e ?_ | refine fin_seq_r ?_ | refine fin_blk_e ?_ | refine fin_loop_e ?_
                | refine run_cond_t rfl (by first | with_reducible rfl | assumption | decide) ?_)
              exact fin_out rfl rfl
            | false =>
              have hz : sizeE x = if (x.serial && !x.lots) = true then 21 else 0 := by unfold sizeE; rw [if_neg (by simp only [badM, k1, k2, k3, k4]; decide)]
              rw [hz]
              cases s1 : x.serial with
              | false =>
                repeat (first
                  | refine r_mv_p rfl ?_ | refine r_do rfl (by first | with_reducible rfl | assumption | decide) ?_ | refine r_skip rfl (by first | with_reducible rfl | assumption | decide) ?_
                  | refine r_fad rfl rfl ?_ | refine r_pick_f rfl (by first | with_reducible rfl | assumption | decide) rfl rfl ?_ | refine r_sem rfl rfl rfl rfl ?_ | refine r_nil ?_
                  | refine run_seq ?_ | refine run_reg ?_ | refine run_skip ?_ | refine run_exit ?_ | refine run_ret ?_ | refine fin_seq ?_ | refine fin_seq_e ?_ | refine fin_blk_e ?_
                  | refine fin_loop_e ?_ | refine run_cond_f rfl (by first | with_reducible rfl | assumption | decide) ?_)
                exact fin_out rfl rfl
              | true =>
                cases s2 : x.lots with
                | false =>
                  have s2' : (!x.lots) = true := by rw [s2]; rfl
                  repeat (first
                    | refine r_mv_p rfl ?_ | refine r_do rfl (by first | with_reducible rfl | assumption | decide) ?_ | refine r_fad rfl rfl ?_
                    | refine r_pick_t rfl (by first | with_reducible rfl | assumption | decide) rfl rfl ?_ | refine r_pick_f rfl (by first | with_reducible rfl | assumption | decide) rfl rfl ?_
                    | refine r_sem rfl rfl rfl rfl ?_ | refine r_nil ?_ | refine run_seq ?_ | refine run_reg ?_ | refine run_skip ?_ | refine run_exit ?_ | refine run_ret ?_ | refine fin_seq ?_
                    | refine fin_seq_e ?_ | refine fin_seq_r ?_ | refine fin_blk_e ?_ | refine fin_loop_e ?_ | refine run_cond_t rfl (by first | with_reducible rfl | assumption | decide) ?_
                    | refine run_cond_f rfl (by first | with_reducible rfl | assumption | decide) ?_)
                  exact fin_out rfl rfl
                | true =>
                  have s2' : (!x.lots) = false := by rw [s2]; rfl
                  repeat (first
                    | refine r_mv_p rfl ?_ | refine r_do rfl (by first | with_reducible rfl | assumption | decide) ?_ | refine r_fad rfl rfl ?_
                    | refine r_pick_t rfl (by first | with_reducible rfl | assumption | decide) rfl rfl ?_ | refine r_pick_f rfl (by first | with_reducible rfl | assumption | decide) rfl rfl ?_
                    | refine r_sem rfl rfl rfl rfl ?_ | refine r_nil ?_ | refine run_seq ?_ | refine run_reg ?_ | refine run_skip ?_ | refine run_exit ?_ | refine run_ret ?_ | refine fin_seq ?_
                    | refine fin_seq_e ?_ | refine fin_blk_e ?_ | refine fin_loop_e ?_ | refine run_cond_f rfl (by first | with_reducible rfl | assumption | decide) ?_)
                  exact fin_out rfl rfl

end Go.Fw
