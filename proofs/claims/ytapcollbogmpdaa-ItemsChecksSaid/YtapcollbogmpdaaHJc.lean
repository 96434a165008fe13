/-
  Whether an item may be kept, by the program.
-/
import Derived.Test.YtapcollbogmpdaaHJ
set_option linter.unusedVariables false
set_option linter.unusedSimpArgs false
set_option maxRecDepth 10000
namespace Go.Fw
open Go.Proofs

set_option maxHeartbeats 16000000 in
theorem check41 (x : Item) : Ret Try.prog 41 [.agg x.enc] (.v (.int .i64 x.check')) := by
  refine ret41 rfl fun hbd => ?_
  have hn := nums106 x.code
  unfold c41
  cases h1 : decide (nameE x.code = 0) with
  | false =>
    have h1' : (!decide (nameE x.code = 0)) = true := by rw [h1]; rfl
    rw [check_name (of_decide_eq_false h1)]
    repeat (first
      | refine r_call rfl (hn) ?_ | refine r_mv_p rfl ?_ | refine r_fad rfl rfl ?_ | refine r_sem rfl rfl rfl rfl ?_ | refine r_nil ?_ | refine r_box rfl rfl rfl ?_ | refine run_seq ?_
      | refine run_reg ?_ | refine run_ret ?_ | refine fin_seq ?_ | refine fin_seq_r ?_ | refine run_cond_t rfl (by first | with_reducible rfl | assumption | decide) ?_)
    exact fin_out rfl rfl
  | true =>
    have h1' : (!decide (nameE x.code = 0)) = false := by rw [h1]; rfl
    have hn0 := of_decide_eq_true h1
    repeat (first
      | refine r_call rfl (hn) ?_ | refine r_mv_p rfl ?_ | refine r_fad rfl rfl ?_ | refine r_sem rfl rfl rfl rfl ?_ | refine r_nil ?_ | refine r_box rfl rfl rfl ?_ | refine run_seq ?_
      | refine run_reg ?_ | refine run_block ?_ | refine run_skip ?_ | refine fin_seq ?_ | refine run_cond_f rfl (by first | with_reducible rfl | assumption | decide) ?_)
    refine run_weak (weak_fzB (d := 1) rfl) (run_weak (weak_S ?_ ?_) (run_inv (fun i : Nat => S [(1, .own 1 0), (14, .p (.agg ((x.enc.drop 1).take 8))), (15, .p (.v (.int .i64 (i : Nat))))] [(1, some (.box x.enc true))])
      (fun i => i ≤ 4 ∧ ∀ j, j < i → errAt x j = 0) (fun i => 4 - i) ?_ 0 ⟨by decide, fun j hj => by omega⟩))
    · exact ⟨rfl, rfl, rfl, trivial⟩
    · exact ⟨rfl, trivial⟩
    rintro i ⟨hi, hlo⟩ ih
    repeat (first
      | refine r_sem rfl rfl rfl rfl ?_ | refine r_nil ?_ | refine run_seq ?_ | refine run_reg ?_ | refine fin_seq ?_)
    refine run_cond rfl (fun h => ?_) (fun h => ?_)
    · have hlt : i < 4 := by have := of_decide_eq_true h; omega
      obtain ⟨u, hu⟩ := us_get x hlt
      obtain ⟨_, g1, g2, g3⟩ := unit_at hu
      have hU := unit107 u (x.us.take i) ((x.us.drop i).map uEnc)
      cases h2 : decide (unitE u (x.us.take i) = 0) with
      | false =>
        have h2' : (!decide (unitE u (x.us.take i) = 0)) = true := by rw [h2]; rfl
        rw [check_unit hn0 hlo hu (of_decide_eq_false h2)]
        repeat (first
          | refine r_idx rfl rfl (by omega) g3 ?_ | refine r_semF («as» := [.own 1 1 x.enc, .p (.v (.int .i64 (i : Nat)))]) rfl rfl (sarr_us x _ i (by omega)) rfl ?_ | refine r_call rfl (hU) ?_
          | refine r_mv_p rfl ?_ | refine r_fad rfl rfl ?_ | refine r_loadAllB rfl rfl (by first | rfl | assumption) ?_ | refine r_sem rfl rfl rfl rfl ?_ | refine r_nil ?_
          | refine r_storeAll rfl rfl rfl rfl rfl rfl ?_ | refine r_alloc rfl ?_ | refine run_seq ?_ | refine run_reg ?_ | refine run_regd rfl ?_ | refine run_block ?_ | refine run_skip ?_
          | refine run_ret ?_ | refine fin_seq ?_ | refine fin_seq_r ?_ | refine fin_blk_r ?_ | refine fin_loop_r ?_
          | refine run_cond_t rfl (by first | with_reducible rfl | assumption | decide) ?_)
        exact fin_out rfl rfl
      | true =>
        have h2' : (!decide (unitE u (x.us.take i) = 0)) = false := by rw [h2]; rfl
        repeat (first
          | refine r_idx rfl rfl (by omega) g3 ?_ | refine r_semF («as» := [.own 1 1 x.enc, .p (.v (.int .i64 (i : Nat)))]) rfl rfl (sarr_us x _ i (by omega)) rfl ?_ | refine r_call rfl (hU) ?_
          | refine r_mv_p rfl ?_ | refine r_fad rfl rfl ?_ | refine r_add rfl rfl (by omega) ?_ | refine r_loadAllB rfl rfl (by first | rfl | assumption) ?_ | refine r_sem rfl rfl rfl rfl ?_
          | refine r_nil ?_ | refine r_storeAll rfl rfl rfl rfl rfl rfl ?_ | refine r_alloc rfl ?_ | refine run_seq ?_ | refine run_reg ?_ | refine run_regd rfl ?_ | refine run_block ?_
          | refine run_skip ?_ | refine fin_seq ?_ | refine fin_blk ?_ | refine run_cond_f rfl (by first | with_reducible rfl | assumption | decide) ?_)
        refine fin_loop (run_weak (weak_S ?_ ?_) (ih (i + 1) ⟨hlt, errAt_step hlo hu (of_decide_eq_true h2)⟩ (by omega)))
        · exact ⟨rfl, rfl, rfl, trivial⟩
        · exact ⟨rfl, trivial⟩
    · have hlt : i = 4 := by simp at h; omega
      subst hlt
      rw [check_size hn0 hlo, sizeE_of]
      have w1 := within108 x.volume 0 1000000
      have w2 := within108 x.weight 0 1000000
      clear ih hlo
      generalize outB 0 1000000 x.volume = o1 at *
      generalize outB 0 1000000 x.weight = o2 at *
      cases o1 with
      | true =>
        repeat (first
          | refine r_call rfl (w1) ?_ | refine r_mv_p rfl ?_ | refine r_skip rfl (by first | with_reducible rfl | assumption | decide) ?_ | refine r_fad rfl rfl ?_
          | refine r_pick_t rfl (by first | with_reducible rfl | assumption | decide) rfl rfl ?_ | refine r_sem rfl rfl rfl rfl ?_ | refine r_nil ?_ | refine run_seq ?_ | refine run_reg ?_
          | refine run_block ?_ | refine run_exit ?_ | refine run_ret ?_ | refine fin_seq ?_ | refine fin_seq_e ?_ | refine fin_seq_r ?_ | refine fin_blk_e ?_ | refine fin_blk_r ?_
          | refine fin_loop_e ?_ | refine run_cond_t rfl (by first | with_reducible rfl | assumption | decide) ?_)
        exact fin_out rfl rfl
      | false =>
        cases o2 with
        | true =>
          repeat (first
            | refine r_call rfl (w1) ?_ | refine r_call rfl (w2) ?_ | refine r_mv_p rfl ?_ | refine r_do rfl (by first | with_reducible rfl | assumption | decide) ?_ | refine r_fad rfl rfl ?_
            | refine r_pick_f rfl (by first | with_reducible rfl | assumption | decide) rfl rfl ?_ | refine r_sem rfl rfl rfl rfl ?_ | refine r_nil ?_ | refine run_seq ?_ | refine run_reg ?_
            | refine run_block ?_ | refine run_exit ?_ | refine run_ret ?_ | refine fin_seq ?_ | refine fin_seq_e ?_ | refine fin_seq_r ?_ | refine fin_blk_e ?_ | refine fin_blk_r ?_
            | refine fin_loop_e ?_ | refine run_cond_t rfl (by first | with_reducible rfl | assumption | decide) ?_)
          exact fin_out rfl rfl
        | false =>
          cases s1 : x.serial with
          | false =>
            repeat (first
              | refine r_call rfl (w1) ?_ | refine r_call rfl (w2) ?_ | refine r_mv_p rfl ?_ | refine r_do rfl (by first | with_reducible rfl | assumption | decide) ?_
              | refine r_skip rfl (by first | with_reducible rfl | assumption | decide) ?_ | refine r_fad rfl rfl ?_
              | refine r_pick_f rfl (by first | with_reducible rfl | assumption | decide) rfl rfl ?_ | refine r_sem rfl rfl rfl rfl ?_ | refine r_nil ?_ | refine run_seq ?_ | refine run_reg ?_
              | refine run_block ?_ | refine run_skip ?_ | refine run_exit ?_ | refine run_ret ?_ | refine fin_seq ?_ | refine fin_seq_e ?_ | refine fin_blk ?_ | refine fin_blk_e ?_
              | refine fin_loop_e ?_ | refine run_cond_f rfl (by first | with_reducible rfl | assumption | decide) ?_)
            exact fin_out rfl rfl
          | true =>
            cases s2 : x.lots with
            | false =>
              have s2' : (!x.lots) = true := by rw [s2]; rfl
              repeat (first
                | refine r_call rfl (w1) ?_ | refine r_call rfl (w2) ?_ | refine r_mv_p rfl ?_ | refine r_do rfl (by first | with_reducible rfl | assumption | decide) ?_ | refine r_fad rfl rfl ?_
                | refine r_pick_t rfl (by first | with_reducible rfl | assumption | decide) rfl rfl ?_ | refine r_pick_f rfl (by first | with_reducible rfl | assumption | decide) rfl rfl ?_
                | refine r_sem rfl rfl rfl rfl ?_ | refine r_nil ?_ | refine run_seq ?_ | refine run_reg ?_ | refine run_block ?_ | refine run_exit ?_ | refine run_ret ?_ | refine fin_seq ?_
                | refine fin_seq_e ?_ | refine fin_seq_r ?_ | refine fin_blk_e ?_ | refine fin_blk_r ?_ | refine fin_loop_e ?_
                | refine run_cond_t rfl (by first | with_reducible rfl | assumption | decide) ?_ | refine run_cond_f rfl (by first | with_reducible rfl | assumption | decide) ?_)
              exact fin_out rfl rfl
            | true =>
              have s2' : (!x.lots) = false := by rw [s2]; rfl
              repeat (first
                | refine r_call rfl (w1) ?_ | refine r_call rfl (w2) ?_ | refine r_mv_p rfl ?_ | refine r_do rfl (by first | with_reducible rfl | assumption | decide) ?_ | refine r_fad rfl rfl ?_
                | refine r_pick_t rfl (by first | with_reducible rfl | assumption | decide) rfl rfl ?_ | refine r_pick_f rfl (by first | with_reducible rfl | assumption | decide) rfl rfl ?_
                | refine r_sem rfl rfl rfl rfl ?_ | refine r_nil ?_ | refine run_seq ?_ | refine run_reg ?_ | refine run_block ?_ | refine run_skip ?_ | refine run_exit ?_ | refine run_ret ?_
                | refine fin_seq ?_ | refine fin_seq_e ?_ | refine fin_blk ?_ | refine fin_blk_e ?_ | refine fin_loop_e ?_
                | refine run_cond_f rfl (by first | with_reducible rfl | assumption | decide) ?_)
              exact fin_out rfl rfl
end Go.Fw
