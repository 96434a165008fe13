/-
  Lists of pairs: the document's put and drop.
-/
import Derived.Test.YtikgpjnfifnilaaTD
set_option linter.unusedVariables false
set_option linter.unusedSimpArgs false
set_option maxRecDepth 10000
namespace Go.Fw
open Go.Proofs
theorem le24 {i n : Nat} (h : i < n) (hb : (n + 1) * 24 ≤ 140737488355328) : (i + 1 + 1) * 24 ≤ 140737488355328 := Nat.le_trans (Nat.mul_le_mul_right 24 (by omega)) hb
set_option maxHeartbeats 2000000 in
theorem refPut13 (x : Pair) (xs : List Pair) (sp : List (List PV)) (hbig : (xs.length + 1) * 24 ≤ 140737488355328) :
    RetN Try.prog 13 [.sl (xs.map Pair.enc) sp, .agg x.enc] 24 2 ((putL pairCmp x xs).map Pair.enc) := by
  refine row13 rfl fun hbd => ?_
  have hxs : ∀ z ∈ xs.map Pair.enc, z.length = 2 := by intro z hz; obtain ⟨y, _, rfl⟩ := List.mem_map.1 hz; rfl
  unfold c13
  repeat (first
    | refine r_call rfl (refFind11 x xs sp) ?_
    | refine r_mv_p rfl ?_
    | refine r_do rfl (by first | with_reducible rfl | assumption | decide) ?_
    | refine r_skip rfl (by first | with_reducible rfl | assumption | decide) ?_
    | refine r_skipU rfl ?_
    | refine r_fad rfl rfl ?_
    | refine r_add rfl rfl (by omega) ?_
    | refine r_sub rfl rfl (by omega) ?_
    | refine r_loadAll rfl (by first | rfl | assumption) ?_
    | refine r_loadAllB rfl rfl (by first | rfl | assumption) ?_
    | refine r_pick_t rfl (by first | with_reducible rfl | assumption | decide) rfl rfl ?_
    | refine r_pick_f rfl (by first | with_reducible rfl | assumption | decide) rfl rfl ?_
    | refine r_sem rfl rfl rfl rfl ?_
    | refine r_nil ?_
    | refine r_iad rfl rfl (by omega) (by assumption) (by first | rfl | assumption | omega | (simp; done) | (simp; omega)) ?_
    | refine r_storeAll rfl rfl rfl rfl rfl rfl ?_
    | refine r_store rfl rfl rfl rfl (by decide) ?_
    | refine r_store rfl rfl rfl rfl (And.intro rfl (Nat.le_of_ble_eq_true rfl)) ?_
    | refine r_alloc rfl ?_
    | refine r_box rfl rfl rfl ?_
    | refine r_bsl rfl rfl rfl rfl rfl rfl ?_
    | refine r_bsl1 rfl (by assumption) rfl ?_
    | refine r_mkmap rfl ?_
    | refine r_mv_nil rfl ?_
    | refine r_mv_own rfl rfl ?_
    | refine r_mv_mp rfl rfl ?_
    | refine r_mv_row rfl rfl (by first | rfl | assumption | omega | (simp; done) | (simp; omega)) ?_
    | refine r_mv_rp rfl rfl (by first | rfl | assumption | omega | (simp; done) | (simp; omega)) ?_
    | refine r_fad_rp rfl rfl (by first | rfl | assumption | omega | (simp; done) | (simp; omega)) ?_
    | refine r_iad_row rfl rfl (by first | rfl | assumption | omega | (simp; done) | (simp; omega)) rfl (by first | rfl | assumption | omega | (simp; done) | (simp; omega)) ?_
    | refine r_skip0 rfl (by first | with_reducible rfl | assumption | decide) ?_
    | refine r_skipU0 rfl ?_
    | refine r_semF rfl rfl rfl rfl ?_
    | refine r_load_rp rfl rfl (by assumption) rfl ?_
    | refine r_len_row rfl rfl (by first | rfl | assumption | omega | (simp; done) | (simp; omega)) ?_
    | refine run_seq ?_
    | refine run_reg ?_
    | refine run_regd rfl ?_
    | refine run_regs rfl ?_
    | refine fin_far rfl ?_
    | refine run_block ?_
    | refine run_skip ?_
    | refine run_exit ?_
    | refine run_ret ?_
    | refine fin_seq ?_
    | refine fin_seq_e ?_
    | refine fin_seq_r ?_
    | refine fin_blk ?_
    | refine fin_blk_e ?_
    | refine fin_blk_x rfl ?_
    | refine fin_blk_r ?_
    | refine fin_loop_e ?_
    | refine fin_loop_r ?_
    | refine run_cond_t rfl (by first | with_reducible rfl | assumption | decide) ?_
    | refine run_cond_f rfl (by first | with_reducible rfl | assumption | decide) ?_)
  refine run_cond rfl (fun h => ?_) (fun h => ?_)
  · rw [← nmQ_eq] at h
    obtain ⟨k, hk, hlt⟩ := findB_lt h
    have hL : putL pairCmp x xs = xs.set k x := by rw [putL, if_pos h, hk]; rfl
    rw [nmQ_eq] at hk
    rw [hk, hL]
    have hl : (xs.map Pair.enc).length * 24 ≤ 140737488355328 := by simp; omega
    have hlt' : k < (xs.map Pair.enc).length := by simpa using hlt
    have hi : (xs.map Pair.enc)[k]? = some xs[k].enc := by simp [hlt]
    repeat (first
      | refine r_appNil (fs := []) rfl rfl rfl rfl hxs hl rfl ?_
      | refine r_store_rp rfl rfl hi rfl rfl (And.intro rfl (Nat.le_refl 2)) ?_
      | refine r_mv_p rfl ?_
      | refine r_do rfl (by first | with_reducible rfl | assumption | decide) ?_
      | refine r_skip rfl (by first | with_reducible rfl | assumption | decide) ?_
      | refine r_skipU rfl ?_
      | refine r_fad rfl rfl ?_
      | refine r_add rfl rfl (by omega) ?_
      | refine r_sub rfl rfl (by omega) ?_
      | refine r_loadAll rfl (by first | rfl | assumption) ?_
      | refine r_loadAllB rfl rfl (by first | rfl | assumption) ?_
      | refine r_pick_t rfl (by first | with_reducible rfl | assumption | decide) rfl rfl ?_
      | refine r_pick_f rfl (by first | with_reducible rfl | assumption | decide) rfl rfl ?_
      | refine r_sem rfl rfl rfl rfl ?_
      | refine r_nil ?_
      | refine r_iad rfl rfl (by omega) (by assumption) (by first | rfl | assumption | omega | (simp; done) | (simp; omega)) ?_
      | refine r_storeAll rfl rfl rfl rfl rfl rfl ?_
      | refine r_store rfl rfl rfl rfl (by decide) ?_
      | refine r_store rfl rfl rfl rfl (And.intro rfl (Nat.le_of_ble_eq_true rfl)) ?_
      | refine r_alloc rfl ?_
      | refine r_box rfl rfl rfl ?_
      | refine r_bsl rfl rfl rfl rfl rfl rfl ?_
      | refine r_bsl1 rfl (by assumption) rfl ?_
      | refine r_mkmap rfl ?_
      | refine r_mv_nil rfl ?_
      | refine r_mv_own rfl rfl ?_
      | refine r_mv_mp rfl rfl ?_
      | refine r_mv_row rfl rfl (by first | rfl | assumption | omega | (simp; done) | (simp; omega)) ?_
      | refine r_mv_rp rfl rfl (by first | rfl | assumption | omega | (simp; done) | (simp; omega)) ?_
      | refine r_fad_rp rfl rfl (by first | rfl | assumption | omega | (simp; done) | (simp; omega)) ?_
      | refine r_iad_row rfl rfl (by first | rfl | assumption | omega | (simp; done) | (simp; omega)) rfl (by first | rfl | assumption | omega | (simp; done) | (simp; omega)) ?_
      | refine r_skip0 rfl (by first | with_reducible rfl | assumption | decide) ?_
      | refine r_skipU0 rfl ?_
      | refine r_semF rfl rfl rfl rfl ?_
      | refine r_load_rp rfl rfl (by assumption) rfl ?_
      | refine r_len_row rfl rfl (by first | rfl | assumption | omega | (simp; done) | (simp; omega)) ?_
      | refine run_seq ?_
      | refine run_reg ?_
      | refine run_regd rfl ?_
      | refine run_regs rfl ?_
      | refine fin_far rfl ?_
      | refine run_block ?_
      | refine run_skip ?_
      | refine run_exit ?_
      | refine run_ret ?_
      | refine fin_seq ?_
      | refine fin_seq_e ?_
      | refine fin_seq_r ?_
      | refine fin_blk ?_
      | refine fin_blk_e ?_
      | refine fin_blk_x rfl ?_
      | refine fin_blk_r ?_
      | refine fin_loop_e ?_
      | refine fin_loop_r ?_
      | refine run_cond_t rfl (by first | with_reducible rfl | assumption | decide) ?_
      | refine run_cond_f rfl (by first | with_reducible rfl | assumption | decide) ?_)
    refine fin_row (by rfl) (by simp) (by rfl) ?_
    rw [List.map_set]; rfl
  · have hfalse : findB (eqQ pairCmp x) xs = false := by rw [nmQ_eq]; exact h
    obtain ⟨k, hk, hkn, hlo, hhi⟩ := putI_spec (gtQ pairCmp x) xs
    have hL : putL pairCmp x xs = xs.take k ++ x :: xs.drop k := by rw [putL, if_neg (by simp [hfalse]), hk]; rfl
    have hgt : ∀ y : Pair, gtQ pairCmp x y = true ↔ slt x.name y.name = true := fun y => by unfold gtQ pairCmp; rw [decide_eq_true_eq]; exact cmpS_gt
    repeat (first
      | refine r_mv_p rfl ?_
      | refine r_do rfl (by first | with_reducible rfl | assumption | decide) ?_
      | refine r_skip rfl (by first | with_reducible rfl | assumption | decide) ?_
      | refine r_skipU rfl ?_
      | refine r_fad rfl rfl ?_
      | refine r_add rfl rfl (by omega) ?_
      | refine r_sub rfl rfl (by omega) ?_
      | refine r_loadAll rfl (by first | rfl | assumption) ?_
      | refine r_loadAllB rfl rfl (by first | rfl | assumption) ?_
      | refine r_pick_t rfl (by first | with_reducible rfl | assumption | decide) rfl rfl ?_
      | refine r_pick_f rfl (by first | with_reducible rfl | assumption | decide) rfl rfl ?_
      | refine r_sem rfl rfl rfl rfl ?_
      | refine r_nil ?_
      | refine r_iad rfl rfl (by omega) (by assumption) (by first | rfl | assumption | omega | (simp; done) | (simp; omega)) ?_
      | refine r_storeAll rfl rfl rfl rfl rfl rfl ?_
      | refine r_store rfl rfl rfl rfl (by decide) ?_
      | refine r_store rfl rfl rfl rfl (And.intro rfl (Nat.le_of_ble_eq_true rfl)) ?_
      | refine r_alloc rfl ?_
      | refine r_box rfl rfl rfl ?_
      | refine r_bsl rfl rfl rfl rfl rfl rfl ?_
      | refine r_bsl1 rfl (by assumption) rfl ?_
      | refine r_mkmap rfl ?_
      | refine r_mv_nil rfl ?_
      | refine r_mv_own rfl rfl ?_
      | refine r_mv_mp rfl rfl ?_
      | refine r_mv_row rfl rfl (by first | rfl | assumption | omega | (simp; done) | (simp; omega)) ?_
      | refine r_mv_rp rfl rfl (by first | rfl | assumption | omega | (simp; done) | (simp; omega)) ?_
      | refine r_fad_rp rfl rfl (by first | rfl | assumption | omega | (simp; done) | (simp; omega)) ?_
      | refine r_iad_row rfl rfl (by first | rfl | assumption | omega | (simp; done) | (simp; omega)) rfl (by first | rfl | assumption | omega | (simp; done) | (simp; omega)) ?_
      | refine r_skip0 rfl (by first | with_reducible rfl | assumption | decide) ?_
      | refine r_skipU0 rfl ?_
      | refine r_semF rfl rfl rfl rfl ?_
      | refine r_load_rp rfl rfl (by assumption) rfl ?_
      | refine r_len_row rfl rfl (by first | rfl | assumption | omega | (simp; done) | (simp; omega)) ?_
      | refine run_seq ?_
      | refine run_reg ?_
      | refine run_regd rfl ?_
      | refine run_regs rfl ?_
      | refine fin_far rfl ?_
      | refine run_block ?_
      | refine run_skip ?_
      | refine run_exit ?_
      | refine run_ret ?_
      | refine fin_seq ?_
      | refine fin_seq_e ?_
      | refine fin_seq_r ?_
      | refine fin_blk ?_
      | refine fin_blk_e ?_
      | refine fin_blk_x rfl ?_
      | refine fin_blk_r ?_
      | refine fin_loop_e ?_
      | refine fin_loop_r ?_
      | refine run_cond_t rfl (by first | with_reducible rfl | assumption | decide) ?_
      | refine run_cond_f rfl (by first | with_reducible rfl | assumption | decide) ?_)
    refine run_weak (weak_nilRow 5 53 24 2 rfl rfl) (run_weak (weak_S ?_ ?_) (run_inv (fun i : Nat => S [(0, .p (.sl (xs.map Pair.enc) sp)), (3, .own 3 0), (5, .row 53 ((laid x k xs i).map Pair.enc).length), (8, .p (.v (.bool (decide (k < i))))), (9, .p (.v (.int .i64 (i : Nat))))] [(53, some (.row 24 2 ((laid x k xs i).map Pair.enc) false)), (3, some (.box x.enc false))])
      (fun i => i ≤ xs.length) (fun i => xs.length - i) ?_ 0 (Nat.zero_le _)))
    · exact ⟨rfl, rfl, rfl, rfl, rfl, trivial⟩
    · exact ⟨rfl, rfl, trivial⟩
    intro i hi ih
    repeat (first
      | refine r_mv_p rfl ?_
      | refine r_do rfl (by first | with_reducible rfl | assumption | decide) ?_
      | refine r_skip rfl (by first | with_reducible rfl | assumption | decide) ?_
      | refine r_skipU rfl ?_
      | refine r_fad rfl rfl ?_
      | refine r_add rfl rfl (by omega) ?_
      | refine r_sub rfl rfl (by omega) ?_
      | refine r_loadAll rfl (by first | rfl | assumption) ?_
      | refine r_loadAllB rfl rfl (by first | rfl | assumption) ?_
      | refine r_pick_t rfl (by first | with_reducible rfl | assumption | decide) rfl rfl ?_
      | refine r_pick_f rfl (by first | with_reducible rfl | assumption | decide) rfl rfl ?_
      | refine r_sem rfl rfl rfl rfl ?_
      | refine r_nil ?_
      | refine r_iad rfl rfl (by omega) (by assumption) (by first | rfl | assumption | omega | (simp; done) | (simp; omega)) ?_
      | refine r_storeAll rfl rfl rfl rfl rfl rfl ?_
      | refine r_store rfl rfl rfl rfl (by decide) ?_
      | refine r_store rfl rfl rfl rfl (And.intro rfl (Nat.le_of_ble_eq_true rfl)) ?_
      | refine r_alloc rfl ?_
      | refine r_box rfl rfl rfl ?_
      | refine r_bsl rfl rfl rfl rfl rfl rfl ?_
      | refine r_bsl1 rfl (by assumption) rfl ?_
      | refine r_mkmap rfl ?_
      | refine r_mv_nil rfl ?_
      | refine r_mv_own rfl rfl ?_
      | refine r_mv_mp rfl rfl ?_
      | refine r_mv_row rfl rfl (by first | rfl | assumption | omega | (simp; done) | (simp; omega)) ?_
      | refine r_mv_rp rfl rfl (by first | rfl | assumption | omega | (simp; done) | (simp; omega)) ?_
      | refine r_fad_rp rfl rfl (by first | rfl | assumption | omega | (simp; done) | (simp; omega)) ?_
      | refine r_iad_row rfl rfl (by first | rfl | assumption | omega | (simp; done) | (simp; omega)) rfl (by first | rfl | assumption | omega | (simp; done) | (simp; omega)) ?_
      | refine r_skip0 rfl (by first | with_reducible rfl | assumption | decide) ?_
      | refine r_skipU0 rfl ?_
      | refine r_semF rfl rfl rfl rfl ?_
      | refine r_load_rp rfl rfl (by assumption) rfl ?_
      | refine r_len_row rfl rfl (by first | rfl | assumption | omega | (simp; done) | (simp; omega)) ?_
      | refine run_seq ?_
      | refine run_reg ?_
      | refine run_regd rfl ?_
      | refine run_regs rfl ?_
      | refine fin_far rfl ?_
      | refine run_block ?_
      | refine run_skip ?_
      | refine run_exit ?_
      | refine run_ret ?_
      | refine fin_seq ?_
      | refine fin_seq_e ?_
      | refine fin_seq_r ?_
      | refine fin_blk ?_
      | refine fin_blk_e ?_
      | refine fin_blk_x rfl ?_
      | refine fin_blk_r ?_
      | refine fin_loop_e ?_
      | refine fin_loop_r ?_
      | refine run_cond_t rfl (by first | with_reducible rfl | assumption | decide) ?_
      | refine run_cond_f rfl (by first | with_reducible rfl | assumption | decide) ?_)
    refine run_cond rfl (fun h2 => ?_) (fun h2 => ?_)
    · have hlt : i < xs.length := by simpa using h2
      have hx : (xs.map Pair.enc)[i]? = some xs[i].enc := by simp [hlt]
      have htake : xs.take (i + 1) = xs.take i ++ [xs[i]] := by simp
      have he : ∀ y : Pair, ∀ z ∈ [y.enc], z.length = 2 := by intro y z hz; simp at hz; subst hz; rfl
      have hll := laid_length x k xs i hkn hi
      have hl1 : (((laid x k xs i).map Pair.enc).length + [xs[i].enc].length) * 24 ≤ 140737488355328 := by simp only [List.length_map, List.length_cons, List.length_nil]; omega
      rcases Nat.lt_trichotomy k i with hc | hc | hc
      · have hd : decide (k < i) = true := decide_eq_true hc
        have hd' : (!decide (k < i)) = false := by simp [hc]
        have hE : (laid x k xs (i + 1)).map Pair.enc = (laid x k xs i).map Pair.enc ++ [xs[i].enc] := by
          rw [laid, laid, if_pos hc, if_pos (by omega), htake, List.drop_append_of_le_length (by simp; omega)]; simp
        repeat (first
          | refine r_appRow (fs := [52]) rfl rfl rfl rfl rfl rfl (he _) hl1 (by decide) (Or.inl rfl) ?_
          | refine r_mv_p rfl ?_
          | refine r_do rfl (by first | with_reducible rfl | assumption | decide) ?_
          | refine r_skip rfl (by first | with_reducible rfl | assumption | decide) ?_
          | refine r_skipU rfl ?_
          | refine r_fad rfl rfl ?_
          | refine r_add rfl rfl (by omega) ?_
          | refine r_sub rfl rfl (by omega) ?_
          | refine r_loadAll rfl (by first | rfl | assumption) ?_
          | refine r_loadAllB rfl rfl (by first | rfl | assumption) ?_
          | refine r_pick_t rfl (by first | with_reducible rfl | assumption | decide) rfl rfl ?_
          | refine r_pick_f rfl (by first | with_reducible rfl | assumption | decide) rfl rfl ?_
          | refine r_sem rfl rfl rfl rfl ?_
          | refine r_nil ?_
          | refine r_iad rfl rfl (by omega) (by assumption) (by first | rfl | assumption | omega | (simp; done) | (simp; omega)) ?_
          | refine r_storeAll rfl rfl rfl rfl rfl rfl ?_
          | refine r_store rfl rfl rfl rfl (by decide) ?_
          | refine r_store rfl rfl rfl rfl (And.intro rfl (Nat.le_of_ble_eq_true rfl)) ?_
          | refine r_alloc rfl ?_
          | refine r_box rfl rfl rfl ?_
          | refine r_bsl rfl rfl rfl rfl rfl rfl ?_
          | refine r_bsl1 rfl (by assumption) rfl ?_
          | refine r_mkmap rfl ?_
          | refine r_mv_nil rfl ?_
          | refine r_mv_own rfl rfl ?_
          | refine r_mv_mp rfl rfl ?_
          | refine r_mv_row rfl rfl (by first | rfl | assumption | omega | (simp; done) | (simp; omega)) ?_
          | refine r_mv_rp rfl rfl (by first | rfl | assumption | omega | (simp; done) | (simp; omega)) ?_
          | refine r_fad_rp rfl rfl (by first | rfl | assumption | omega | (simp; done) | (simp; omega)) ?_
          | refine r_iad_row rfl rfl (by first | rfl | assumption | omega | (simp; done) | (simp; omega)) rfl (by first | rfl | assumption | omega | (simp; done) | (simp; omega)) ?_
          | refine r_skip0 rfl (by first | with_reducible rfl | assumption | decide) ?_
          | refine r_skipU0 rfl ?_
          | refine r_semF rfl rfl rfl rfl ?_
          | refine r_load_rp rfl rfl (by assumption) rfl ?_
          | refine r_len_row rfl rfl (by first | rfl | assumption | omega | (simp; done) | (simp; omega)) ?_
          | refine run_seq ?_
          | refine run_reg ?_
          | refine run_regd rfl ?_
          | refine run_regs rfl ?_
          | refine fin_far rfl ?_
          | refine run_block ?_
          | refine run_skip ?_
          | refine run_exit ?_
          | refine run_ret ?_
          | refine fin_seq ?_
          | refine fin_seq_e ?_
          | refine fin_seq_r ?_
          | refine fin_blk ?_
          | refine fin_blk_e ?_
          | refine fin_blk_x rfl ?_
          | refine fin_blk_r ?_
          | refine fin_loop_e ?_
          | refine fin_loop_r ?_
          | refine run_cond_t rfl (by first | with_reducible rfl | assumption | decide) ?_
          | refine run_cond_f rfl (by first | with_reducible rfl | assumption | decide) ?_)
        refine fin_loop (run_weak (weak_S ?_ ?_) (ih (i + 1) hlt (by omega)))
        · exact ⟨rfl, rfl, by rw [hE, List.length_append]; rfl, tb rfl (hd.trans (decide_eq_true (show k < i + 1 by omega)).symm), rfl, trivial⟩
        · exact ⟨by rw [hE]; rfl, rfl, trivial⟩
      · have hd : decide (k < i) = false := decide_eq_false (by omega)
        have hd' : (!decide (k < i)) = true := by simp; omega
        have hg : slt x.name xs[i].name = true := (hgt _).1 (hhi _ (by subst hc; simp))
        have hg2 : (!(slt xs[i].name x.name || decide (xs[i].name = x.name))) = true := by
          have := slt_asymm hg
          have hne := slt_ne hg
          simp [this, Ne.symm hne]
        have hl0 : (((laid x k xs i).map Pair.enc).length + [x.enc].length) * 24 ≤ 140737488355328 := by simp only [List.length_map, List.length_cons, List.length_nil]; omega
        have hlen : (laid x k xs i).length = i := by rw [laid, if_neg (by omega)]; simp; omega
        have hl2 : ((((laid x k xs i).map Pair.enc) ++ [x.enc]).length + [xs[i].enc].length) * 24 ≤ 140737488355328 := by
          clear hl0 hl1 hll
          rw [List.length_append, List.length_map, hlen]
          exact le24 hlt hbig
        have hE : (laid x k xs (i + 1)).map Pair.enc = ((laid x k xs i).map Pair.enc ++ [x.enc]) ++ [xs[i].enc] := by
          have h1 : laid x k xs (i + 1) = xs.take k ++ x :: (xs.take (i + 1)).drop k := if_pos (by omega)
          have h2 : laid x k xs i = xs.take i := if_neg (by omega)
          have h3 : (xs.take i).drop i = [] := by simp
          have h4 : (xs.take i ++ [xs[i]]).drop i = [xs[i]] := by rw [List.drop_append_of_le_length (by simp; omega), h3]; rfl
          rw [h1, h2, htake, hc, h4, List.map_append, List.append_assoc]; rfl
        repeat (first
          | refine r_appRow (fs := [45]) rfl rfl rfl rfl rfl rfl (he _) hl0 (by decide) (Or.inr rfl) ?_
          | refine r_appRow (fs := [52]) rfl rfl List.length_append.symm rfl rfl rfl (he _) hl2 (by decide) (Or.inr rfl) ?_
          | refine r_mv_p rfl ?_
          | refine r_do rfl (by first | with_reducible rfl | assumption | decide) ?_
          | refine r_skip rfl (by first | with_reducible rfl | assumption | decide) ?_
          | refine r_skipU rfl ?_
          | refine r_fad rfl rfl ?_
          | refine r_add rfl rfl (by omega) ?_
          | refine r_sub rfl rfl (by omega) ?_
          | refine r_loadAll rfl (by first | rfl | assumption) ?_
          | refine r_loadAllB rfl rfl (by first | rfl | assumption) ?_
          | refine r_pick_t rfl (by first | with_reducible rfl | assumption | decide) rfl rfl ?_
          | refine r_pick_f rfl (by first | with_reducible rfl | assumption | decide) rfl rfl ?_
          | refine r_sem rfl rfl rfl rfl ?_
          | refine r_nil ?_
          | refine r_iad rfl rfl (by omega) (by assumption) (by first | rfl | assumption | omega | (simp; done) | (simp; omega)) ?_
          | refine r_storeAll rfl rfl rfl rfl rfl rfl ?_
          | refine r_store rfl rfl rfl rfl (by decide) ?_
          | refine r_store rfl rfl rfl rfl (And.intro rfl (Nat.le_of_ble_eq_true rfl)) ?_
          | refine r_alloc rfl ?_
          | refine r_box rfl rfl rfl ?_
          | refine r_bsl rfl rfl rfl rfl rfl rfl ?_
          | refine r_bsl1 rfl (by assumption) rfl ?_
          | refine r_mkmap rfl ?_
          | refine r_mv_nil rfl ?_
          | refine r_mv_own rfl rfl ?_
          | refine r_mv_mp rfl rfl ?_
          | refine r_mv_row rfl rfl (by first | rfl | assumption | omega | (simp; done) | (simp; omega)) ?_
          | refine r_mv_rp rfl rfl (by first | rfl | assumption | omega | (simp; done) | (simp; omega)) ?_
          | refine r_fad_rp rfl rfl (by first | rfl | assumption | omega | (simp; done) | (simp; omega)) ?_
          | refine r_iad_row rfl rfl (by first | rfl | assumption | omega | (simp; done) | (simp; omega)) rfl (by first | rfl | assumption | omega | (simp; done) | (simp; omega)) ?_
          | refine r_skip0 rfl (by first | with_reducible rfl | assumption | decide) ?_
          | refine r_skipU0 rfl ?_
          | refine r_semF rfl rfl rfl rfl ?_
          | refine r_load_rp rfl rfl (by assumption) rfl ?_
          | refine r_len_row rfl rfl (by first | rfl | assumption | omega | (simp; done) | (simp; omega)) ?_
          | refine run_seq ?_
          | refine run_reg ?_
          | refine run_regd rfl ?_
          | refine run_regs rfl ?_
          | refine fin_far rfl ?_
          | refine run_block ?_
          | refine run_skip ?_
          | refine run_exit ?_
          | refine run_ret ?_
          | refine fin_seq ?_
          | refine fin_seq_e ?_
          | refine fin_seq_r ?_
          | refine fin_blk ?_
          | refine fin_blk_e ?_
          | refine fin_blk_x rfl ?_
          | refine fin_blk_r ?_
          | refine fin_loop_e ?_
          | refine fin_loop_r ?_
          | refine run_cond_t rfl (by first | with_reducible rfl | assumption | decide) ?_
          | refine run_cond_f rfl (by first | with_reducible rfl | assumption | decide) ?_)
        refine fin_loop (run_weak (weak_S ?_ ?_) (ih (i + 1) hlt (by omega)))
        · exact ⟨rfl, rfl, by rw [hE]; simp only [List.length_append]; rfl, tb rfl (decide_eq_true (show k < i + 1 by omega)).symm, rfl, trivial⟩
        · exact ⟨by rw [hE]; rfl, rfl, trivial⟩
      · have hd : decide (k < i) = false := decide_eq_false (by omega)
        have hd' : (!decide (k < i)) = true := by simp; omega
        have hg : slt x.name xs[i].name = false := by
          have := hlo i xs[i] hc (by simp)
          cases h5 : slt x.name xs[i].name with
          | false => rfl
          | true => rw [(hgt _).2 h5] at this; cases this
        have hg2 : (!(slt xs[i].name x.name || decide (xs[i].name = x.name))) = false := by
          cases h5 : slt xs[i].name x.name with
          | true => rfl
          | false => simp [slt_total h5 hg]
        have hE : (laid x k xs (i + 1)).map Pair.enc = (laid x k xs i).map Pair.enc ++ [xs[i].enc] := by
          have h1 : laid x k xs (i + 1) = xs.take (i + 1) := if_neg (by omega)
          have h2 : laid x k xs i = xs.take i := if_neg (by omega)
          rw [h1, h2, htake, List.map_append]; rfl
        repeat (first
          | refine r_appRow (fs := [52]) rfl rfl rfl rfl rfl rfl (he _) hl1 (by decide) (Or.inl rfl) ?_
          | refine r_mv_p rfl ?_
          | refine r_do rfl (by first | with_reducible rfl | assumption | decide) ?_
          | refine r_skip rfl (by first | with_reducible rfl | assumption | decide) ?_
          | refine r_skipU rfl ?_
          | refine r_fad rfl rfl ?_
          | refine r_add rfl rfl (by omega) ?_
          | refine r_sub rfl rfl (by omega) ?_
          | refine r_loadAll rfl (by first | rfl | assumption) ?_
          | refine r_loadAllB rfl rfl (by first | rfl | assumption) ?_
          | refine r_pick_t rfl (by first | with_reducible rfl | assumption | decide) rfl rfl ?_
          | refine r_pick_f rfl (by first | with_reducible rfl | assumption | decide) rfl rfl ?_
          | refine r_sem rfl rfl rfl rfl ?_
          | refine r_nil ?_
          | refine r_iad rfl rfl (by omega) (by assumption) (by first | rfl | assumption | omega | (simp; done) | (simp; omega)) ?_
          | refine r_storeAll rfl rfl rfl rfl rfl rfl ?_
          | refine r_store rfl rfl rfl rfl (by decide) ?_
          | refine r_store rfl rfl rfl rfl (And.intro rfl (Nat.le_of_ble_eq_true rfl)) ?_
          | refine r_alloc rfl ?_
          | refine r_box rfl rfl rfl ?_
          | refine r_bsl rfl rfl rfl rfl rfl rfl ?_
          | refine r_bsl1 rfl (by assumption) rfl ?_
          | refine r_mkmap rfl ?_
          | refine r_mv_nil rfl ?_
          | refine r_mv_own rfl rfl ?_
          | refine r_mv_mp rfl rfl ?_
          | refine r_mv_row rfl rfl (by first | rfl | assumption | omega | (simp; done) | (simp; omega)) ?_
          | refine r_mv_rp rfl rfl (by first | rfl | assumption | omega | (simp; done) | (simp; omega)) ?_
          | refine r_fad_rp rfl rfl (by first | rfl | assumption | omega | (simp; done) | (simp; omega)) ?_
          | refine r_iad_row rfl rfl (by first | rfl | assumption | omega | (simp; done) | (simp; omega)) rfl (by first | rfl | assumption | omega | (simp; done) | (simp; omega)) ?_
          | refine r_skip0 rfl (by first | with_reducible rfl | assumption | decide) ?_
          | refine r_skipU0 rfl ?_
          | refine r_semF rfl rfl rfl rfl ?_
          | refine r_load_rp rfl rfl (by assumption) rfl ?_
          | refine r_len_row rfl rfl (by first | rfl | assumption | omega | (simp; done) | (simp; omega)) ?_
          | refine run_seq ?_
          | refine run_reg ?_
          | refine run_regd rfl ?_
          | refine run_regs rfl ?_
          | refine fin_far rfl ?_
          | refine run_block ?_
          | refine run_skip ?_
          | refine run_exit ?_
          | refine run_ret ?_
          | refine fin_seq ?_
          | refine fin_seq_e ?_
          | refine fin_seq_r ?_
          | refine fin_blk ?_
          | refine fin_blk_e ?_
          | refine fin_blk_x rfl ?_
          | refine fin_blk_r ?_
          | refine fin_loop_e ?_
          | refine fin_loop_r ?_
          | refine run_cond_t rfl (by first | with_reducible rfl | assumption | decide) ?_
          | refine run_cond_f rfl (by first | with_reducible rfl | assumption | decide) ?_)
        refine fin_loop (run_weak (weak_S ?_ ?_) (ih (i + 1) hlt (by omega)))
        · exact ⟨rfl, rfl, by rw [hE, List.length_append]; rfl, tb rfl (hd.trans (decide_eq_false (show ¬ k < i + 1 by omega)).symm), rfl, trivial⟩
        · exact ⟨by rw [hE]; rfl, rfl, trivial⟩
    · have hin : i = xs.length := by simp at h2; omega
      have htake : xs.take i = xs := by rw [hin]; simp
      rcases Nat.lt_or_ge k i with hc | hc
      · have hd : decide (k < i) = true := decide_eq_true hc
        have hd' : (!decide (k < i)) = false := by simp [hc]
        have hE : putL pairCmp x xs = laid x k xs i := by rw [hL, laid, if_pos hc, htake]
        rw [hE]
        repeat (first
          | refine r_mv_p rfl ?_
          | refine r_do rfl (by first | with_reducible rfl | assumption | decide) ?_
          | refine r_skip rfl (by first | with_reducible rfl | assumption | decide) ?_
          | refine r_skipU rfl ?_
          | refine r_fad rfl rfl ?_
          | refine r_add rfl rfl (by omega) ?_
          | refine r_sub rfl rfl (by omega) ?_
          | refine r_loadAll rfl (by first | rfl | assumption) ?_
          | refine r_loadAllB rfl rfl (by first | rfl | assumption) ?_
          | refine r_pick_t rfl (by first | with_reducible rfl | assumption | decide) rfl rfl ?_
          | refine r_pick_f rfl (by first | with_reducible rfl | assumption | decide) rfl rfl ?_
          | refine r_sem rfl rfl rfl rfl ?_
          | refine r_nil ?_
          | refine r_iad rfl rfl (by omega) (by assumption) (by first | rfl | assumption | omega | (simp; done) | (simp; omega)) ?_
          | refine r_storeAll rfl rfl rfl rfl rfl rfl ?_
          | refine r_store rfl rfl rfl rfl (by decide) ?_
          | refine r_store rfl rfl rfl rfl (And.intro rfl (Nat.le_of_ble_eq_true rfl)) ?_
          | refine r_alloc rfl ?_
          | refine r_box rfl rfl rfl ?_
          | refine r_bsl rfl rfl rfl rfl rfl rfl ?_
          | refine r_bsl1 rfl (by assumption) rfl ?_
          | refine r_mkmap rfl ?_
          | refine r_mv_nil rfl ?_
          | refine r_mv_own rfl rfl ?_
          | refine r_mv_mp rfl rfl ?_
          | refine r_mv_row rfl rfl (by first | rfl | assumption | omega | (simp; done) | (simp; omega)) ?_
          | refine r_mv_rp rfl rfl (by first | rfl | assumption | omega | (simp; done) | (simp; omega)) ?_
          | refine r_fad_rp rfl rfl (by first | rfl | assumption | omega | (simp; done) | (simp; omega)) ?_
          | refine r_iad_row rfl rfl (by first | rfl | assumption | omega | (simp; done) | (simp; omega)) rfl (by first | rfl | assumption | omega | (simp; done) | (simp; omega)) ?_
          | refine r_skip0 rfl (by first | with_reducible rfl | assumption | decide) ?_
          | refine r_skipU0 rfl ?_
          | refine r_semF rfl rfl rfl rfl ?_
          | refine r_load_rp rfl rfl (by assumption) rfl ?_
          | refine r_len_row rfl rfl (by first | rfl | assumption | omega | (simp; done) | (simp; omega)) ?_
          | refine run_seq ?_
          | refine run_reg ?_
          | refine run_regd rfl ?_
          | refine run_regs rfl ?_
          | refine fin_far rfl ?_
          | refine run_block ?_
          | refine run_skip ?_
          | refine run_exit ?_
          | refine run_ret ?_
          | refine fin_seq ?_
          | refine fin_seq_e ?_
          | refine fin_seq_r ?_
          | refine fin_blk ?_
          | refine fin_blk_e ?_
          | refine fin_blk_x rfl ?_
          | refine fin_blk_r ?_
          | refine fin_loop_e ?_
          | refine fin_loop_r ?_
          | refine run_cond_t rfl (by first | with_reducible rfl | assumption | decide) ?_
          | refine run_cond_f rfl (by first | with_reducible rfl | assumption | decide) ?_)
        exact fin_row (by rfl) (by rfl) (by rfl) (by rfl)
      · have hd : decide (k < i) = false := decide_eq_false (by omega)
        have hd' : (!decide (k < i)) = true := by simp; omega
        have hki : k = xs.length := by omega
        have hE : (putL pairCmp x xs).map Pair.enc = (laid x k xs i).map Pair.enc ++ [x.enc] := by
          have h1 : laid x k xs i = xs.take i := if_neg (Nat.not_lt.2 hc)
          rw [hL, h1, htake, hki, List.drop_length, List.take_length, List.map_append]; rfl
        have hl0 : (((laid x k xs i).map Pair.enc).length + [x.enc].length) * 24 ≤ 140737488355328 := by
          have h1 : laid x k xs i = xs.take i := if_neg (Nat.not_lt.2 hc)
          rw [h1, htake, List.length_map]; exact hbig
        have he : ∀ z ∈ [x.enc], z.length = 2 := by intro z hz; simp at hz; subst hz; rfl
        rw [hE]
        repeat (first
          | refine r_appRow (fs := [58]) rfl rfl rfl rfl rfl rfl he hl0 (by decide) (Or.inr rfl) ?_
          | refine r_mv_p rfl ?_
          | refine r_do rfl (by first | with_reducible rfl | assumption | decide) ?_
          | refine r_skip rfl (by first | with_reducible rfl | assumption | decide) ?_
          | refine r_skipU rfl ?_
          | refine r_fad rfl rfl ?_
          | refine r_add rfl rfl (by omega) ?_
          | refine r_sub rfl rfl (by omega) ?_
          | refine r_loadAll rfl (by first | rfl | assumption) ?_
          | refine r_loadAllB rfl rfl (by first | rfl | assumption) ?_
          | refine r_pick_t rfl (by first | with_reducible rfl | assumption | decide) rfl rfl ?_
          | refine r_pick_f rfl (by first | with_reducible rfl | assumption | decide) rfl rfl ?_
          | refine r_sem rfl rfl rfl rfl ?_
          | refine r_nil ?_
          | refine r_iad rfl rfl (by omega) (by assumption) (by first | rfl | assumption | omega | (simp; done) | (simp; omega)) ?_
          | refine r_storeAll rfl rfl rfl rfl rfl rfl ?_
          | refine r_store rfl rfl rfl rfl (by decide) ?_
          | refine r_store rfl rfl rfl rfl (And.intro rfl (Nat.le_of_ble_eq_true rfl)) ?_
          | refine r_alloc rfl ?_
          | refine r_box rfl rfl rfl ?_
          | refine r_bsl rfl rfl rfl rfl rfl rfl ?_
          | refine r_bsl1 rfl (by assumption) rfl ?_
          | refine r_mkmap rfl ?_
          | refine r_mv_nil rfl ?_
          | refine r_mv_own rfl rfl ?_
          | refine r_mv_mp rfl rfl ?_
          | refine r_mv_row rfl rfl (by first | rfl | assumption | omega | (simp; done) | (simp; omega)) ?_
          | refine r_mv_rp rfl rfl (by first | rfl | assumption | omega | (simp; done) | (simp; omega)) ?_
          | refine r_fad_rp rfl rfl (by first | rfl | assumption | omega | (simp; done) | (simp; omega)) ?_
          | refine r_iad_row rfl rfl (by first | rfl | assumption | omega | (simp; done) | (simp; omega)) rfl (by first | rfl | assumption | omega | (simp; done) | (simp; omega)) ?_
          | refine r_skip0 rfl (by first | with_reducible rfl | assumption | decide) ?_
          | refine r_skipU0 rfl ?_
          | refine r_semF rfl rfl rfl rfl ?_
          | refine r_load_rp rfl rfl (by assumption) rfl ?_
          | refine r_len_row rfl rfl (by first | rfl | assumption | omega | (simp; done) | (simp; omega)) ?_
          | refine run_seq ?_
          | refine run_reg ?_
          | refine run_regd rfl ?_
          | refine run_regs rfl ?_
          | refine fin_far rfl ?_
          | refine run_block ?_
          | refine run_skip ?_
          | refine run_exit ?_
          | refine run_ret ?_
          | refine fin_seq ?_
          | refine fin_seq_e ?_
          | refine fin_seq_r ?_
          | refine fin_blk ?_
          | refine fin_blk_e ?_
          | refine fin_blk_x rfl ?_
          | refine fin_blk_r ?_
          | refine fin_loop_e ?_
          | refine fin_loop_r ?_
          | refine run_cond_t rfl (by first | with_reducible rfl | assumption | decide) ?_
          | refine run_cond_f rfl (by first | with_reducible rfl | assumption | decide) ?_)
        exact fin_row (by rfl) List.length_append.symm (by rfl) (by rfl)

end Go.Fw
