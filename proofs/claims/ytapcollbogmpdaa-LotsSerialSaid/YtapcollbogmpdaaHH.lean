/-
  The law LotsSerial.
-/
import Derived.Test.YtapcollbogmpdaaHF
set_option linter.unusedVariables false
set_option linter.unusedSimpArgs false
set_option maxRecDepth 10000
namespace Go.Fw
open Go.Proofs

theorem fits_none {h : House} {i c : Str} {q : Int} (hn : h.item? i = none) : h.fits i c q = 12 := by simp [House.fits, hn]
theorem fits_some {h : House} {i c : Str} {q : Int} {x : Item} (hx : h.item? i = some x) : h.fits i c q = 0 ∨ h.fits i c q = 21 ∨ (h.fits i c q = 22 ∧ x.serial = true) := by
  simp only [House.fits, hx, Option.isSome_some, Option.getD_some]
  rw [if_neg (by simp)]
  split
  · exact .inr (.inl rfl)
  · split
    · rename_i h2; simp only [Bool.and_eq_true] at h2; exact .inr (.inr ⟨rfl, h2.1⟩)
    · exact .inl rfl
theorem fits_sum {h : House} {i c : Str} {q : Int} {x : Item} (hx : h.item? i = some x) (hs : x.serial = true) (h0 : h.fits i c q = 0) : h.quants.xs.foldl (addQ i c) q ≤ 1 := by
  simp only [House.fits, hx, Option.isSome_some, Option.getD_some, hs, Bool.true_and] at h0
  rw [if_neg (by simp)] at h0
  split at h0
  · cases h0
  · split at h0
    · cases h0
    · rename_i h2; simp at h2; omega

set_option maxHeartbeats 4000000 in
theorem law_LotsSerial (h : House) (i0 c : Str) : Ret Try.prog 3 [.agg h.enc, .v (.string i0), .v (.string c)] (.v (.bool true)) := by
  refine ret3 rfl fun hbd => ?_
  have hb := bd_items (hbd _ (List.mem_cons_self))
  have hbq := bd_quants (hbd _ (List.mem_cons_self))
  unfold c3
  repeat (first
    | refine r_call rfl (small_ok h) ?_
    | refine r_mv_p rfl ?_
    | refine r_do rfl (by first | with_reducible rfl | assumption | decide) ?_
    | refine r_skip rfl (by first | with_reducible rfl | assumption | decide) ?_
    | refine r_skipU rfl ?_
    | refine r_fad rfl rfl ?_
    | refine r_add rfl rfl (by omega) ?_
    | refine r_sub rfl rfl (by omega) ?_
    | refine r_loadAll rfl (by first | rfl | assumption) ?_
    | refine r_loadAllB rfl rfl (by first | rfl | assumption) ?_
    | refine r_pick_t rfl (by first | with_reducible rfl | assumption | decide) rfl rfl ?_
    | refine r_pick_f rfl (by first | with_reducible rfl | assumption | decide) rfl rfl ?_
    | refine r_sem rfl rfl rfl rfl ?_
    | refine r_nil ?_
    | refine r_iad rfl rfl (by omega) (by assumption) (by first | rfl | assumption | omega | (simp; done) | (simp; omega)) ?_
    | refine r_storeAll rfl rfl rfl rfl rfl rfl ?_
    | refine r_store rfl rfl rfl rfl (by decide) ?_
    | refine r_alloc rfl ?_
    | refine r_box rfl rfl rfl ?_
    | refine r_bsl rfl rfl rfl rfl rfl rfl ?_
    | refine r_mkmap rfl ?_
    | refine r_mv_nil rfl ?_
    | refine r_mv_own rfl rfl ?_
    | refine r_mv_mp rfl rfl ?_
    | refine r_mv_row rfl rfl (by first | rfl | assumption | omega | (simp; done) | (simp; omega)) ?_
    | refine r_mv_rp rfl rfl (by first | rfl | assumption | omega | (simp; done) | (simp; omega)) ?_
    | refine r_fad_rp rfl rfl (by first | rfl | assumption | omega | (simp; done) | (simp; omega)) ?_
    | refine r_iad_row rfl rfl (by first | rfl | assumption | omega | (simp; done) | (simp; omega)) rfl (by first | rfl | assumption | omega | (simp; done) | (simp; omega)) ?_
    | refine r_skip0 rfl (by first | with_reducible rfl | assumption | decide) ?_
    | refine r_skipU0 rfl ?_
    | refine r_semF rfl rfl rfl rfl ?_
    | refine r_load_rp rfl rfl (by assumption) rfl ?_
    | refine run_seq ?_
    | refine run_reg ?_
    | refine run_regd rfl ?_
    | refine run_block ?_
    | refine run_skip ?_
    | refine run_exit ?_
    | refine run_ret ?_
    | refine fin_seq ?_
    | refine fin_seq_e ?_
    | refine fin_seq_r ?_
    | refine fin_blk ?_
    | refine fin_blk_e ?_
    | refine fin_blk_x rfl ?_
    | refine fin_blk_r ?_
    | refine fin_loop_e ?_
    | refine fin_loop_r ?_
    | refine run_cond_t rfl (by first | with_reducible rfl | assumption | decide) ?_
    | refine run_cond_f rfl (by first | with_reducible rfl | assumption | decide) ?_)
  refine run_cond rfl (fun h1 => ?_) (fun h1 => ?_)
  · repeat (first
      | refine r_call rfl (awake9) ?_
      | refine r_mv_p rfl ?_
      | refine r_do rfl (by first | with_reducible rfl | assumption | decide) ?_
      | refine r_skip rfl (by first | with_reducible rfl | assumption | decide) ?_
      | refine r_skipU rfl ?_
      | refine r_fad rfl rfl ?_
      | refine r_add rfl rfl (by omega) ?_
      | refine r_sub rfl rfl (by omega) ?_
      | refine r_loadAll rfl (by first | rfl | assumption) ?_
      | refine r_loadAllB rfl rfl (by first | rfl | assumption) ?_
      | refine r_pick_t rfl (by first | with_reducible rfl | assumption | decide) rfl rfl ?_
      | refine r_pick_f rfl (by first | with_reducible rfl | assumption | decide) rfl rfl ?_
      | refine r_sem rfl rfl rfl rfl ?_
      | refine r_nil ?_
      | refine r_iad rfl rfl (by omega) (by assumption) (by first | rfl | assumption | omega | (simp; done) | (simp; omega)) ?_
      | refine r_storeAll rfl rfl rfl rfl rfl rfl ?_
      | refine r_store rfl rfl rfl rfl (by decide) ?_
      | refine r_alloc rfl ?_
      | refine r_box rfl rfl rfl ?_
      | refine r_bsl rfl rfl rfl rfl rfl rfl ?_
      | refine r_mkmap rfl ?_
      | refine r_mv_nil rfl ?_
      | refine r_mv_own rfl rfl ?_
      | refine r_mv_mp rfl rfl ?_
      | refine r_mv_row rfl rfl (by first | rfl | assumption | omega | (simp; done) | (simp; omega)) ?_
      | refine r_mv_rp rfl rfl (by first | rfl | assumption | omega | (simp; done) | (simp; omega)) ?_
      | refine r_fad_rp rfl rfl (by first | rfl | assumption | omega | (simp; done) | (simp; omega)) ?_
      | refine r_iad_row rfl rfl (by first | rfl | assumption | omega | (simp; done) | (simp; omega)) rfl (by first | rfl | assumption | omega | (simp; done) | (simp; omega)) ?_
      | refine r_skip0 rfl (by first | with_reducible rfl | assumption | decide) ?_
      | refine r_skipU0 rfl ?_
      | refine r_semF rfl rfl rfl rfl ?_
      | refine r_load_rp rfl rfl (by assumption) rfl ?_
      | refine run_seq ?_
      | refine run_reg ?_
      | refine run_regd rfl ?_
      | refine run_block ?_
      | refine run_skip ?_
      | refine run_exit ?_
      | refine run_ret ?_
      | refine fin_seq ?_
      | refine fin_seq_e ?_
      | refine fin_seq_r ?_
      | refine fin_blk ?_
      | refine fin_blk_e ?_
      | refine fin_blk_x rfl ?_
      | refine fin_blk_r ?_
      | refine fin_loop_e ?_
      | refine fin_loop_r ?_
      | refine run_cond_t rfl (by first | with_reducible rfl | assumption | decide) ?_
      | refine run_cond_f rfl (by first | with_reducible rfl | assumption | decide) ?_)
    exact fin_out rfl rfl
  repeat (first
    | refine r_call rfl (lotsFits h i0 c 2) ?_
    | refine r_mv_p rfl ?_
    | refine r_do rfl (by first | with_reducible rfl | assumption | decide) ?_
    | refine r_skip rfl (by first | with_reducible rfl | assumption | decide) ?_
    | refine r_skipU rfl ?_
    | refine r_fad rfl rfl ?_
    | refine r_add rfl rfl (by omega) ?_
    | refine r_sub rfl rfl (by omega) ?_
    | refine r_loadAll rfl (by first | rfl | assumption) ?_
    | refine r_loadAllB rfl rfl (by first | rfl | assumption) ?_
    | refine r_pick_t rfl (by first | with_reducible rfl | assumption | decide) rfl rfl ?_
    | refine r_pick_f rfl (by first | with_reducible rfl | assumption | decide) rfl rfl ?_
    | refine r_sem rfl rfl rfl rfl ?_
    | refine r_nil ?_
    | refine r_iad rfl rfl (by omega) (by assumption) (by first | rfl | assumption | omega | (simp; done) | (simp; omega)) ?_
    | refine r_storeAll rfl rfl rfl rfl rfl rfl ?_
    | refine r_store rfl rfl rfl rfl (by decide) ?_
    | refine r_alloc rfl ?_
    | refine r_box rfl rfl rfl ?_
    | refine r_bsl rfl rfl rfl rfl rfl rfl ?_
    | refine r_mkmap rfl ?_
    | refine r_mv_nil rfl ?_
    | refine r_mv_own rfl rfl ?_
    | refine r_mv_mp rfl rfl ?_
    | refine r_mv_row rfl rfl (by first | rfl | assumption | omega | (simp; done) | (simp; omega)) ?_
    | refine r_mv_rp rfl rfl (by first | rfl | assumption | omega | (simp; done) | (simp; omega)) ?_
    | refine r_fad_rp rfl rfl (by first | rfl | assumption | omega | (simp; done) | (simp; omega)) ?_
    | refine r_iad_row rfl rfl (by first | rfl | assumption | omega | (simp; done) | (simp; omega)) rfl (by first | rfl | assumption | omega | (simp; done) | (simp; omega)) ?_
    | refine r_skip0 rfl (by first | with_reducible rfl | assumption | decide) ?_
    | refine r_skipU0 rfl ?_
    | refine r_semF rfl rfl rfl rfl ?_
    | refine r_load_rp rfl rfl (by assumption) rfl ?_
    | refine run_seq ?_
    | refine run_reg ?_
    | refine run_regd rfl ?_
    | refine run_block ?_
    | refine run_skip ?_
    | refine run_exit ?_
    | refine run_ret ?_
    | refine fin_seq ?_
    | refine fin_seq_e ?_
    | refine fin_seq_r ?_
    | refine fin_blk ?_
    | refine fin_blk_e ?_
    | refine fin_blk_x rfl ?_
    | refine fin_blk_r ?_
    | refine fin_loop_e ?_
    | refine fin_loop_r ?_
    | refine run_cond_t rfl (by first | with_reducible rfl | assumption | decide) ?_
    | refine run_cond_f rfl (by first | with_reducible rfl | assumption | decide) ?_)
  generalize he : h.fits i0 c 2 = e
  refine run_weak (weak_S ?_ ?_) (run_inv (fun i : Nat => S [(1, .p (.v (.string i0))), (2, .p (.v (.string c))), (3, .own 3 0), (7, .p (.v (.int .i64 e))), (8, .p (.v (.int .i64 (i : Nat))))] [(3, some (.box h.enc false))])
    (fun i => i ≤ h.items.xs.length ∧ h.item? i0 = (h.items.xs.drop i).find? fun y => decide (y.code = i0)) (fun i => h.items.xs.length - i) ?_ 0 ⟨Nat.zero_le _, rfl⟩)
  · exact ⟨rfl, rfl, rfl, rfl, rfl, trivial⟩
  · exact ⟨rfl, trivial⟩
  intro i hi ih
  obtain ⟨hi, hfst⟩ := hi
  repeat (first
    | refine r_mv_p rfl ?_
    | refine r_do rfl (by first | with_reducible rfl | assumption | decide) ?_
    | refine r_skip rfl (by first | with_reducible rfl | assumption | decide) ?_
    | refine r_skipU rfl ?_
    | refine r_fad rfl rfl ?_
    | refine r_add rfl rfl (by omega) ?_
    | refine r_sub rfl rfl (by omega) ?_
    | refine r_loadAll rfl (by first | rfl | assumption) ?_
    | refine r_loadAllB rfl rfl (by first | rfl | assumption) ?_
    | refine r_pick_t rfl (by first | with_reducible rfl | assumption | decide) rfl rfl ?_
    | refine r_pick_f rfl (by first | with_reducible rfl | assumption | decide) rfl rfl ?_
    | refine r_sem rfl rfl rfl rfl ?_
    | refine r_nil ?_
    | refine r_iad rfl rfl (by omega) (by assumption) (by first | rfl | assumption | omega | (simp; done) | (simp; omega)) ?_
    | refine r_storeAll rfl rfl rfl rfl rfl rfl ?_
    | refine r_store rfl rfl rfl rfl (by decide) ?_
    | refine r_alloc rfl ?_
    | refine r_box rfl rfl rfl ?_
    | refine r_bsl rfl rfl rfl rfl rfl rfl ?_
    | refine r_mkmap rfl ?_
    | refine r_mv_nil rfl ?_
    | refine r_mv_own rfl rfl ?_
    | refine r_mv_mp rfl rfl ?_
    | refine r_mv_row rfl rfl (by first | rfl | assumption | omega | (simp; done) | (simp; omega)) ?_
    | refine r_mv_rp rfl rfl (by first | rfl | assumption | omega | (simp; done) | (simp; omega)) ?_
    | refine r_fad_rp rfl rfl (by first | rfl | assumption | omega | (simp; done) | (simp; omega)) ?_
    | refine r_iad_row rfl rfl (by first | rfl | assumption | omega | (simp; done) | (simp; omega)) rfl (by first | rfl | assumption | omega | (simp; done) | (simp; omega)) ?_
    | refine r_skip0 rfl (by first | with_reducible rfl | assumption | decide) ?_
    | refine r_skipU0 rfl ?_
    | refine r_semF rfl rfl rfl rfl ?_
    | refine r_load_rp rfl rfl (by assumption) rfl ?_
    | refine run_seq ?_
    | refine run_reg ?_
    | refine run_regd rfl ?_
    | refine run_block ?_
    | refine run_skip ?_
    | refine run_exit ?_
    | refine run_ret ?_
    | refine fin_seq ?_
    | refine fin_seq_e ?_
    | refine fin_seq_r ?_
    | refine fin_blk ?_
    | refine fin_blk_e ?_
    | refine fin_blk_x rfl ?_
    | refine fin_blk_r ?_
    | refine fin_loop_e ?_
    | refine fin_loop_r ?_
    | refine run_cond_t rfl (by first | with_reducible rfl | assumption | decide) ?_
    | refine run_cond_f rfl (by first | with_reducible rfl | assumption | decide) ?_)
  refine run_cond rfl (fun h2 => ?_) (fun h2 => ?_)
  · have hlt : i < h.items.xs.length := by simpa using h2
    have hx : (h.items.xs.map Item.enc)[i]? = some h.items.xs[i].enc := by simp [hlt]
    have hdrop : h.items.xs.drop i = h.items.xs[i] :: h.items.xs.drop (i + 1) := List.drop_eq_getElem_cons hlt
    repeat (first
      | refine r_mv_p rfl ?_
      | refine r_do rfl (by first | with_reducible rfl | assumption | decide) ?_
      | refine r_skip rfl (by first | with_reducible rfl | assumption | decide) ?_
      | refine r_skipU rfl ?_
      | refine r_fad rfl rfl ?_
      | refine r_add rfl rfl (by omega) ?_
      | refine r_sub rfl rfl (by omega) ?_
      | refine r_loadAll rfl (by first | rfl | assumption) ?_
      | refine r_loadAllB rfl rfl (by first | rfl | assumption) ?_
      | refine r_pick_t rfl (by first | with_reducible rfl | assumption | decide) rfl rfl ?_
      | refine r_pick_f rfl (by first | with_reducible rfl | assumption | decide) rfl rfl ?_
      | refine r_sem rfl rfl rfl rfl ?_
      | refine r_nil ?_
      | refine r_iad rfl rfl (by omega) (by assumption) (by first | rfl | assumption | omega | (simp; done) | (simp; omega)) ?_
      | refine r_storeAll rfl rfl rfl rfl rfl rfl ?_
      | refine r_store rfl rfl rfl rfl (by decide) ?_
      | refine r_alloc rfl ?_
      | refine r_box rfl rfl rfl ?_
      | refine r_bsl rfl rfl rfl rfl rfl rfl ?_
      | refine r_mkmap rfl ?_
      | refine r_mv_nil rfl ?_
      | refine r_mv_own rfl rfl ?_
      | refine r_mv_mp rfl rfl ?_
      | refine r_mv_row rfl rfl (by first | rfl | assumption | omega | (simp; done) | (simp; omega)) ?_
      | refine r_mv_rp rfl rfl (by first | rfl | assumption | omega | (simp; done) | (simp; omega)) ?_
      | refine r_fad_rp rfl rfl (by first | rfl | assumption | omega | (simp; done) | (simp; omega)) ?_
      | refine r_iad_row rfl rfl (by first | rfl | assumption | omega | (simp; done) | (simp; omega)) rfl (by first | rfl | assumption | omega | (simp; done) | (simp; omega)) ?_
      | refine r_skip0 rfl (by first | with_reducible rfl | assumption | decide) ?_
      | refine r_skipU0 rfl ?_
      | refine r_semF rfl rfl rfl rfl ?_
      | refine r_load_rp rfl rfl (by assumption) rfl ?_
      | refine run_seq ?_
      | refine run_reg ?_
      | refine run_regd rfl ?_
      | refine run_block ?_
      | refine run_skip ?_
      | refine run_exit ?_
      | refine run_ret ?_
      | refine fin_seq ?_
      | refine fin_seq_e ?_
      | refine fin_seq_r ?_
      | refine fin_blk ?_
      | refine fin_blk_e ?_
      | refine fin_blk_x rfl ?_
      | refine fin_blk_r ?_
      | refine fin_loop_e ?_
      | refine fin_loop_r ?_
      | refine run_cond_t rfl (by first | with_reducible rfl | assumption | decide) ?_
      | refine run_cond_f rfl (by first | with_reducible rfl | assumption | decide) ?_)
    refine run_cond rfl (fun h3 => ?_) (fun h3 => ?_)
    · repeat (first
        | refine r_mv_p rfl ?_
        | refine r_do rfl (by first | with_reducible rfl | assumption | decide) ?_
        | refine r_skip rfl (by first | with_reducible rfl | assumption | decide) ?_
        | refine r_skipU rfl ?_
        | refine r_fad rfl rfl ?_
        | refine r_add rfl rfl (by omega) ?_
        | refine r_sub rfl rfl (by omega) ?_
        | refine r_loadAll rfl (by first | rfl | assumption) ?_
        | refine r_loadAllB rfl rfl (by first | rfl | assumption) ?_
        | refine r_pick_t rfl (by first | with_reducible rfl | assumption | decide) rfl rfl ?_
        | refine r_pick_f rfl (by first | with_reducible rfl | assumption | decide) rfl rfl ?_
        | refine r_sem rfl rfl rfl rfl ?_
        | refine r_nil ?_
        | refine r_iad rfl rfl (by omega) (by assumption) (by first | rfl | assumption | omega | (simp; done) | (simp; omega)) ?_
        | refine r_storeAll rfl rfl rfl rfl rfl rfl ?_
        | refine r_store rfl rfl rfl rfl (by decide) ?_
        | refine r_alloc rfl ?_
        | refine r_box rfl rfl rfl ?_
        | refine r_bsl rfl rfl rfl rfl rfl rfl ?_
        | refine r_mkmap rfl ?_
        | refine r_mv_nil rfl ?_
        | refine r_mv_own rfl rfl ?_
        | refine r_mv_mp rfl rfl ?_
        | refine r_mv_row rfl rfl (by first | rfl | assumption | omega | (simp; done) | (simp; omega)) ?_
        | refine r_mv_rp rfl rfl (by first | rfl | assumption | omega | (simp; done) | (simp; omega)) ?_
        | refine r_fad_rp rfl rfl (by first | rfl | assumption | omega | (simp; done) | (simp; omega)) ?_
        | refine r_iad_row rfl rfl (by first | rfl | assumption | omega | (simp; done) | (simp; omega)) rfl (by first | rfl | assumption | omega | (simp; done) | (simp; omega)) ?_
        | refine r_skip0 rfl (by first | with_reducible rfl | assumption | decide) ?_
        | refine r_skipU0 rfl ?_
        | refine r_semF rfl rfl rfl rfl ?_
        | refine r_load_rp rfl rfl (by assumption) rfl ?_
        | refine run_seq ?_
        | refine run_reg ?_
        | refine run_regd rfl ?_
        | refine run_block ?_
        | refine run_skip ?_
        | refine run_exit ?_
        | refine run_ret ?_
        | refine fin_seq ?_
        | refine fin_seq_e ?_
        | refine fin_seq_r ?_
        | refine fin_blk ?_
        | refine fin_blk_e ?_
        | refine fin_blk_x rfl ?_
        | refine fin_blk_r ?_
        | refine fin_loop_e ?_
        | refine fin_loop_r ?_
        | refine run_cond_t rfl (by first | with_reducible rfl | assumption | decide) ?_
        | refine run_cond_f rfl (by first | with_reducible rfl | assumption | decide) ?_)
      refine fin_loop (run_weak (weak_S ?_ ?_) (ih (i + 1) ⟨hlt, ?_⟩ (by omega)))
      · exact ⟨rfl, rfl, rfl, rfl, rfl, trivial⟩
      · exact ⟨rfl, trivial⟩
      · rw [hfst, hdrop, List.find?_cons_of_neg (by simpa using h3)]
    · have hit : h.item? i0 = some h.items.xs[i] := by rw [hfst, hdrop, List.find?_cons_of_pos (by simpa using h3)]
      clear ih
      repeat (first
        | refine r_mv_p rfl ?_
        | refine r_do rfl (by first | with_reducible rfl | assumption | decide) ?_
        | refine r_skip rfl (by first | with_reducible rfl | assumption | decide) ?_
        | refine r_skipU rfl ?_
        | refine r_fad rfl rfl ?_
        | refine r_add rfl rfl (by omega) ?_
        | refine r_sub rfl rfl (by omega) ?_
        | refine r_loadAll rfl (by first | rfl | assumption) ?_
        | refine r_loadAllB rfl rfl (by first | rfl | assumption) ?_
        | refine r_pick_t rfl (by first | with_reducible rfl | assumption | decide) rfl rfl ?_
        | refine r_pick_f rfl (by first | with_reducible rfl | assumption | decide) rfl rfl ?_
        | refine r_sem rfl rfl rfl rfl ?_
        | refine r_nil ?_
        | refine r_iad rfl rfl (by omega) (by assumption) (by first | rfl | assumption | omega | (simp; done) | (simp; omega)) ?_
        | refine r_storeAll rfl rfl rfl rfl rfl rfl ?_
        | refine r_store rfl rfl rfl rfl (by decide) ?_
        | refine r_alloc rfl ?_
        | refine r_box rfl rfl rfl ?_
        | refine r_bsl rfl rfl rfl rfl rfl rfl ?_
        | refine r_mkmap rfl ?_
        | refine r_mv_nil rfl ?_
        | refine r_mv_own rfl rfl ?_
        | refine r_mv_mp rfl rfl ?_
        | refine r_mv_row rfl rfl (by first | rfl | assumption | omega | (simp; done) | (simp; omega)) ?_
        | refine r_mv_rp rfl rfl (by first | rfl | assumption | omega | (simp; done) | (simp; omega)) ?_
        | refine r_fad_rp rfl rfl (by first | rfl | assumption | omega | (simp; done) | (simp; omega)) ?_
        | refine r_iad_row rfl rfl (by first | rfl | assumption | omega | (simp; done) | (simp; omega)) rfl (by first | rfl | assumption | omega | (simp; done) | (simp; omega)) ?_
        | refine r_skip0 rfl (by first | with_reducible rfl | assumption | decide) ?_
        | refine r_skipU0 rfl ?_
        | refine r_semF rfl rfl rfl rfl ?_
        | refine r_load_rp rfl rfl (by assumption) rfl ?_
        | refine run_seq ?_
        | refine run_reg ?_
        | refine run_regd rfl ?_
        | refine run_block ?_
        | refine run_skip ?_
        | refine run_exit ?_
        | refine run_ret ?_
        | refine fin_seq ?_
        | refine fin_seq_e ?_
        | refine fin_seq_r ?_
        | refine fin_blk ?_
        | refine fin_blk_e ?_
        | refine fin_blk_x rfl ?_
        | refine fin_blk_r ?_
        | refine fin_loop_e ?_
        | refine fin_loop_r ?_
        | refine run_cond_t rfl (by first | with_reducible rfl | assumption | decide) ?_
        | refine run_cond_f rfl (by first | with_reducible rfl | assumption | decide) ?_)
      refine run_weak (weak_S ?_ ?_) (run_inv (fun k : Nat => S [(1, .p (.v (.string i0))), (2, .p (.v (.string c))), (3, .own 3 0), (7, .p (.v (.int .i64 e))), (8, .p (.v (.int .i64 (i : Nat)))), (9, .p (.v (.int .i64 (k : Nat))))] [(3, some (.box h.enc false))])
        (fun k => k ≤ h.quants.xs.length) (fun k => h.quants.xs.length - k) ?_ 0 (Nat.zero_le _))
      · exact ⟨rfl, rfl, rfl, rfl, rfl, rfl, trivial⟩
      · exact ⟨rfl, trivial⟩
      intro k hk ihk
      repeat (first
        | refine r_mv_p rfl ?_
        | refine r_do rfl (by first | with_reducible rfl | assumption | decide) ?_
        | refine r_skip rfl (by first | with_reducible rfl | assumption | decide) ?_
        | refine r_skipU rfl ?_
        | refine r_fad rfl rfl ?_
        | refine r_add rfl rfl (by omega) ?_
        | refine r_sub rfl rfl (by omega) ?_
        | refine r_loadAll rfl (by first | rfl | assumption) ?_
        | refine r_loadAllB rfl rfl (by first | rfl | assumption) ?_
        | refine r_pick_t rfl (by first | with_reducible rfl | assumption | decide) rfl rfl ?_
        | refine r_pick_f rfl (by first | with_reducible rfl | assumption | decide) rfl rfl ?_
        | refine r_sem rfl rfl rfl rfl ?_
        | refine r_nil ?_
        | refine r_iad rfl rfl (by omega) (by assumption) (by first | rfl | assumption | omega | (simp; done) | (simp; omega)) ?_
        | refine r_storeAll rfl rfl rfl rfl rfl rfl ?_
        | refine r_store rfl rfl rfl rfl (by decide) ?_
        | refine r_alloc rfl ?_
        | refine r_box rfl rfl rfl ?_
        | refine r_bsl rfl rfl rfl rfl rfl rfl ?_
        | refine r_mkmap rfl ?_
        | refine r_mv_nil rfl ?_
        | refine r_mv_own rfl rfl ?_
        | refine r_mv_mp rfl rfl ?_
        | refine r_mv_row rfl rfl (by first | rfl | assumption | omega | (simp; done) | (simp; omega)) ?_
        | refine r_mv_rp rfl rfl (by first | rfl | assumption | omega | (simp; done) | (simp; omega)) ?_
        | refine r_fad_rp rfl rfl (by first | rfl | assumption | omega | (simp; done) | (simp; omega)) ?_
        | refine r_iad_row rfl rfl (by first | rfl | assumption | omega | (simp; done) | (simp; omega)) rfl (by first | rfl | assumption | omega | (simp; done) | (simp; omega)) ?_
        | refine r_skip0 rfl (by first | with_reducible rfl | assumption | decide) ?_
        | refine r_skipU0 rfl ?_
        | refine r_semF rfl rfl rfl rfl ?_
        | refine r_load_rp rfl rfl (by assumption) rfl ?_
        | refine run_seq ?_
        | refine run_reg ?_
        | refine run_regd rfl ?_
        | refine run_block ?_
        | refine run_skip ?_
        | refine run_exit ?_
        | refine run_ret ?_
        | refine fin_seq ?_
        | refine fin_seq_e ?_
        | refine fin_seq_r ?_
        | refine fin_blk ?_
        | refine fin_blk_e ?_
        | refine fin_blk_x rfl ?_
        | refine fin_blk_r ?_
        | refine fin_loop_e ?_
        | refine fin_loop_r ?_
        | refine run_cond_t rfl (by first | with_reducible rfl | assumption | decide) ?_
        | refine run_cond_f rfl (by first | with_reducible rfl | assumption | decide) ?_)
      refine run_cond rfl (fun h4 => ?_) (fun h4 => ?_)
      · have hlk : k < h.quants.xs.length := by simpa using h4
        have hxk : (h.quants.xs.map Quant.enc)[k]? = some h.quants.xs[k].enc := by simp [hlk]
        repeat (first
          | refine r_mv_p rfl ?_
          | refine r_do rfl (by first | with_reducible rfl | assumption | decide) ?_
          | refine r_skip rfl (by first | with_reducible rfl | assumption | decide) ?_
          | refine r_skipU rfl ?_
          | refine r_fad rfl rfl ?_
          | refine r_add rfl rfl (by omega) ?_
          | refine r_sub rfl rfl (by omega) ?_
          | refine r_loadAll rfl (by first | rfl | assumption) ?_
          | refine r_loadAllB rfl rfl (by first | rfl | assumption) ?_
          | refine r_pick_t rfl (by first | with_reducible rfl | assumption | decide) rfl rfl ?_
          | refine r_pick_f rfl (by first | with_reducible rfl | assumption | decide) rfl rfl ?_
          | refine r_sem rfl rfl rfl rfl ?_
          | refine r_nil ?_
          | refine r_iad rfl rfl (by omega) (by assumption) (by first | rfl | assumption | omega | (simp; done) | (simp; omega)) ?_
          | refine r_storeAll rfl rfl rfl rfl rfl rfl ?_
          | refine r_store rfl rfl rfl rfl (by decide) ?_
          | refine r_alloc rfl ?_
          | refine r_box rfl rfl rfl ?_
          | refine r_bsl rfl rfl rfl rfl rfl rfl ?_
          | refine r_mkmap rfl ?_
          | refine r_mv_nil rfl ?_
          | refine r_mv_own rfl rfl ?_
          | refine r_mv_mp rfl rfl ?_
          | refine r_mv_row rfl rfl (by first | rfl | assumption | omega | (simp; done) | (simp; omega)) ?_
          | refine r_mv_rp rfl rfl (by first | rfl | assumption | omega | (simp; done) | (simp; omega)) ?_
          | refine r_fad_rp rfl rfl (by first | rfl | assumption | omega | (simp; done) | (simp; omega)) ?_
          | refine r_iad_row rfl rfl (by first | rfl | assumption | omega | (simp; done) | (simp; omega)) rfl (by first | rfl | assumption | omega | (simp; done) | (simp; omega)) ?_
          | refine r_skip0 rfl (by first | with_reducible rfl | assumption | decide) ?_
          | refine r_skipU0 rfl ?_
          | refine r_semF rfl rfl rfl rfl ?_
          | refine r_load_rp rfl rfl (by assumption) rfl ?_
          | refine run_seq ?_
          | refine run_reg ?_
          | refine run_regd rfl ?_
          | refine run_block ?_
          | refine run_skip ?_
          | refine run_exit ?_
          | refine run_ret ?_
          | refine fin_seq ?_
          | refine fin_seq_e ?_
          | refine fin_seq_r ?_
          | refine fin_blk ?_
          | refine fin_blk_e ?_
          | refine fin_blk_x rfl ?_
          | refine fin_blk_r ?_
          | refine fin_loop_e ?_
          | refine fin_loop_r ?_
          | refine run_cond_t rfl (by first | with_reducible rfl | assumption | decide) ?_
          | refine run_cond_f rfl (by first | with_reducible rfl | assumption | decide) ?_)
        refine run_cond rfl (fun h5 => ?_) (fun h5 => ?_)
        · repeat (first
            | refine r_call rfl (awake9) ?_
            | refine r_mv_p rfl ?_
            | refine r_do rfl (by first | with_reducible rfl | assumption | decide) ?_
            | refine r_skip rfl (by first | with_reducible rfl | assumption | decide) ?_
            | refine r_skipU rfl ?_
            | refine r_fad rfl rfl ?_
            | refine r_add rfl rfl (by omega) ?_
            | refine r_sub rfl rfl (by omega) ?_
            | refine r_loadAll rfl (by first | rfl | assumption) ?_
            | refine r_loadAllB rfl rfl (by first | rfl | assumption) ?_
            | refine r_pick_t rfl (by first | with_reducible rfl | assumption | decide) rfl rfl ?_
            | refine r_pick_f rfl (by first | with_reducible rfl | assumption | decide) rfl rfl ?_
            | refine r_sem rfl rfl rfl rfl ?_
            | refine r_nil ?_
            | refine r_iad rfl rfl (by omega) (by assumption) (by first | rfl | assumption | omega | (simp; done) | (simp; omega)) ?_
            | refine r_storeAll rfl rfl rfl rfl rfl rfl ?_
            | refine r_store rfl rfl rfl rfl (by decide) ?_
            | refine r_alloc rfl ?_
            | refine r_box rfl rfl rfl ?_
            | refine r_bsl rfl rfl rfl rfl rfl rfl ?_
            | refine r_mkmap rfl ?_
            | refine r_mv_nil rfl ?_
            | refine r_mv_own rfl rfl ?_
            | refine r_mv_mp rfl rfl ?_
            | refine r_mv_row rfl rfl (by first | rfl | assumption | omega | (simp; done) | (simp; omega)) ?_
            | refine r_mv_rp rfl rfl (by first | rfl | assumption | omega | (simp; done) | (simp; omega)) ?_
            | refine r_fad_rp rfl rfl (by first | rfl | assumption | omega | (simp; done) | (simp; omega)) ?_
            | refine r_iad_row rfl rfl (by first | rfl | assumption | omega | (simp; done) | (simp; omega)) rfl (by first | rfl | assumption | omega | (simp; done) | (simp; omega)) ?_
            | refine r_skip0 rfl (by first | with_reducible rfl | assumption | decide) ?_
            | refine r_skipU0 rfl ?_
            | refine r_semF rfl rfl rfl rfl ?_
            | refine r_load_rp rfl rfl (by assumption) rfl ?_
            | refine run_seq ?_
            | refine run_reg ?_
            | refine run_regd rfl ?_
            | refine run_block ?_
            | refine run_skip ?_
            | refine run_exit ?_
            | refine run_ret ?_
            | refine fin_seq ?_
            | refine fin_seq_e ?_
            | refine fin_seq_r ?_
            | refine fin_blk ?_
            | refine fin_blk_e ?_
            | refine fin_blk_x rfl ?_
            | refine fin_blk_r ?_
            | refine fin_loop_e ?_
            | refine fin_loop_r ?_
            | refine run_cond_t rfl (by first | with_reducible rfl | assumption | decide) ?_
            | refine run_cond_f rfl (by first | with_reducible rfl | assumption | decide) ?_)
          exact fin_out rfl rfl
        · repeat (first
            | refine r_mv_p rfl ?_
            | refine r_do rfl (by first | with_reducible rfl | assumption | decide) ?_
            | refine r_skip rfl (by first | with_reducible rfl | assumption | decide) ?_
            | refine r_skipU rfl ?_
            | refine r_fad rfl rfl ?_
            | refine r_add rfl rfl (by omega) ?_
            | refine r_sub rfl rfl (by omega) ?_
            | refine r_loadAll rfl (by first | rfl | assumption) ?_
            | refine r_loadAllB rfl rfl (by first | rfl | assumption) ?_
            | refine r_pick_t rfl (by first | with_reducible rfl | assumption | decide) rfl rfl ?_
            | refine r_pick_f rfl (by first | with_reducible rfl | assumption | decide) rfl rfl ?_
            | refine r_sem rfl rfl rfl rfl ?_
            | refine r_nil ?_
            | refine r_iad rfl rfl (by omega) (by assumption) (by first | rfl | assumption | omega | (simp; done) | (simp; omega)) ?_
            | refine r_storeAll rfl rfl rfl rfl rfl rfl ?_
            | refine r_store rfl rfl rfl rfl (by decide) ?_
            | refine r_alloc rfl ?_
            | refine r_box rfl rfl rfl ?_
            | refine r_bsl rfl rfl rfl rfl rfl rfl ?_
            | refine r_mkmap rfl ?_
            | refine r_mv_nil rfl ?_
            | refine r_mv_own rfl rfl ?_
            | refine r_mv_mp rfl rfl ?_
            | refine r_mv_row rfl rfl (by first | rfl | assumption | omega | (simp; done) | (simp; omega)) ?_
            | refine r_mv_rp rfl rfl (by first | rfl | assumption | omega | (simp; done) | (simp; omega)) ?_
            | refine r_fad_rp rfl rfl (by first | rfl | assumption | omega | (simp; done) | (simp; omega)) ?_
            | refine r_iad_row rfl rfl (by first | rfl | assumption | omega | (simp; done) | (simp; omega)) rfl (by first | rfl | assumption | omega | (simp; done) | (simp; omega)) ?_
            | refine r_skip0 rfl (by first | with_reducible rfl | assumption | decide) ?_
            | refine r_skipU0 rfl ?_
            | refine r_semF rfl rfl rfl rfl ?_
            | refine r_load_rp rfl rfl (by assumption) rfl ?_
            | refine run_seq ?_
            | refine run_reg ?_
            | refine run_regd rfl ?_
            | refine run_block ?_
            | refine run_skip ?_
            | refine run_exit ?_
            | refine run_ret ?_
            | refine fin_seq ?_
            | refine fin_seq_e ?_
            | refine fin_seq_r ?_
            | refine fin_blk ?_
            | refine fin_blk_e ?_
            | refine fin_blk_x rfl ?_
            | refine fin_blk_r ?_
            | refine fin_loop_e ?_
            | refine fin_loop_r ?_
            | refine run_cond_t rfl (by first | with_reducible rfl | assumption | decide) ?_
            | refine run_cond_f rfl (by first | with_reducible rfl | assumption | decide) ?_)
          refine fin_loop (run_weak (weak_S ?_ ?_) (ihk (k + 1) hlk (by omega)))
          · exact ⟨rfl, rfl, rfl, rfl, rfl, rfl, trivial⟩
          · exact ⟨rfl, trivial⟩
      · clear ihk
        repeat (first
          | refine r_mv_p rfl ?_
          | refine r_do rfl (by first | with_reducible rfl | assumption | decide) ?_
          | refine r_skip rfl (by first | with_reducible rfl | assumption | decide) ?_
          | refine r_skipU rfl ?_
          | refine r_fad rfl rfl ?_
          | refine r_add rfl rfl (by omega) ?_
          | refine r_sub rfl rfl (by omega) ?_
          | refine r_loadAll rfl (by first | rfl | assumption) ?_
          | refine r_loadAllB rfl rfl (by first | rfl | assumption) ?_
          | refine r_pick_t rfl (by first | with_reducible rfl | assumption | decide) rfl rfl ?_
          | refine r_pick_f rfl (by first | with_reducible rfl | assumption | decide) rfl rfl ?_
          | refine r_sem rfl rfl rfl rfl ?_
          | refine r_nil ?_
          | refine r_iad rfl rfl (by omega) (by assumption) (by first | rfl | assumption | omega | (simp; done) | (simp; omega)) ?_
          | refine r_storeAll rfl rfl rfl rfl rfl rfl ?_
          | refine r_store rfl rfl rfl rfl (by decide) ?_
          | refine r_alloc rfl ?_
          | refine r_box rfl rfl rfl ?_
          | refine r_bsl rfl rfl rfl rfl rfl rfl ?_
          | refine r_mkmap rfl ?_
          | refine r_mv_nil rfl ?_
          | refine r_mv_own rfl rfl ?_
          | refine r_mv_mp rfl rfl ?_
          | refine r_mv_row rfl rfl (by first | rfl | assumption | omega | (simp; done) | (simp; omega)) ?_
          | refine r_mv_rp rfl rfl (by first | rfl | assumption | omega | (simp; done) | (simp; omega)) ?_
          | refine r_fad_rp rfl rfl (by first | rfl | assumption | omega | (simp; done) | (simp; omega)) ?_
          | refine r_iad_row rfl rfl (by first | rfl | assumption | omega | (simp; done) | (simp; omega)) rfl (by first | rfl | assumption | omega | (simp; done) | (simp; omega)) ?_
          | refine r_skip0 rfl (by first | with_reducible rfl | assumption | decide) ?_
          | refine r_skipU0 rfl ?_
          | refine r_semF rfl rfl rfl rfl ?_
          | refine r_load_rp rfl rfl (by assumption) rfl ?_
          | refine run_seq ?_
          | refine run_reg ?_
          | refine run_regd rfl ?_
          | refine run_block ?_
          | refine run_skip ?_
          | refine run_exit ?_
          | refine run_ret ?_
          | refine fin_seq ?_
          | refine fin_seq_e ?_
          | refine fin_seq_r ?_
          | refine fin_blk ?_
          | refine fin_blk_e ?_
          | refine fin_blk_x rfl ?_
          | refine fin_blk_r ?_
          | refine fin_loop_e ?_
          | refine fin_loop_r ?_
          | refine run_cond_t rfl (by first | with_reducible rfl | assumption | decide) ?_
          | refine run_cond_f rfl (by first | with_reducible rfl | assumption | decide) ?_)
        refine run_reg_join (S [(1, .p (.v (.string i0))), (2, .p (.v (.string c))), (3, .own 3 0), (7, .p (.v (.int .i64 e))), (8, .p (.v (.int .i64 (i : Nat)))), (59, .p (.v (.bool (h.items.xs[i].serial && decide (e = 0)))))] [(3, some (.box h.enc false))]) ?_ ?_
        · repeat' (first
            | refine r_mv_p rfl ?_
            | refine r_do rfl (by first | with_reducible rfl | assumption | decide) ?_
            | refine r_skip rfl (by first | with_reducible rfl | assumption | decide) ?_
            | refine r_skipU rfl ?_
            | refine r_fad rfl rfl ?_
            | refine r_add rfl rfl (by omega) ?_
            | refine r_sub rfl rfl (by omega) ?_
            | refine r_loadAll rfl (by first | rfl | assumption) ?_
            | refine r_loadAllB rfl rfl (by first | rfl | assumption) ?_
            | refine r_pick_t rfl (by first | with_reducible rfl | assumption | decide) rfl rfl ?_
            | refine r_pick_f rfl (by first | with_reducible rfl | assumption | decide) rfl rfl ?_
            | refine r_sem rfl rfl rfl rfl ?_
            | refine r_nil ?_
            | refine r_iad rfl rfl (by omega) (by assumption) (by first | rfl | assumption | omega | (simp; done) | (simp; omega)) ?_
            | refine r_storeAll rfl rfl rfl rfl rfl rfl ?_
            | refine r_store rfl rfl rfl rfl (by decide) ?_
            | refine r_alloc rfl ?_
            | refine r_box rfl rfl rfl ?_
            | refine r_bsl rfl rfl rfl rfl rfl rfl ?_
            | refine r_mkmap rfl ?_
            | refine r_mv_nil rfl ?_
            | refine r_mv_own rfl rfl ?_
            | refine r_mv_mp rfl rfl ?_
            | refine r_mv_row rfl rfl (by first | rfl | assumption | omega | (simp; done) | (simp; omega)) ?_
            | refine r_mv_rp rfl rfl (by first | rfl | assumption | omega | (simp; done) | (simp; omega)) ?_
            | refine r_fad_rp rfl rfl (by first | rfl | assumption | omega | (simp; done) | (simp; omega)) ?_
            | refine r_iad_row rfl rfl (by first | rfl | assumption | omega | (simp; done) | (simp; omega)) rfl (by first | rfl | assumption | omega | (simp; done) | (simp; omega)) ?_
            | refine r_skip0 rfl (by first | with_reducible rfl | assumption | decide) ?_
            | refine r_skipU0 rfl ?_
            | refine r_semF rfl rfl rfl rfl ?_
            | refine r_load_rp rfl rfl (by assumption) rfl ?_
            | refine run_seq ?_
            | refine run_reg ?_
            | refine run_regd rfl ?_
            | refine run_block ?_
            | refine run_skip ?_
            | refine run_exit ?_
            | refine run_ret ?_
            | refine fin_seq ?_
            | refine fin_seq_e ?_
            | refine fin_seq_r ?_
            | refine fin_blk ?_
            | refine fin_blk_e ?_
            | refine fin_blk_x rfl ?_
            | refine fin_blk_r ?_
            | refine fin_loop_e ?_
            | refine fin_loop_r ?_
            | refine run_cond_t rfl (by first | with_reducible rfl | assumption | decide) ?_
            | refine run_cond_f rfl (by first | with_reducible rfl | assumption | decide) ?_
            | refine r_split rfl (fun hs => ?_) (fun hs => ?_)
            | refine run_cond rfl (fun hs => ?_) (fun hs => ?_))
          all_goals refine ⟨weak_S ?_ ?_⟩
          all_goals first | exact ⟨rfl, trivial⟩ | exact ⟨rfl, rfl, rfl, rfl, rfl, tb rfl (by simp [hs]), trivial⟩
        repeat (first
          | refine r_mv_p rfl ?_
          | refine r_do rfl (by first | with_reducible rfl | assumption | decide) ?_
          | refine r_skip rfl (by first | with_reducible rfl | assumption | decide) ?_
          | refine r_skipU rfl ?_
          | refine r_fad rfl rfl ?_
          | refine r_add rfl rfl (by omega) ?_
          | refine r_sub rfl rfl (by omega) ?_
          | refine r_loadAll rfl (by first | rfl | assumption) ?_
          | refine r_loadAllB rfl rfl (by first | rfl | assumption) ?_
          | refine r_pick_t rfl (by first | with_reducible rfl | assumption | decide) rfl rfl ?_
          | refine r_pick_f rfl (by first | with_reducible rfl | assumption | decide) rfl rfl ?_
          | refine r_sem rfl rfl rfl rfl ?_
          | refine r_nil ?_
          | refine r_iad rfl rfl (by omega) (by assumption) (by first | rfl | assumption | omega | (simp; done) | (simp; omega)) ?_
          | refine r_storeAll rfl rfl rfl rfl rfl rfl ?_
          | refine r_store rfl rfl rfl rfl (by decide) ?_
          | refine r_alloc rfl ?_
          | refine r_box rfl rfl rfl ?_
          | refine r_bsl rfl rfl rfl rfl rfl rfl ?_
          | refine r_mkmap rfl ?_
          | refine r_mv_nil rfl ?_
          | refine r_mv_own rfl rfl ?_
          | refine r_mv_mp rfl rfl ?_
          | refine r_mv_row rfl rfl (by first | rfl | assumption | omega | (simp; done) | (simp; omega)) ?_
          | refine r_mv_rp rfl rfl (by first | rfl | assumption | omega | (simp; done) | (simp; omega)) ?_
          | refine r_fad_rp rfl rfl (by first | rfl | assumption | omega | (simp; done) | (simp; omega)) ?_
          | refine r_iad_row rfl rfl (by first | rfl | assumption | omega | (simp; done) | (simp; omega)) rfl (by first | rfl | assumption | omega | (simp; done) | (simp; omega)) ?_
          | refine r_skip0 rfl (by first | with_reducible rfl | assumption | decide) ?_
          | refine r_skipU0 rfl ?_
          | refine r_semF rfl rfl rfl rfl ?_
          | refine r_load_rp rfl rfl (by assumption) rfl ?_
          | refine run_seq ?_
          | refine run_reg ?_
          | refine run_regd rfl ?_
          | refine run_block ?_
          | refine run_skip ?_
          | refine run_exit ?_
          | refine run_ret ?_
          | refine fin_seq ?_
          | refine fin_seq_e ?_
          | refine fin_seq_r ?_
          | refine fin_blk ?_
          | refine fin_blk_e ?_
          | refine fin_blk_x rfl ?_
          | refine fin_blk_r ?_
          | refine fin_loop_e ?_
          | refine fin_loop_r ?_
          | refine run_cond_t rfl (by first | with_reducible rfl | assumption | decide) ?_
          | refine run_cond_f rfl (by first | with_reducible rfl | assumption | decide) ?_)
        refine run_cond rfl (fun h5 => ?_) (fun h5 => ?_)
        · have h5' : h.items.xs[i].serial = true ∧ e = 0 := by simpa using h5
          have hsum := fits_sum hit h5'.1 (he.trans h5'.2)
          repeat (first
            | refine r_mv_p rfl ?_
            | refine r_do rfl (by first | with_reducible rfl | assumption | decide) ?_
            | refine r_skip rfl (by first | with_reducible rfl | assumption | decide) ?_
            | refine r_skipU rfl ?_
            | refine r_fad rfl rfl ?_
            | refine r_add rfl rfl (by omega) ?_
            | refine r_sub rfl rfl (by omega) ?_
            | refine r_loadAll rfl (by first | rfl | assumption) ?_
            | refine r_loadAllB rfl rfl (by first | rfl | assumption) ?_
            | refine r_pick_t rfl (by first | with_reducible rfl | assumption | decide) rfl rfl ?_
            | refine r_pick_f rfl (by first | with_reducible rfl | assumption | decide) rfl rfl ?_
            | refine r_sem rfl rfl rfl rfl ?_
            | refine r_nil ?_
            | refine r_iad rfl rfl (by omega) (by assumption) (by first | rfl | assumption | omega | (simp; done) | (simp; omega)) ?_
            | refine r_storeAll rfl rfl rfl rfl rfl rfl ?_
            | refine r_store rfl rfl rfl rfl (by decide) ?_
            | refine r_alloc rfl ?_
            | refine r_box rfl rfl rfl ?_
            | refine r_bsl rfl rfl rfl rfl rfl rfl ?_
            | refine r_mkmap rfl ?_
            | refine r_mv_nil rfl ?_
            | refine r_mv_own rfl rfl ?_
            | refine r_mv_mp rfl rfl ?_
            | refine r_mv_row rfl rfl (by first | rfl | assumption | omega | (simp; done) | (simp; omega)) ?_
            | refine r_mv_rp rfl rfl (by first | rfl | assumption | omega | (simp; done) | (simp; omega)) ?_
            | refine r_fad_rp rfl rfl (by first | rfl | assumption | omega | (simp; done) | (simp; omega)) ?_
            | refine r_iad_row rfl rfl (by first | rfl | assumption | omega | (simp; done) | (simp; omega)) rfl (by first | rfl | assumption | omega | (simp; done) | (simp; omega)) ?_
            | refine r_skip0 rfl (by first | with_reducible rfl | assumption | decide) ?_
            | refine r_skipU0 rfl ?_
            | refine r_semF rfl rfl rfl rfl ?_
            | refine r_load_rp rfl rfl (by assumption) rfl ?_
            | refine run_seq ?_
            | refine run_reg ?_
            | refine run_regd rfl ?_
            | refine run_block ?_
            | refine run_skip ?_
            | refine run_exit ?_
            | refine run_ret ?_
            | refine fin_seq ?_
            | refine fin_seq_e ?_
            | refine fin_seq_r ?_
            | refine fin_blk ?_
            | refine fin_blk_e ?_
            | refine fin_blk_x rfl ?_
            | refine fin_blk_r ?_
            | refine fin_loop_e ?_
            | refine fin_loop_r ?_
            | refine run_cond_t rfl (by first | with_reducible rfl | assumption | decide) ?_
            | refine run_cond_f rfl (by first | with_reducible rfl | assumption | decide) ?_)
          refine run_weak (weak_S ?_ ?_) (run_inv (fun k : Nat × Int => S [(1, .p (.v (.string i0))), (2, .p (.v (.string c))), (3, .own 3 0), (10, .p (.v (.int .i64 k.2))), (11, .p (.v (.int .i64 (k.1 : Nat))))] [(3, some (.box h.enc false))])
            (fun k => k.1 ≤ h.quants.xs.length ∧ h.quants.xs.foldl (addQ i0 c) 2 = (h.quants.xs.drop k.1).foldl (addQ i0 c) k.2) (fun k => h.quants.xs.length - k.1) ?_ (0, 2) ⟨Nat.zero_le _, rfl⟩)
          · exact ⟨rfl, rfl, rfl, rfl, rfl, trivial⟩
          · exact ⟨rfl, trivial⟩
          rintro ⟨q, acc⟩ hq ihq
          obtain ⟨hq, hqs⟩ := hq
          repeat (first
            | refine r_mv_p rfl ?_
            | refine r_do rfl (by first | with_reducible rfl | assumption | decide) ?_
            | refine r_skip rfl (by first | with_reducible rfl | assumption | decide) ?_
            | refine r_skipU rfl ?_
            | refine r_fad rfl rfl ?_
            | refine r_add rfl rfl (by omega) ?_
            | refine r_sub rfl rfl (by omega) ?_
            | refine r_loadAll rfl (by first | rfl | assumption) ?_
            | refine r_loadAllB rfl rfl (by first | rfl | assumption) ?_
            | refine r_pick_t rfl (by first | with_reducible rfl | assumption | decide) rfl rfl ?_
            | refine r_pick_f rfl (by first | with_reducible rfl | assumption | decide) rfl rfl ?_
            | refine r_sem rfl rfl rfl rfl ?_
            | refine r_nil ?_
            | refine r_iad rfl rfl (by omega) (by assumption) (by first | rfl | assumption | omega | (simp; done) | (simp; omega)) ?_
            | refine r_storeAll rfl rfl rfl rfl rfl rfl ?_
            | refine r_store rfl rfl rfl rfl (by decide) ?_
            | refine r_alloc rfl ?_
            | refine r_box rfl rfl rfl ?_
            | refine r_bsl rfl rfl rfl rfl rfl rfl ?_
            | refine r_mkmap rfl ?_
            | refine r_mv_nil rfl ?_
            | refine r_mv_own rfl rfl ?_
            | refine r_mv_mp rfl rfl ?_
            | refine r_mv_row rfl rfl (by first | rfl | assumption | omega | (simp; done) | (simp; omega)) ?_
            | refine r_mv_rp rfl rfl (by first | rfl | assumption | omega | (simp; done) | (simp; omega)) ?_
            | refine r_fad_rp rfl rfl (by first | rfl | assumption | omega | (simp; done) | (simp; omega)) ?_
            | refine r_iad_row rfl rfl (by first | rfl | assumption | omega | (simp; done) | (simp; omega)) rfl (by first | rfl | assumption | omega | (simp; done) | (simp; omega)) ?_
            | refine r_skip0 rfl (by first | with_reducible rfl | assumption | decide) ?_
            | refine r_skipU0 rfl ?_
            | refine r_semF rfl rfl rfl rfl ?_
            | refine r_load_rp rfl rfl (by assumption) rfl ?_
            | refine run_seq ?_
            | refine run_reg ?_
            | refine run_regd rfl ?_
            | refine run_block ?_
            | refine run_skip ?_
            | refine run_exit ?_
            | refine run_ret ?_
            | refine fin_seq ?_
            | refine fin_seq_e ?_
            | refine fin_seq_r ?_
            | refine fin_blk ?_
            | refine fin_blk_e ?_
            | refine fin_blk_x rfl ?_
            | refine fin_blk_r ?_
            | refine fin_loop_e ?_
            | refine fin_loop_r ?_
            | refine run_cond_t rfl (by first | with_reducible rfl | assumption | decide) ?_
            | refine run_cond_f rfl (by first | with_reducible rfl | assumption | decide) ?_)
          refine run_cond rfl (fun h6 => ?_) (fun h6 => ?_)
          · have hlq : q < h.quants.xs.length := by simpa using h6
            have hxq : (h.quants.xs.map Quant.enc)[q]? = some h.quants.xs[q].enc := by simp [hlq]
            have hdq : h.quants.xs.drop q = h.quants.xs[q] :: h.quants.xs.drop (q + 1) := List.drop_eq_getElem_cons hlq
            have next : ∀ n, addQ i0 c acc h.quants.xs[q] = n → h.quants.xs.foldl (addQ i0 c) 2 = (h.quants.xs.drop (q + 1)).foldl (addQ i0 c) n := fun n hn => by
              rw [hqs, hdq, List.foldl_cons, hn]
            repeat' (first
              | refine r_mv_p rfl ?_
              | refine r_do rfl (by first | with_reducible rfl | assumption | decide) ?_
              | refine r_skip rfl (by first | with_reducible rfl | assumption | decide) ?_
              | refine r_skipU rfl ?_
              | refine r_fad rfl rfl ?_
              | refine r_add rfl rfl (by omega) ?_
              | refine r_sub rfl rfl (by omega) ?_
              | refine r_loadAll rfl (by first | rfl | assumption) ?_
              | refine r_loadAllB rfl rfl (by first | rfl | assumption) ?_
              | refine r_pick_t rfl (by first | with_reducible rfl | assumption | decide) rfl rfl ?_
              | refine r_pick_f rfl (by first | with_reducible rfl | assumption | decide) rfl rfl ?_
              | refine r_sem rfl rfl rfl rfl ?_
              | refine r_nil ?_
              | refine r_iad rfl rfl (by omega) (by assumption) (by first | rfl | assumption | omega | (simp; done) | (simp; omega)) ?_
              | refine r_storeAll rfl rfl rfl rfl rfl rfl ?_
              | refine r_store rfl rfl rfl rfl (by decide) ?_
              | refine r_alloc rfl ?_
              | refine r_box rfl rfl rfl ?_
              | refine r_bsl rfl rfl rfl rfl rfl rfl ?_
              | refine r_mkmap rfl ?_
              | refine r_mv_nil rfl ?_
              | refine r_mv_own rfl rfl ?_
              | refine r_mv_mp rfl rfl ?_
              | refine r_mv_row rfl rfl (by first | rfl | assumption | omega | (simp; done) | (simp; omega)) ?_
              | refine r_mv_rp rfl rfl (by first | rfl | assumption | omega | (simp; done) | (simp; omega)) ?_
              | refine r_fad_rp rfl rfl (by first | rfl | assumption | omega | (simp; done) | (simp; omega)) ?_
              | refine r_iad_row rfl rfl (by first | rfl | assumption | omega | (simp; done) | (simp; omega)) rfl (by first | rfl | assumption | omega | (simp; done) | (simp; omega)) ?_
              | refine r_skip0 rfl (by first | with_reducible rfl | assumption | decide) ?_
              | refine r_skipU0 rfl ?_
              | refine r_semF rfl rfl rfl rfl ?_
              | refine r_load_rp rfl rfl (by assumption) rfl ?_
              | refine run_seq ?_
              | refine run_reg ?_
              | refine run_regd rfl ?_
              | refine run_block ?_
              | refine run_skip ?_
              | refine run_exit ?_
              | refine run_ret ?_
              | refine fin_seq ?_
              | refine fin_seq_e ?_
              | refine fin_seq_r ?_
              | refine fin_blk ?_
              | refine fin_blk_e ?_
              | refine fin_blk_x rfl ?_
              | refine fin_blk_r ?_
              | refine fin_loop_e ?_
              | refine fin_loop_r ?_
              | refine run_cond_t rfl (by first | with_reducible rfl | assumption | decide) ?_
              | refine run_cond_f rfl (by first | with_reducible rfl | assumption | decide) ?_
              | refine r_split rfl (fun hs => ?_) (fun hs => ?_)
              | refine run_cond rfl (fun hs => ?_) (fun hs => ?_))
            all_goals refine fin_loop (run_weak (weak_S ?_ ?_) (ihq (q + 1, addQ i0 c acc h.quants.xs[q]) ⟨hlq, next _ rfl⟩ (by simp only; omega)))
            all_goals first | exact ⟨rfl, trivial⟩ | exact ⟨rfl, rfl, rfl, ti rfl (by clear ihq next hqs hfst; simp_all [addQ]), rfl, trivial⟩
          · have hqe : q = h.quants.xs.length := by simp at h6; omega
            have hacc : decide (acc < 2) = true := by
              have : h.quants.xs.foldl (addQ i0 c) 2 = acc := by rw [hqs]; simp [hqe]
              rw [this] at hsum
              simp; omega
            repeat (first
              | refine r_call rfl (awake9) ?_
              | refine r_mv_p rfl ?_
              | refine r_do rfl (by first | with_reducible rfl | assumption | decide) ?_
              | refine r_skip rfl (by first | with_reducible rfl | assumption | decide) ?_
              | refine r_skipU rfl ?_
              | refine r_fad rfl rfl ?_
              | refine r_add rfl rfl (by omega) ?_
              | refine r_sub rfl rfl (by omega) ?_
              | refine r_loadAll rfl (by first | rfl | assumption) ?_
              | refine r_loadAllB rfl rfl (by first | rfl | assumption) ?_
              | refine r_pick_t rfl (by first | with_reducible rfl | assumption | decide) rfl rfl ?_
              | refine r_pick_f rfl (by first | with_reducible rfl | assumption | decide) rfl rfl ?_
              | refine r_sem rfl rfl rfl rfl ?_
              | refine r_nil ?_
              | refine r_iad rfl rfl (by omega) (by assumption) (by first | rfl | assumption | omega | (simp; done) | (simp; omega)) ?_
              | refine r_storeAll rfl rfl rfl rfl rfl rfl ?_
              | refine r_store rfl rfl rfl rfl (by decide) ?_
              | refine r_alloc rfl ?_
              | refine r_box rfl rfl rfl ?_
              | refine r_bsl rfl rfl rfl rfl rfl rfl ?_
              | refine r_mkmap rfl ?_
              | refine r_mv_nil rfl ?_
              | refine r_mv_own rfl rfl ?_
              | refine r_mv_mp rfl rfl ?_
              | refine r_mv_row rfl rfl (by first | rfl | assumption | omega | (simp; done) | (simp; omega)) ?_
              | refine r_mv_rp rfl rfl (by first | rfl | assumption | omega | (simp; done) | (simp; omega)) ?_
              | refine r_fad_rp rfl rfl (by first | rfl | assumption | omega | (simp; done) | (simp; omega)) ?_
              | refine r_iad_row rfl rfl (by first | rfl | assumption | omega | (simp; done) | (simp; omega)) rfl (by first | rfl | assumption | omega | (simp; done) | (simp; omega)) ?_
              | refine r_skip0 rfl (by first | with_reducible rfl | assumption | decide) ?_
              | refine r_skipU0 rfl ?_
              | refine r_semF rfl rfl rfl rfl ?_
              | refine r_load_rp rfl rfl (by assumption) rfl ?_
              | refine run_seq ?_
              | refine run_reg ?_
              | refine run_regd rfl ?_
              | refine run_block ?_
              | refine run_skip ?_
              | refine run_exit ?_
              | refine run_ret ?_
              | refine fin_seq ?_
              | refine fin_seq_e ?_
              | refine fin_seq_r ?_
              | refine fin_blk ?_
              | refine fin_blk_e ?_
              | refine fin_blk_x rfl ?_
              | refine fin_blk_r ?_
              | refine fin_loop_e ?_
              | refine fin_loop_r ?_
              | refine run_cond_t rfl (by first | with_reducible rfl | assumption | decide) ?_
              | refine run_cond_f rfl (by first | with_reducible rfl | assumption | decide) ?_)
            exact fin_out rfl rfl
        · have hcase := fits_some (c := c) (q := 2) hit
          rw [he] at hcase
          repeat' (first
            | refine r_call rfl (awake9) ?_
            | refine r_mv_p rfl ?_
            | refine r_do rfl (by first | with_reducible rfl | assumption | decide) ?_
            | refine r_skip rfl (by first | with_reducible rfl | assumption | decide) ?_
            | refine r_skipU rfl ?_
            | refine r_fad rfl rfl ?_
            | refine r_add rfl rfl (by omega) ?_
            | refine r_sub rfl rfl (by omega) ?_
            | refine r_loadAll rfl (by first | rfl | assumption) ?_
            | refine r_loadAllB rfl rfl (by first | rfl | assumption) ?_
            | refine r_pick_t rfl (by first | with_reducible rfl | assumption | decide) rfl rfl ?_
            | refine r_pick_f rfl (by first | with_reducible rfl | assumption | decide) rfl rfl ?_
            | refine r_sem rfl rfl rfl rfl ?_
            | refine r_nil ?_
            | refine r_iad rfl rfl (by omega) (by assumption) (by first | rfl | assumption | omega | (simp; done) | (simp; omega)) ?_
            | refine r_storeAll rfl rfl rfl rfl rfl rfl ?_
            | refine r_store rfl rfl rfl rfl (by decide) ?_
            | refine r_alloc rfl ?_
            | refine r_box rfl rfl rfl ?_
            | refine r_bsl rfl rfl rfl rfl rfl rfl ?_
            | refine r_mkmap rfl ?_
            | refine r_mv_nil rfl ?_
            | refine r_mv_own rfl rfl ?_
            | refine r_mv_mp rfl rfl ?_
            | refine r_mv_row rfl rfl (by first | rfl | assumption | omega | (simp; done) | (simp; omega)) ?_
            | refine r_mv_rp rfl rfl (by first | rfl | assumption | omega | (simp; done) | (simp; omega)) ?_
            | refine r_fad_rp rfl rfl (by first | rfl | assumption | omega | (simp; done) | (simp; omega)) ?_
            | refine r_iad_row rfl rfl (by first | rfl | assumption | omega | (simp; done) | (simp; omega)) rfl (by first | rfl | assumption | omega | (simp; done) | (simp; omega)) ?_
            | refine r_skip0 rfl (by first | with_reducible rfl | assumption | decide) ?_
            | refine r_skipU0 rfl ?_
            | refine r_semF rfl rfl rfl rfl ?_
            | refine r_load_rp rfl rfl (by assumption) rfl ?_
            | refine run_seq ?_
            | refine run_reg ?_
            | refine run_regd rfl ?_
            | refine run_block ?_
            | refine run_skip ?_
            | refine run_exit ?_
            | refine run_ret ?_
            | refine fin_seq ?_
            | refine fin_seq_e ?_
            | refine fin_seq_r ?_
            | refine fin_blk ?_
            | refine fin_blk_e ?_
            | refine fin_blk_x rfl ?_
            | refine fin_blk_r ?_
            | refine fin_loop_e ?_
            | refine fin_loop_r ?_
            | refine run_cond_t rfl (by first | with_reducible rfl | assumption | decide) ?_
            | refine run_cond_f rfl (by first | with_reducible rfl | assumption | decide) ?_
            | refine r_split rfl (fun hs => ?_) (fun hs => ?_)
            | refine run_cond rfl (fun hs => ?_) (fun hs => ?_))
          all_goals (refine fin_out rfl ?_)
          all_goals (clear hfst hit hbd hb hbq ; rcases hcase with hcase | hcase | ⟨hcase, hser⟩ <;> simp_all)
  · have hlt : i = h.items.xs.length := by simp at h2; omega
    have hn : h.item? i0 = none := by rw [hfst, hlt]; simp
    have h12 : decide (e = 12) = true := by rw [← he, fits_none hn]; rfl
    repeat (first
      | refine r_call rfl (awake9) ?_
      | refine r_mv_p rfl ?_
      | refine r_do rfl (by first | with_reducible rfl | assumption | decide) ?_
      | refine r_skip rfl (by first | with_reducible rfl | assumption | decide) ?_
      | refine r_skipU rfl ?_
      | refine r_fad rfl rfl ?_
      | refine r_add rfl rfl (by omega) ?_
      | refine r_sub rfl rfl (by omega) ?_
      | refine r_loadAll rfl (by first | rfl | assumption) ?_
      | refine r_loadAllB rfl rfl (by first | rfl | assumption) ?_
      | refine r_pick_t rfl (by first | with_reducible rfl | assumption | decide) rfl rfl ?_
      | refine r_pick_f rfl (by first | with_reducible rfl | assumption | decide) rfl rfl ?_
      | refine r_sem rfl rfl rfl rfl ?_
      | refine r_nil ?_
      | refine r_iad rfl rfl (by omega) (by assumption) (by first | rfl | assumption | omega | (simp; done) | (simp; omega)) ?_
      | refine r_storeAll rfl rfl rfl rfl rfl rfl ?_
      | refine r_store rfl rfl rfl rfl (by decide) ?_
      | refine r_alloc rfl ?_
      | refine r_box rfl rfl rfl ?_
      | refine r_bsl rfl rfl rfl rfl rfl rfl ?_
      | refine r_mkmap rfl ?_
      | refine r_mv_nil rfl ?_
      | refine r_mv_own rfl rfl ?_
      | refine r_mv_mp rfl rfl ?_
      | refine r_mv_row rfl rfl (by first | rfl | assumption | omega | (simp; done) | (simp; omega)) ?_
      | refine r_mv_rp rfl rfl (by first | rfl | assumption | omega | (simp; done) | (simp; omega)) ?_
      | refine r_fad_rp rfl rfl (by first | rfl | assumption | omega | (simp; done) | (simp; omega)) ?_
      | refine r_iad_row rfl rfl (by first | rfl | assumption | omega | (simp; done) | (simp; omega)) rfl (by first | rfl | assumption | omega | (simp; done) | (simp; omega)) ?_
      | refine r_skip0 rfl (by first | with_reducible rfl | assumption | decide) ?_
      | refine r_skipU0 rfl ?_
      | refine r_semF rfl rfl rfl rfl ?_
      | refine r_load_rp rfl rfl (by assumption) rfl ?_
      | refine run_seq ?_
      | refine run_reg ?_
      | refine run_regd rfl ?_
      | refine run_block ?_
      | refine run_skip ?_
      | refine run_exit ?_
      | refine run_ret ?_
      | refine fin_seq ?_
      | refine fin_seq_e ?_
      | refine fin_seq_r ?_
      | refine fin_blk ?_
      | refine fin_blk_e ?_
      | refine fin_blk_x rfl ?_
      | refine fin_blk_r ?_
      | refine fin_loop_e ?_
      | refine fin_loop_r ?_
      | refine run_cond_t rfl (by first | with_reducible rfl | assumption | decide) ?_
      | refine run_cond_f rfl (by first | with_reducible rfl | assumption | decide) ?_)
    exact fin_out rfl rfl
end Go.Fw
