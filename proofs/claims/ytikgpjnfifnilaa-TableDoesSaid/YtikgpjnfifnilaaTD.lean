/-
  Lists of pairs: what rises, what is kept; the document's put and drop.
-/
import Derived.Test.YtikgpjnfifnilaaTC
set_option linter.unusedVariables false
set_option linter.unusedSimpArgs false
set_option maxRecDepth 10000
namespace Go.Fw
open Go.Proofs
theorem rises19 (xs : List Pair) (sp : List (List PV)) : Ret Try.prog 19 [.agg [.clo 22 []], .sl (xs.map Pair.enc) sp] (.v (.bool (risesB xs))) := by
  refine ret19 rfl fun hbd => ?_
  have hb : xs.length ≤ 9223372036854775807 := by
    have := hbd (.sl (xs.map Pair.enc) sp) (by simp)
    simp only [PV.bd, PV.bd1, List.length_append, List.length_map, maxLen] at this
    omega
  unfold c19
  repeat (first
    | refine r_mv_p rfl ?_
    | refine r_do rfl (by first | with_reducible rfl | assumption | decide) ?_
    | refine r_skip rfl (by first | with_reducible rfl | assumption | decide) ?_
    | refine r_skipU rfl ?_
    | refine r_fad rfl rfl ?_
    | refine r_add rfl rfl (by omega) ?_
    | refine r_sub rfl rfl (by omega) ?_
    | refine r_loadAll rfl (by first | rfl | assumption) ?_
    | refine r_loadAllB rfl rfl (by first | rfl | assumption) ?_
    | refine r_pick_t rfl (by first | with_reducible rfl | assumption | decide) rfl rfl ?_
    | refine r_pick_f rfl (by first | with_reducible rfl | assumption | decide) rfl rfl ?_
    | refine r_sem rfl rfl rfl rfl ?_
    | refine r_nil ?_
    | refine r_iad rfl rfl (by omega) (by assumption) (by first | rfl | assumption | omega | (simp; done) | (simp; omega)) ?_
    | refine r_storeAll rfl rfl rfl rfl rfl rfl ?_
    | refine r_store rfl rfl rfl rfl (by decide) ?_
    | refine r_store rfl rfl rfl rfl (And.intro rfl (Nat.le_of_ble_eq_true rfl)) ?_
    | refine r_alloc rfl ?_
    | refine r_box rfl rfl rfl ?_
    | refine r_bsl rfl rfl rfl rfl rfl rfl ?_
    | refine r_bsl1 rfl (by assumption) rfl ?_
    | refine r_mkmap rfl ?_
    | refine r_mv_nil rfl ?_
    | refine r_mv_own rfl rfl ?_
    | refine r_mv_mp rfl rfl ?_
    | refine r_mv_row rfl rfl (by first | rfl | assumption | omega | (simp; done) | (simp; omega)) ?_
    | refine r_mv_rp rfl rfl (by first | rfl | assumption | omega | (simp; done) | (simp; omega)) ?_
    | refine r_fad_rp rfl rfl (by first | rfl | assumption | omega | (simp; done) | (simp; omega)) ?_
    | refine r_iad_row rfl rfl (by first | rfl | assumption | omega | (simp; done) | (simp; omega)) rfl (by first | rfl | assumption | omega | (simp; done) | (simp; omega)) ?_
    | refine r_skip0 rfl (by first | with_reducible rfl | assumption | decide) ?_
    | refine r_skipU0 rfl ?_
    | refine r_semF rfl rfl rfl rfl ?_
    | refine r_load_rp rfl rfl (by assumption) rfl ?_
    | refine r_len_row rfl rfl (by first | rfl | assumption | omega | (simp; done) | (simp; omega)) ?_
    | refine run_seq ?_
    | refine run_reg ?_
    | refine run_regd rfl ?_
    | refine run_regs rfl ?_
    | refine fin_far rfl ?_
    | refine run_block ?_
    | refine run_skip ?_
    | refine run_exit ?_
    | refine run_ret ?_
    | refine fin_seq ?_
    | refine fin_seq_e ?_
    | refine fin_seq_r ?_
    | refine fin_blk ?_
    | refine fin_blk_e ?_
    | refine fin_blk_x rfl ?_
    | refine fin_blk_r ?_
    | refine fin_loop_e ?_
    | refine fin_loop_r ?_
    | refine run_cond_t rfl (by first | with_reducible rfl | assumption | decide) ?_
    | refine run_cond_f rfl (by first | with_reducible rfl | assumption | decide) ?_)
  refine run_weak (weak_S ?_ ?_) (run_inv (fun i : Nat => S [(1, .p (.sl (xs.map Pair.enc) sp)), (2, .own 2 0), (4, .p (.v (.bool false))), (7, .p (.v (.int .i64 ((xs.map Pair.enc).length : Nat)))), (8, .p (.v (.int .i64 (i : Nat))))] [(2, some (.box [.clo 22 []] false))])
    (fun i => i ≤ xs.length ∧ ∀ j, j + 1 < i → ∀ a b, xs[j]? = some a → xs[j + 1]? = some b → slt a.name b.name = true) (fun i => xs.length + 1 - i) ?_ 0 ⟨by omega, fun j hj => by omega⟩)
  · exact ⟨rfl, rfl, rfl, rfl, rfl, trivial⟩
  · exact ⟨rfl, trivial⟩
  intro i hi ih
  obtain ⟨hi, hsame⟩ := hi
  repeat (first
    | refine r_mv_p rfl ?_
    | refine r_do rfl (by first | with_reducible rfl | assumption | decide) ?_
    | refine r_skip rfl (by first | with_reducible rfl | assumption | decide) ?_
    | refine r_skipU rfl ?_
    | refine r_fad rfl rfl ?_
    | refine r_add rfl rfl (by omega) ?_
    | refine r_sub rfl rfl (by omega) ?_
    | refine r_loadAll rfl (by first | rfl | assumption) ?_
    | refine r_loadAllB rfl rfl (by first | rfl | assumption) ?_
    | refine r_pick_t rfl (by first | with_reducible rfl | assumption | decide) rfl rfl ?_
    | refine r_pick_f rfl (by first | with_reducible rfl | assumption | decide) rfl rfl ?_
    | refine r_sem rfl rfl rfl rfl ?_
    | refine r_nil ?_
    | refine r_iad rfl rfl (by omega) (by assumption) (by first | rfl | assumption | omega | (simp; done) | (simp; omega)) ?_
    | refine r_storeAll rfl rfl rfl rfl rfl rfl ?_
    | refine r_store rfl rfl rfl rfl (by decide) ?_
    | refine r_store rfl rfl rfl rfl (And.intro rfl (Nat.le_of_ble_eq_true rfl)) ?_
    | refine r_alloc rfl ?_
    | refine r_box rfl rfl rfl ?_
    | refine r_bsl rfl rfl rfl rfl rfl rfl ?_
    | refine r_bsl1 rfl (by assumption) rfl ?_
    | refine r_mkmap rfl ?_
    | refine r_mv_nil rfl ?_
    | refine r_mv_own rfl rfl ?_
    | refine r_mv_mp rfl rfl ?_
    | refine r_mv_row rfl rfl (by first | rfl | assumption | omega | (simp; done) | (simp; omega)) ?_
    | refine r_mv_rp rfl rfl (by first | rfl | assumption | omega | (simp; done) | (simp; omega)) ?_
    | refine r_fad_rp rfl rfl (by first | rfl | assumption | omega | (simp; done) | (simp; omega)) ?_
    | refine r_iad_row rfl rfl (by first | rfl | assumption | omega | (simp; done) | (simp; omega)) rfl (by first | rfl | assumption | omega | (simp; done) | (simp; omega)) ?_
    | refine r_skip0 rfl (by first | with_reducible rfl | assumption | decide) ?_
    | refine r_skipU0 rfl ?_
    | refine r_semF rfl rfl rfl rfl ?_
    | refine r_load_rp rfl rfl (by assumption) rfl ?_
    | refine r_len_row rfl rfl (by first | rfl | assumption | omega | (simp; done) | (simp; omega)) ?_
    | refine run_seq ?_
    | refine run_reg ?_
    | refine run_regd rfl ?_
    | refine run_regs rfl ?_
    | refine fin_far rfl ?_
    | refine run_block ?_
    | refine run_skip ?_
    | refine run_exit ?_
    | refine run_ret ?_
    | refine fin_seq ?_
    | refine fin_seq_e ?_
    | refine fin_seq_r ?_
    | refine fin_blk ?_
    | refine fin_blk_e ?_
    | refine fin_blk_x rfl ?_
    | refine fin_blk_r ?_
    | refine fin_loop_e ?_
    | refine fin_loop_r ?_
    | refine run_cond_t rfl (by first | with_reducible rfl | assumption | decide) ?_
    | refine run_cond_f rfl (by first | with_reducible rfl | assumption | decide) ?_)
  refine run_cond rfl (fun h => ?_) (fun h => ?_)
  · have hlt : i < xs.length := by simpa using h
    have hx : (xs.map Pair.enc)[i]? = some xs[i].enc := by simp [hlt]
    rcases Nat.eq_zero_or_pos i with h0 | hpos
    · subst h0
      repeat (first
        | refine r_mv_p rfl ?_
        | refine r_do rfl (by first | with_reducible rfl | assumption | decide) ?_
        | refine r_skip rfl (by first | with_reducible rfl | assumption | decide) ?_
        | refine r_skipU rfl ?_
        | refine r_fad rfl rfl ?_
        | refine r_add rfl rfl (by omega) ?_
        | refine r_sub rfl rfl (by omega) ?_
        | refine r_loadAll rfl (by first | rfl | assumption) ?_
        | refine r_loadAllB rfl rfl (by first | rfl | assumption) ?_
        | refine r_pick_t rfl (by first | with_reducible rfl | assumption | decide) rfl rfl ?_
        | refine r_pick_f rfl (by first | with_reducible rfl | assumption | decide) rfl rfl ?_
        | refine r_sem rfl rfl rfl rfl ?_
        | refine r_nil ?_
        | refine r_iad rfl rfl (by omega) (by assumption) (by first | rfl | assumption | omega | (simp; done) | (simp; omega)) ?_
        | refine r_storeAll rfl rfl rfl rfl rfl rfl ?_
        | refine r_store rfl rfl rfl rfl (by decide) ?_
        | refine r_store rfl rfl rfl rfl (And.intro rfl (Nat.le_of_ble_eq_true rfl)) ?_
        | refine r_alloc rfl ?_
        | refine r_box rfl rfl rfl ?_
        | refine r_bsl rfl rfl rfl rfl rfl rfl ?_
        | refine r_bsl1 rfl (by assumption) rfl ?_
        | refine r_mkmap rfl ?_
        | refine r_mv_nil rfl ?_
        | refine r_mv_own rfl rfl ?_
        | refine r_mv_mp rfl rfl ?_
        | refine r_mv_row rfl rfl (by first | rfl | assumption | omega | (simp; done) | (simp; omega)) ?_
        | refine r_mv_rp rfl rfl (by first | rfl | assumption | omega | (simp; done) | (simp; omega)) ?_
        | refine r_fad_rp rfl rfl (by first | rfl | assumption | omega | (simp; done) | (simp; omega)) ?_
        | refine r_iad_row rfl rfl (by first | rfl | assumption | omega | (simp; done) | (simp; omega)) rfl (by first | rfl | assumption | omega | (simp; done) | (simp; omega)) ?_
        | refine r_skip0 rfl (by first | with_reducible rfl | assumption | decide) ?_
        | refine r_skipU0 rfl ?_
        | refine r_semF rfl rfl rfl rfl ?_
        | refine r_load_rp rfl rfl (by assumption) rfl ?_
        | refine r_len_row rfl rfl (by first | rfl | assumption | omega | (simp; done) | (simp; omega)) ?_
        | refine run_seq ?_
        | refine run_reg ?_
        | refine run_regd rfl ?_
        | refine run_regs rfl ?_
        | refine fin_far rfl ?_
        | refine run_block ?_
        | refine run_skip ?_
        | refine run_exit ?_
        | refine run_ret ?_
        | refine fin_seq ?_
        | refine fin_seq_e ?_
        | refine fin_seq_r ?_
        | refine fin_blk ?_
        | refine fin_blk_e ?_
        | refine fin_blk_x rfl ?_
        | refine fin_blk_r ?_
        | refine fin_loop_e ?_
        | refine fin_loop_r ?_
        | refine run_cond_t rfl (by first | with_reducible rfl | assumption | decide) ?_
        | refine run_cond_f rfl (by first | with_reducible rfl | assumption | decide) ?_)
      refine fin_loop (run_weak (weak_S ?_ ?_) (ih 1 ⟨by omega, fun j hj => by omega⟩ (by omega)))
      · exact ⟨rfl, rfl, rfl, rfl, rfl, trivial⟩
      · exact ⟨rfl, trivial⟩
    · obtain ⟨q, rfl⟩ : ∃ q, i = q + 1 := ⟨i - 1, by omega⟩
      have hg : decide (0 < ((q + 1 : Nat) : Int)) = true := decide_eq_true (by omega)
      have hx0 : (xs.map Pair.enc)[(((q + 1 : Nat) : Int) - 1).toNat]? = some xs[q].enc := by
        rw [show (((q + 1 : Nat) : Int) - 1).toNat = q by omega]; simp; exact ⟨xs[q], by simp⟩
      repeat (first
        | refine r_callv rfl (order22 xs[q] xs[q + 1]) ?_
        | refine r_mv_p rfl ?_
        | refine r_do rfl (by first | with_reducible rfl | assumption | decide) ?_
        | refine r_skip rfl (by first | with_reducible rfl | assumption | decide) ?_
        | refine r_skipU rfl ?_
        | refine r_fad rfl rfl ?_
        | refine r_add rfl rfl (by omega) ?_
        | refine r_sub rfl rfl (by omega) ?_
        | refine r_loadAll rfl (by first | rfl | assumption) ?_
        | refine r_loadAllB rfl rfl (by first | rfl | assumption) ?_
        | refine r_pick_t rfl (by first | with_reducible rfl | assumption | decide) rfl rfl ?_
        | refine r_pick_f rfl (by first | with_reducible rfl | assumption | decide) rfl rfl ?_
        | refine r_sem rfl rfl rfl rfl ?_
        | refine r_nil ?_
        | refine r_iad rfl rfl (by omega) (by assumption) (by first | rfl | assumption | omega | (simp; done) | (simp; omega)) ?_
        | refine r_storeAll rfl rfl rfl rfl rfl rfl ?_
        | refine r_store rfl rfl rfl rfl (by decide) ?_
        | refine r_store rfl rfl rfl rfl (And.intro rfl (Nat.le_of_ble_eq_true rfl)) ?_
        | refine r_alloc rfl ?_
        | refine r_box rfl rfl rfl ?_
        | refine r_bsl rfl rfl rfl rfl rfl rfl ?_
        | refine r_bsl1 rfl (by assumption) rfl ?_
        | refine r_mkmap rfl ?_
        | refine r_mv_nil rfl ?_
        | refine r_mv_own rfl rfl ?_
        | refine r_mv_mp rfl rfl ?_
        | refine r_mv_row rfl rfl (by first | rfl | assumption | omega | (simp; done) | (simp; omega)) ?_
        | refine r_mv_rp rfl rfl (by first | rfl | assumption | omega | (simp; done) | (simp; omega)) ?_
        | refine r_fad_rp rfl rfl (by first | rfl | assumption | omega | (simp; done) | (simp; omega)) ?_
        | refine r_iad_row rfl rfl (by first | rfl | assumption | omega | (simp; done) | (simp; omega)) rfl (by first | rfl | assumption | omega | (simp; done) | (simp; omega)) ?_
        | refine r_skip0 rfl (by first | with_reducible rfl | assumption | decide) ?_
        | refine r_skipU0 rfl ?_
        | refine r_semF rfl rfl rfl rfl ?_
        | refine r_load_rp rfl rfl (by assumption) rfl ?_
        | refine r_len_row rfl rfl (by first | rfl | assumption | omega | (simp; done) | (simp; omega)) ?_
        | refine run_seq ?_
        | refine run_reg ?_
        | refine run_regd rfl ?_
        | refine run_regs rfl ?_
        | refine fin_far rfl ?_
        | refine run_block ?_
        | refine run_skip ?_
        | refine run_exit ?_
        | refine run_ret ?_
        | refine fin_seq ?_
        | refine fin_seq_e ?_
        | refine fin_seq_r ?_
        | refine fin_blk ?_
        | refine fin_blk_e ?_
        | refine fin_blk_x rfl ?_
        | refine fin_blk_r ?_
        | refine fin_loop_e ?_
        | refine fin_loop_r ?_
        | refine run_cond_t rfl (by first | with_reducible rfl | assumption | decide) ?_
        | refine run_cond_f rfl (by first | with_reducible rfl | assumption | decide) ?_)
      refine run_cond rfl (fun h2 => ?_) (fun h2 => ?_)
      · repeat (first
          | refine r_mv_p rfl ?_
          | refine r_do rfl (by first | with_reducible rfl | assumption | decide) ?_
          | refine r_skip rfl (by first | with_reducible rfl | assumption | decide) ?_
          | refine r_skipU rfl ?_
          | refine r_fad rfl rfl ?_
          | refine r_add rfl rfl (by omega) ?_
          | refine r_sub rfl rfl (by omega) ?_
          | refine r_loadAll rfl (by first | rfl | assumption) ?_
          | refine r_loadAllB rfl rfl (by first | rfl | assumption) ?_
          | refine r_pick_t rfl (by first | with_reducible rfl | assumption | decide) rfl rfl ?_
          | refine r_pick_f rfl (by first | with_reducible rfl | assumption | decide) rfl rfl ?_
          | refine r_sem rfl rfl rfl rfl ?_
          | refine r_nil ?_
          | refine r_iad rfl rfl (by omega) (by assumption) (by first | rfl | assumption | omega | (simp; done) | (simp; omega)) ?_
          | refine r_storeAll rfl rfl rfl rfl rfl rfl ?_
          | refine r_store rfl rfl rfl rfl (by decide) ?_
          | refine r_store rfl rfl rfl rfl (And.intro rfl (Nat.le_of_ble_eq_true rfl)) ?_
          | refine r_alloc rfl ?_
          | refine r_box rfl rfl rfl ?_
          | refine r_bsl rfl rfl rfl rfl rfl rfl ?_
          | refine r_bsl1 rfl (by assumption) rfl ?_
          | refine r_mkmap rfl ?_
          | refine r_mv_nil rfl ?_
          | refine r_mv_own rfl rfl ?_
          | refine r_mv_mp rfl rfl ?_
          | refine r_mv_row rfl rfl (by first | rfl | assumption | omega | (simp; done) | (simp; omega)) ?_
          | refine r_mv_rp rfl rfl (by first | rfl | assumption | omega | (simp; done) | (simp; omega)) ?_
          | refine r_fad_rp rfl rfl (by first | rfl | assumption | omega | (simp; done) | (simp; omega)) ?_
          | refine r_iad_row rfl rfl (by first | rfl | assumption | omega | (simp; done) | (simp; omega)) rfl (by first | rfl | assumption | omega | (simp; done) | (simp; omega)) ?_
          | refine r_skip0 rfl (by first | with_reducible rfl | assumption | decide) ?_
          | refine r_skipU0 rfl ?_
          | refine r_semF rfl rfl rfl rfl ?_
          | refine r_load_rp rfl rfl (by assumption) rfl ?_
          | refine r_len_row rfl rfl (by first | rfl | assumption | omega | (simp; done) | (simp; omega)) ?_
          | refine run_seq ?_
          | refine run_reg ?_
          | refine run_regd rfl ?_
          | refine run_regs rfl ?_
          | refine fin_far rfl ?_
          | refine run_block ?_
          | refine run_skip ?_
          | refine run_exit ?_
          | refine run_ret ?_
          | refine fin_seq ?_
          | refine fin_seq_e ?_
          | refine fin_seq_r ?_
          | refine fin_blk ?_
          | refine fin_blk_e ?_
          | refine fin_blk_x rfl ?_
          | refine fin_blk_r ?_
          | refine fin_loop_e ?_
          | refine fin_loop_r ?_
          | refine run_cond_t rfl (by first | with_reducible rfl | assumption | decide) ?_
          | refine run_cond_f rfl (by first | with_reducible rfl | assumption | decide) ?_)
        refine fin_out rfl ?_
        rw [risesB_false]
        intro hr
        have := cmpS_lt.2 (hr q hlt xs[q] xs[q + 1] (by simp) (by simp))
        have h3 := of_decide_eq_true h2
        unfold pairCmp at h3
        omega
      · repeat (first
          | refine r_mv_p rfl ?_
          | refine r_do rfl (by first | with_reducible rfl | assumption | decide) ?_
          | refine r_skip rfl (by first | with_reducible rfl | assumption | decide) ?_
          | refine r_skipU rfl ?_
          | refine r_fad rfl rfl ?_
          | refine r_add rfl rfl (by omega) ?_
          | refine r_sub rfl rfl (by omega) ?_
          | refine r_loadAll rfl (by first | rfl | assumption) ?_
          | refine r_loadAllB rfl rfl (by first | rfl | assumption) ?_
          | refine r_pick_t rfl (by first | with_reducible rfl | assumption | decide) rfl rfl ?_
          | refine r_pick_f rfl (by first | with_reducible rfl | assumption | decide) rfl rfl ?_
          | refine r_sem rfl rfl rfl rfl ?_
          | refine r_nil ?_
          | refine r_iad rfl rfl (by omega) (by assumption) (by first | rfl | assumption | omega | (simp; done) | (simp; omega)) ?_
          | refine r_storeAll rfl rfl rfl rfl rfl rfl ?_
          | refine r_store rfl rfl rfl rfl (by decide) ?_
          | refine r_store rfl rfl rfl rfl (And.intro rfl (Nat.le_of_ble_eq_true rfl)) ?_
          | refine r_alloc rfl ?_
          | refine r_box rfl rfl rfl ?_
          | refine r_bsl rfl rfl rfl rfl rfl rfl ?_
          | refine r_bsl1 rfl (by assumption) rfl ?_
          | refine r_mkmap rfl ?_
          | refine r_mv_nil rfl ?_
          | refine r_mv_own rfl rfl ?_
          | refine r_mv_mp rfl rfl ?_
          | refine r_mv_row rfl rfl (by first | rfl | assumption | omega | (simp; done) | (simp; omega)) ?_
          | refine r_mv_rp rfl rfl (by first | rfl | assumption | omega | (simp; done) | (simp; omega)) ?_
          | refine r_fad_rp rfl rfl (by first | rfl | assumption | omega | (simp; done) | (simp; omega)) ?_
          | refine r_iad_row rfl rfl (by first | rfl | assumption | omega | (simp; done) | (simp; omega)) rfl (by first | rfl | assumption | omega | (simp; done) | (simp; omega)) ?_
          | refine r_skip0 rfl (by first | with_reducible rfl | assumption | decide) ?_
          | refine r_skipU0 rfl ?_
          | refine r_semF rfl rfl rfl rfl ?_
          | refine r_load_rp rfl rfl (by assumption) rfl ?_
          | refine r_len_row rfl rfl (by first | rfl | assumption | omega | (simp; done) | (simp; omega)) ?_
          | refine run_seq ?_
          | refine run_reg ?_
          | refine run_regd rfl ?_
          | refine run_regs rfl ?_
          | refine fin_far rfl ?_
          | refine run_block ?_
          | refine run_skip ?_
          | refine run_exit ?_
          | refine run_ret ?_
          | refine fin_seq ?_
          | refine fin_seq_e ?_
          | refine fin_seq_r ?_
          | refine fin_blk ?_
          | refine fin_blk_e ?_
          | refine fin_blk_x rfl ?_
          | refine fin_blk_r ?_
          | refine fin_loop_e ?_
          | refine fin_loop_r ?_
          | refine run_cond_t rfl (by first | with_reducible rfl | assumption | decide) ?_
          | refine run_cond_f rfl (by first | with_reducible rfl | assumption | decide) ?_)
        refine fin_loop (run_weak (weak_S ?_ ?_) (ih (q + 1 + 1) ⟨by omega, rises_step hsame hlt fun p hp a b ha hb' => ?_⟩ (by omega)))
        · exact ⟨rfl, rfl, rfl, rfl, rfl, trivial⟩
        · exact ⟨rfl, trivial⟩
        · obtain rfl : q = p := by omega
          obtain ⟨_, rfl⟩ := List.getElem?_eq_some_iff.1 ha
          obtain ⟨_, rfl⟩ := List.getElem?_eq_some_iff.1 hb'
          have h3 := of_decide_eq_false h2
          unfold pairCmp at h3
          exact cmpS_lt.1 (by omega)
  · have hlt : xs.length ≤ i := by simp at h; omega
    repeat (first
      | refine r_mv_p rfl ?_
      | refine r_do rfl (by first | with_reducible rfl | assumption | decide) ?_
      | refine r_skip rfl (by first | with_reducible rfl | assumption | decide) ?_
      | refine r_skipU rfl ?_
      | refine r_fad rfl rfl ?_
      | refine r_add rfl rfl (by omega) ?_
      | refine r_sub rfl rfl (by omega) ?_
      | refine r_loadAll rfl (by first | rfl | assumption) ?_
      | refine r_loadAllB rfl rfl (by first | rfl | assumption) ?_
      | refine r_pick_t rfl (by first | with_reducible rfl | assumption | decide) rfl rfl ?_
      | refine r_pick_f rfl (by first | with_reducible rfl | assumption | decide) rfl rfl ?_
      | refine r_sem rfl rfl rfl rfl ?_
      | refine r_nil ?_
      | refine r_iad rfl rfl (by omega) (by assumption) (by first | rfl | assumption | omega | (simp; done) | (simp; omega)) ?_
      | refine r_storeAll rfl rfl rfl rfl rfl rfl ?_
      | refine r_store rfl rfl rfl rfl (by decide) ?_
      | refine r_store rfl rfl rfl rfl (And.intro rfl (Nat.le_of_ble_eq_true rfl)) ?_
      | refine r_alloc rfl ?_
      | refine r_box rfl rfl rfl ?_
      | refine r_bsl rfl rfl rfl rfl rfl rfl ?_
      | refine r_bsl1 rfl (by assumption) rfl ?_
      | refine r_mkmap rfl ?_
      | refine r_mv_nil rfl ?_
      | refine r_mv_own rfl rfl ?_
      | refine r_mv_mp rfl rfl ?_
      | refine r_mv_row rfl rfl (by first | rfl | assumption | omega | (simp; done) | (simp; omega)) ?_
      | refine r_mv_rp rfl rfl (by first | rfl | assumption | omega | (simp; done) | (simp; omega)) ?_
      | refine r_fad_rp rfl rfl (by first | rfl | assumption | omega | (simp; done) | (simp; omega)) ?_
      | refine r_iad_row rfl rfl (by first | rfl | assumption | omega | (simp; done) | (simp; omega)) rfl (by first | rfl | assumption | omega | (simp; done) | (simp; omega)) ?_
      | refine r_skip0 rfl (by first | with_reducible rfl | assumption | decide) ?_
      | refine r_skipU0 rfl ?_
      | refine r_semF rfl rfl rfl rfl ?_
      | refine r_load_rp rfl rfl (by assumption) rfl ?_
      | refine r_len_row rfl rfl (by first | rfl | assumption | omega | (simp; done) | (simp; omega)) ?_
      | refine run_seq ?_
      | refine run_reg ?_
      | refine run_regd rfl ?_
      | refine run_regs rfl ?_
      | refine fin_far rfl ?_
      | refine run_block ?_
      | refine run_skip ?_
      | refine run_exit ?_
      | refine run_ret ?_
      | refine fin_seq ?_
      | refine fin_seq_e ?_
      | refine fin_seq_r ?_
      | refine fin_blk ?_
      | refine fin_blk_e ?_
      | refine fin_blk_x rfl ?_
      | refine fin_blk_r ?_
      | refine fin_loop_e ?_
      | refine fin_loop_r ?_
      | refine run_cond_t rfl (by first | with_reducible rfl | assumption | decide) ?_
      | refine run_cond_f rfl (by first | with_reducible rfl | assumption | decide) ?_)
    refine fin_out rfl ?_
    rw [risesB_true]
    intro j hj a b ha hb'
    exact hsame j (by omega) a b ha hb'

/-! ### What is kept -/
theorem keep15 (f : FuncId) (caps : List PV) (q : Pair → Bool) (xs : List Pair) (sp : List (List PV)) (hq : ∀ x ∈ xs, Ret Try.prog f (.agg x.enc :: caps) (.v (.bool (q x)))) (hbig : xs.length * 24 ≤ 140737488355328) :
    RetN Try.prog 15 [.sl (xs.map Pair.enc) sp, .clo f caps] 24 2 ((xs.filter q).map Pair.enc) := by
  refine row15 rfl fun hbd => ?_
  unfold c15
  repeat (first
    | refine r_mv_p rfl ?_
    | refine r_do rfl (by first | with_reducible rfl | assumption | decide) ?_
    | refine r_skip rfl (by first | with_reducible rfl | assumption | decide) ?_
    | refine r_skipU rfl ?_
    | refine r_fad rfl rfl ?_
    | refine r_add rfl rfl (by omega) ?_
    | refine r_sub rfl rfl (by omega) ?_
    | refine r_loadAll rfl (by first | rfl | assumption) ?_
    | refine r_loadAllB rfl rfl (by first | rfl | assumption) ?_
    | refine r_pick_t rfl (by first | with_reducible rfl | assumption | decide) rfl rfl ?_
    | refine r_pick_f rfl (by first | with_reducible rfl | assumption | decide) rfl rfl ?_
    | refine r_sem rfl rfl rfl rfl ?_
    | refine r_nil ?_
    | refine r_iad rfl rfl (by omega) (by assumption) (by first | rfl | assumption | omega | (simp; done) | (simp; omega)) ?_
    | refine r_storeAll rfl rfl rfl rfl rfl rfl ?_
    | refine r_store rfl rfl rfl rfl (by decide) ?_
    | refine r_store rfl rfl rfl rfl (And.intro rfl (Nat.le_of_ble_eq_true rfl)) ?_
    | refine r_alloc rfl ?_
    | refine r_box rfl rfl rfl ?_
    | refine r_bsl rfl rfl rfl rfl rfl rfl ?_
    | refine r_bsl1 rfl (by assumption) rfl ?_
    | refine r_mkmap rfl ?_
    | refine r_mv_nil rfl ?_
    | refine r_mv_own rfl rfl ?_
    | refine r_mv_mp rfl rfl ?_
    | refine r_mv_row rfl rfl (by first | rfl | assumption | omega | (simp; done) | (simp; omega)) ?_
    | refine r_mv_rp rfl rfl (by first | rfl | assumption | omega | (simp; done) | (simp; omega)) ?_
    | refine r_fad_rp rfl rfl (by first | rfl | assumption | omega | (simp; done) | (simp; omega)) ?_
    | refine r_iad_row rfl rfl (by first | rfl | assumption | omega | (simp; done) | (simp; omega)) rfl (by first | rfl | assumption | omega | (simp; done) | (simp; omega)) ?_
    | refine r_skip0 rfl (by first | with_reducible rfl | assumption | decide) ?_
    | refine r_skipU0 rfl ?_
    | refine r_semF rfl rfl rfl rfl ?_
    | refine r_load_rp rfl rfl (by assumption) rfl ?_
    | refine r_len_row rfl rfl (by first | rfl | assumption | omega | (simp; done) | (simp; omega)) ?_
    | refine run_seq ?_
    | refine run_reg ?_
    | refine run_regd rfl ?_
    | refine run_regs rfl ?_
    | refine fin_far rfl ?_
    | refine run_block ?_
    | refine run_skip ?_
    | refine run_exit ?_
    | refine run_ret ?_
    | refine fin_seq ?_
    | refine fin_seq_e ?_
    | refine fin_seq_r ?_
    | refine fin_blk ?_
    | refine fin_blk_e ?_
    | refine fin_blk_x rfl ?_
    | refine fin_blk_r ?_
    | refine fin_loop_e ?_
    | refine fin_loop_r ?_
    | refine run_cond_t rfl (by first | with_reducible rfl | assumption | decide) ?_
    | refine run_cond_f rfl (by first | with_reducible rfl | assumption | decide) ?_)
  refine run_weak (weak_nilRow 5 20 24 2 rfl rfl) (run_weak (weak_S ?_ ?_) (run_inv (fun i : Nat => S [(1, .p (.clo f caps)), (4, .nil), (5, .row 20 (((xs.take i).filter q).map Pair.enc).length), (8, .p (.sl (xs.map Pair.enc) sp)), (9, .p (.v (.int .i64 ((xs.map Pair.enc).length : Nat)))), (10, .p (.v (.int .i64 (i : Nat))))] [(20, some (.row 24 2 (((xs.take i).filter q).map Pair.enc) false))])
    (fun i => i ≤ xs.length) (fun i => xs.length - i) ?_ 0 (Nat.zero_le _)))
  · exact ⟨rfl, rfl, rfl, rfl, rfl, rfl, trivial⟩
  · exact ⟨rfl, trivial⟩
  intro i hi ih
  repeat (first
    | refine r_mv_p rfl ?_
    | refine r_do rfl (by first | with_reducible rfl | assumption | decide) ?_
    | refine r_skip rfl (by first | with_reducible rfl | assumption | decide) ?_
    | refine r_skipU rfl ?_
    | refine r_fad rfl rfl ?_
    | refine r_add rfl rfl (by omega) ?_
    | refine r_sub rfl rfl (by omega) ?_
    | refine r_loadAll rfl (by first | rfl | assumption) ?_
    | refine r_loadAllB rfl rfl (by first | rfl | assumption) ?_
    | refine r_pick_t rfl (by first | with_reducible rfl | assumption | decide) rfl rfl ?_
    | refine r_pick_f rfl (by first | with_reducible rfl | assumption | decide) rfl rfl ?_
    | refine r_sem rfl rfl rfl rfl ?_
    | refine r_nil ?_
    | refine r_iad rfl rfl (by omega) (by assumption) (by first | rfl | assumption | omega | (simp; done) | (simp; omega)) ?_
    | refine r_storeAll rfl rfl rfl rfl rfl rfl ?_
    | refine r_store rfl rfl rfl rfl (by decide) ?_
    | refine r_store rfl rfl rfl rfl (And.intro rfl (Nat.le_of_ble_eq_true rfl)) ?_
    | refine r_alloc rfl ?_
    | refine r_box rfl rfl rfl ?_
    | refine r_bsl rfl rfl rfl rfl rfl rfl ?_
    | refine r_bsl1 rfl (by assumption) rfl ?_
    | refine r_mkmap rfl ?_
    | refine r_mv_nil rfl ?_
    | refine r_mv_own rfl rfl ?_
    | refine r_mv_mp rfl rfl ?_
    | refine r_mv_row rfl rfl (by first | rfl | assumption | omega | (simp; done) | (simp; omega)) ?_
    | refine r_mv_rp rfl rfl (by first | rfl | assumption | omega | (simp; done) | (simp; omega)) ?_
    | refine r_fad_rp rfl rfl (by first | rfl | assumption | omega | (simp; done) | (simp; omega)) ?_
    | refine r_iad_row rfl rfl (by first | rfl | assumption | omega | (simp; done) | (simp; omega)) rfl (by first | rfl | assumption | omega | (simp; done) | (simp; omega)) ?_
    | refine r_skip0 rfl (by first | with_reducible rfl | assumption | decide) ?_
    | refine r_skipU0 rfl ?_
    | refine r_semF rfl rfl rfl rfl ?_
    | refine r_load_rp rfl rfl (by assumption) rfl ?_
    | refine r_len_row rfl rfl (by first | rfl | assumption | omega | (simp; done) | (simp; omega)) ?_
    | refine run_seq ?_
    | refine run_reg ?_
    | refine run_regd rfl ?_
    | refine run_regs rfl ?_
    | refine fin_far rfl ?_
    | refine run_block ?_
    | refine run_skip ?_
    | refine run_exit ?_
    | refine run_ret ?_
    | refine fin_seq ?_
    | refine fin_seq_e ?_
    | refine fin_seq_r ?_
    | refine fin_blk ?_
    | refine fin_blk_e ?_
    | refine fin_blk_x rfl ?_
    | refine fin_blk_r ?_
    | refine fin_loop_e ?_
    | refine fin_loop_r ?_
    | refine run_cond_t rfl (by first | with_reducible rfl | assumption | decide) ?_
    | refine run_cond_f rfl (by first | with_reducible rfl | assumption | decide) ?_)
  refine run_cond rfl (fun h => ?_) (fun h => ?_)
  · have hlt : i < xs.length := by simpa using h
    have hx : (xs.map Pair.enc)[i]? = some xs[i].enc := by simp [hlt]
    have hxl : xs[i].enc.length = 2 := rfl
    have htake : xs.take (i + 1) = xs.take i ++ [xs[i]] := by simp
    repeat (first
      | refine r_callv rfl (hq xs[i] (by simp)) ?_
      | refine r_mv_p rfl ?_
      | refine r_do rfl (by first | with_reducible rfl | assumption | decide) ?_
      | refine r_skip rfl (by first | with_reducible rfl | assumption | decide) ?_
      | refine r_skipU rfl ?_
      | refine r_fad rfl rfl ?_
      | refine r_add rfl rfl (by omega) ?_
      | refine r_sub rfl rfl (by omega) ?_
      | refine r_loadAll rfl (by first | rfl | assumption) ?_
      | refine r_loadAllB rfl rfl (by first | rfl | assumption) ?_
      | refine r_pick_t rfl (by first | with_reducible rfl | assumption | decide) rfl rfl ?_
      | refine r_pick_f rfl (by first | with_reducible rfl | assumption | decide) rfl rfl ?_
      | refine r_sem rfl rfl rfl rfl ?_
      | refine r_nil ?_
      | refine r_iad rfl rfl (by omega) (by assumption) (by first | rfl | assumption | omega | (simp; done) | (simp; omega)) ?_
      | refine r_storeAll rfl rfl rfl rfl rfl rfl ?_
      | refine r_store rfl rfl rfl rfl (by decide) ?_
      | refine r_store rfl rfl rfl rfl (And.intro rfl (Nat.le_of_ble_eq_true rfl)) ?_
      | refine r_alloc rfl ?_
      | refine r_box rfl rfl rfl ?_
      | refine r_bsl rfl rfl rfl rfl rfl rfl ?_
      | refine r_bsl1 rfl (by assumption) rfl ?_
      | refine r_mkmap rfl ?_
      | refine r_mv_nil rfl ?_
      | refine r_mv_own rfl rfl ?_
      | refine r_mv_mp rfl rfl ?_
      | refine r_mv_row rfl rfl (by first | rfl | assumption | omega | (simp; done) | (simp; omega)) ?_
      | refine r_mv_rp rfl rfl (by first | rfl | assumption | omega | (simp; done) | (simp; omega)) ?_
      | refine r_fad_rp rfl rfl (by first | rfl | assumption | omega | (simp; done) | (simp; omega)) ?_
      | refine r_iad_row rfl rfl (by first | rfl | assumption | omega | (simp; done) | (simp; omega)) rfl (by first | rfl | assumption | omega | (simp; done) | (simp; omega)) ?_
      | refine r_skip0 rfl (by first | with_reducible rfl | assumption | decide) ?_
      | refine r_skipU0 rfl ?_
      | refine r_semF rfl rfl rfl rfl ?_
      | refine r_load_rp rfl rfl (by assumption) rfl ?_
      | refine r_len_row rfl rfl (by first | rfl | assumption | omega | (simp; done) | (simp; omega)) ?_
      | refine run_seq ?_
      | refine run_reg ?_
      | refine run_regd rfl ?_
      | refine run_regs rfl ?_
      | refine fin_far rfl ?_
      | refine run_block ?_
      | refine run_skip ?_
      | refine run_exit ?_
      | refine run_ret ?_
      | refine fin_seq ?_
      | refine fin_seq_e ?_
      | refine fin_seq_r ?_
      | refine fin_blk ?_
      | refine fin_blk_e ?_
      | refine fin_blk_x rfl ?_
      | refine fin_blk_r ?_
      | refine fin_loop_e ?_
      | refine fin_loop_r ?_
      | refine run_cond_t rfl (by first | with_reducible rfl | assumption | decide) ?_
      | refine run_cond_f rfl (by first | with_reducible rfl | assumption | decide) ?_)
    refine run_cond rfl (fun h2 => ?_) (fun h2 => ?_)
    · have hE : ((xs.take (i + 1)).filter q).map Pair.enc = ((xs.take i).filter q).map Pair.enc ++ [xs[i].enc] := by rw [htake, List.filter_append]; simp [h2]
      have he : ∀ z ∈ [xs[i].enc], z.length = 2 := by intro z hz; simp at hz; subst hz; rfl
      have hl : ((((xs.take i).filter q).map Pair.enc).length + [xs[i].enc].length) * 24 ≤ 140737488355328 := by
        have h1 : ((xs.take i).filter q).length ≤ i := Nat.le_trans (List.length_filter_le _ _) (by simp; omega)
        simp only [List.length_map, List.length_cons, List.length_nil]
        omega
      repeat (first
        | refine r_appRow (fs := [19]) rfl rfl rfl rfl rfl rfl he hl (by decide) (Or.inl rfl) ?_
        | refine r_mv_p rfl ?_
        | refine r_do rfl (by first | with_reducible rfl | assumption | decide) ?_
        | refine r_skip rfl (by first | with_reducible rfl | assumption | decide) ?_
        | refine r_skipU rfl ?_
        | refine r_fad rfl rfl ?_
        | refine r_add rfl rfl (by omega) ?_
        | refine r_sub rfl rfl (by omega) ?_
        | refine r_loadAll rfl (by first | rfl | assumption) ?_
        | refine r_loadAllB rfl rfl (by first | rfl | assumption) ?_
        | refine r_pick_t rfl (by first | with_reducible rfl | assumption | decide) rfl rfl ?_
        | refine r_pick_f rfl (by first | with_reducible rfl | assumption | decide) rfl rfl ?_
        | refine r_sem rfl rfl rfl rfl ?_
        | refine r_nil ?_
        | refine r_iad rfl rfl (by omega) (by assumption) (by first | rfl | assumption | omega | (simp; done) | (simp; omega)) ?_
        | refine r_storeAll rfl rfl rfl rfl rfl rfl ?_
        | refine r_store rfl rfl rfl rfl (by decide) ?_
        | refine r_store rfl rfl rfl rfl (And.intro rfl (Nat.le_of_ble_eq_true rfl)) ?_
        | refine r_alloc rfl ?_
        | refine r_box rfl rfl rfl ?_
        | refine r_bsl rfl rfl rfl rfl rfl rfl ?_
        | refine r_bsl1 rfl (by assumption) rfl ?_
        | refine r_mkmap rfl ?_
        | refine r_mv_nil rfl ?_
        | refine r_mv_own rfl rfl ?_
        | refine r_mv_mp rfl rfl ?_
        | refine r_mv_row rfl rfl (by first | rfl | assumption | omega | (simp; done) | (simp; omega)) ?_
        | refine r_mv_rp rfl rfl (by first | rfl | assumption | omega | (simp; done) | (simp; omega)) ?_
        | refine r_fad_rp rfl rfl (by first | rfl | assumption | omega | (simp; done) | (simp; omega)) ?_
        | refine r_iad_row rfl rfl (by first | rfl | assumption | omega | (simp; done) | (simp; omega)) rfl (by first | rfl | assumption | omega | (simp; done) | (simp; omega)) ?_
        | refine r_skip0 rfl (by first | with_reducible rfl | assumption | decide) ?_
        | refine r_skipU0 rfl ?_
        | refine r_semF rfl rfl rfl rfl ?_
        | refine r_load_rp rfl rfl (by assumption) rfl ?_
        | refine r_len_row rfl rfl (by first | rfl | assumption | omega | (simp; done) | (simp; omega)) ?_
        | refine run_seq ?_
        | refine run_reg ?_
        | refine run_regd rfl ?_
        | refine run_regs rfl ?_
        | refine fin_far rfl ?_
        | refine run_block ?_
        | refine run_skip ?_
        | refine run_exit ?_
        | refine run_ret ?_
        | refine fin_seq ?_
        | refine fin_seq_e ?_
        | refine fin_seq_r ?_
        | refine fin_blk ?_
        | refine fin_blk_e ?_
        | refine fin_blk_x rfl ?_
        | refine fin_blk_r ?_
        | refine fin_loop_e ?_
        | refine fin_loop_r ?_
        | refine run_cond_t rfl (by first | with_reducible rfl | assumption | decide) ?_
        | refine run_cond_f rfl (by first | with_reducible rfl | assumption | decide) ?_)
      refine fin_loop (run_weak (weak_S ?_ ?_) (ih (i + 1) hlt (by omega)))
      · exact ⟨rfl, rfl, by rw [hE, List.length_append]; rfl, rfl, rfl, rfl, trivial⟩
      · exact ⟨by rw [hE]; rfl, trivial⟩
    · have hE : ((xs.take (i + 1)).filter q).map Pair.enc = ((xs.take i).filter q).map Pair.enc := by rw [htake, List.filter_append]; simp [h2]
      repeat (first
        | refine r_mv_p rfl ?_
        | refine r_do rfl (by first | with_reducible rfl | assumption | decide) ?_
        | refine r_skip rfl (by first | with_reducible rfl | assumption | decide) ?_
        | refine r_skipU rfl ?_
        | refine r_fad rfl rfl ?_
        | refine r_add rfl rfl (by omega) ?_
        | refine r_sub rfl rfl (by omega) ?_
        | refine r_loadAll rfl (by first | rfl | assumption) ?_
        | refine r_loadAllB rfl rfl (by first | rfl | assumption) ?_
        | refine r_pick_t rfl (by first | with_reducible rfl | assumption | decide) rfl rfl ?_
        | refine r_pick_f rfl (by first | with_reducible rfl | assumption | decide) rfl rfl ?_
        | refine r_sem rfl rfl rfl rfl ?_
        | refine r_nil ?_
        | refine r_iad rfl rfl (by omega) (by assumption) (by first | rfl | assumption | omega | (simp; done) | (simp; omega)) ?_
        | refine r_storeAll rfl rfl rfl rfl rfl rfl ?_
        | refine r_store rfl rfl rfl rfl (by decide) ?_
        | refine r_store rfl rfl rfl rfl (And.intro rfl (Nat.le_of_ble_eq_true rfl)) ?_
        | refine r_alloc rfl ?_
        | refine r_box rfl rfl rfl ?_
        | refine r_bsl rfl rfl rfl rfl rfl rfl ?_
        | refine r_bsl1 rfl (by assumption) rfl ?_
        | refine r_mkmap rfl ?_
        | refine r_mv_nil rfl ?_
        | refine r_mv_own rfl rfl ?_
        | refine r_mv_mp rfl rfl ?_
        | refine r_mv_row rfl rfl (by first | rfl | assumption | omega | (simp; done) | (simp; omega)) ?_
        | refine r_mv_rp rfl rfl (by first | rfl | assumption | omega | (simp; done) | (simp; omega)) ?_
        | refine r_fad_rp rfl rfl (by first | rfl | assumption | omega | (simp; done) | (simp; omega)) ?_
        | refine r_iad_row rfl rfl (by first | rfl | assumption | omega | (simp; done) | (simp; omega)) rfl (by first | rfl | assumption | omega | (simp; done) | (simp; omega)) ?_
        | refine r_skip0 rfl (by first | with_reducible rfl | assumption | decide) ?_
        | refine r_skipU0 rfl ?_
        | refine r_semF rfl rfl rfl rfl ?_
        | refine r_load_rp rfl rfl (by assumption) rfl ?_
        | refine r_len_row rfl rfl (by first | rfl | assumption | omega | (simp; done) | (simp; omega)) ?_
        | refine run_seq ?_
        | refine run_reg ?_
        | refine run_regd rfl ?_
        | refine run_regs rfl ?_
        | refine fin_far rfl ?_
        | refine run_block ?_
        | refine run_skip ?_
        | refine run_exit ?_
        | refine run_ret ?_
        | refine fin_seq ?_
        | refine fin_seq_e ?_
        | refine fin_seq_r ?_
        | refine fin_blk ?_
        | refine fin_blk_e ?_
        | refine fin_blk_x rfl ?_
        | refine fin_blk_r ?_
        | refine fin_loop_e ?_
        | refine fin_loop_r ?_
        | refine run_cond_t rfl (by first | with_reducible rfl | assumption | decide) ?_
        | refine run_cond_f rfl (by first | with_reducible rfl | assumption | decide) ?_)
      refine fin_loop (run_weak (weak_S ?_ ?_) (ih (i + 1) hlt (by omega)))
      · exact ⟨rfl, rfl, by rw [hE]; rfl, rfl, rfl, rfl, trivial⟩
      · exact ⟨by rw [hE]; rfl, trivial⟩
  · have hlt : i = xs.length := by simp at h; omega
    have hE : xs.take i = xs := by rw [hlt]; simp
    rw [hE]
    repeat (first
      | refine r_mv_p rfl ?_
      | refine r_do rfl (by first | with_reducible rfl | assumption | decide) ?_
      | refine r_skip rfl (by first | with_reducible rfl | assumption | decide) ?_
      | refine r_skipU rfl ?_
      | refine r_fad rfl rfl ?_
      | refine r_add rfl rfl (by omega) ?_
      | refine r_sub rfl rfl (by omega) ?_
      | refine r_loadAll rfl (by first | rfl | assumption) ?_
      | refine r_loadAllB rfl rfl (by first | rfl | assumption) ?_
      | refine r_pick_t rfl (by first | with_reducible rfl | assumption | decide) rfl rfl ?_
      | refine r_pick_f rfl (by first | with_reducible rfl | assumption | decide) rfl rfl ?_
      | refine r_sem rfl rfl rfl rfl ?_
      | refine r_nil ?_
      | refine r_iad rfl rfl (by omega) (by assumption) (by first | rfl | assumption | omega | (simp; done) | (simp; omega)) ?_
      | refine r_storeAll rfl rfl rfl rfl rfl rfl ?_
      | refine r_store rfl rfl rfl rfl (by decide) ?_
      | refine r_store rfl rfl rfl rfl (And.intro rfl (Nat.le_of_ble_eq_true rfl)) ?_
      | refine r_alloc rfl ?_
      | refine r_box rfl rfl rfl ?_
      | refine r_bsl rfl rfl rfl rfl rfl rfl ?_
      | refine r_bsl1 rfl (by assumption) rfl ?_
      | refine r_mkmap rfl ?_
      | refine r_mv_nil rfl ?_
      | refine r_mv_own rfl rfl ?_
      | refine r_mv_mp rfl rfl ?_
      | refine r_mv_row rfl rfl (by first | rfl | assumption | omega | (simp; done) | (simp; omega)) ?_
      | refine r_mv_rp rfl rfl (by first | rfl | assumption | omega | (simp; done) | (simp; omega)) ?_
      | refine r_fad_rp rfl rfl (by first | rfl | assumption | omega | (simp; done) | (simp; omega)) ?_
      | refine r_iad_row rfl rfl (by first | rfl | assumption | omega | (simp; done) | (simp; omega)) rfl (by first | rfl | assumption | omega | (simp; done) | (simp; omega)) ?_
      | refine r_skip0 rfl (by first | with_reducible rfl | assumption | decide) ?_
      | refine r_skipU0 rfl ?_
      | refine r_semF rfl rfl rfl rfl ?_
      | refine r_load_rp rfl rfl (by assumption) rfl ?_
      | refine r_len_row rfl rfl (by first | rfl | assumption | omega | (simp; done) | (simp; omega)) ?_
      | refine run_seq ?_
      | refine run_reg ?_
      | refine run_regd rfl ?_
      | refine run_regs rfl ?_
      | refine fin_far rfl ?_
      | refine run_block ?_
      | refine run_skip ?_
      | refine run_exit ?_
      | refine run_ret ?_
      | refine fin_seq ?_
      | refine fin_seq_e ?_
      | refine fin_seq_r ?_
      | refine fin_blk ?_
      | refine fin_blk_e ?_
      | refine fin_blk_x rfl ?_
      | refine fin_blk_r ?_
      | refine fin_loop_e ?_
      | refine fin_loop_r ?_
      | refine run_cond_t rfl (by first | with_reducible rfl | assumption | decide) ?_
      | refine run_cond_f rfl (by first | with_reducible rfl | assumption | decide) ?_)
    exact fin_row (by rfl) (by rfl) (by rfl) (by rfl)

/-! ### The document's put and drop -/
/-- The place of a put, as a number. -/
theorem putI_spec {α : Type} (q : α → Bool) (xs : List α) : ∃ k : Nat, putI q xs = k ∧ k ≤ xs.length ∧ (∀ j y, j < k → xs[j]? = some y → q y = false) ∧ (∀ y, xs[k]? = some y → q y = true) := by
  unfold putI
  split
  · rename_i h
    refine ⟨_, rfl, Nat.le_refl _, fun j y _ hy => (firstI_neg.1 h) y (List.mem_of_getElem? hy), fun y hy => by simp at hy⟩
  · rename_i h
    obtain ⟨k, x, h1, h2, h3, h4⟩ := firstI_pos (q := q) (l := xs) (i := 0) (by omega)
    have := (List.getElem?_eq_some_iff.1 h2).1
    exact ⟨k, by rw [h1, Nat.zero_add], by omega, h4, fun y hy => by rw [h2] at hy; cases hy; exact h3⟩
/-- What the document's put has laid, i elements on. -/
def laid (x : Pair) (k : Nat) (xs : List Pair) (i : Nat) : List Pair := if k < i then xs.take k ++ x :: (xs.take i).drop k else xs.take i
theorem laid_length (x : Pair) (k : Nat) (xs : List Pair) (i : Nat) (hk : k ≤ xs.length) (hi : i ≤ xs.length) : (laid x k xs i).length ≤ i + 1 := by
  unfold laid; split
  · simp; omega
  · simp; omega
end Go.Fw
