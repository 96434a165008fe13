/-
  Two rows that are compared, the first one lent; the closure of TableDoes; the law TableDoes.
-/
import Derived.Test.YtikgpjnfifnilaaTH
import Derived.Test.YtikgpjnfifnilaaIrW
set_option linter.unusedVariables false
set_option linter.unusedSimpArgs false
set_option maxRecDepth 10000
namespace Go.Fw
open Go.Proofs

theorem pair_eqs (y : Pair) : cellsEq [.s, .i .i64] y.enc y.enc = some true := by simp [cellsEq, Pair.enc]
theorem r_eqsT {P : Program} {Q : Ex → St → Prop} {ks : List Kf} {rs : List RG} {l : List (Nat × T)} {m : List (Nat × Option Own)} {d : Nat} {cks : List Ck} {x y : Opd} {a b : List PV} (hx : (S l m).ev x = .p (.agg a)) (hy : (S l m).ev y = .p (.agg b)) (he : cellsEq cks a b = some true)
    (h : RunR P Q ks rs (S ((d, .p (.v (.bool false))) :: l) m)) : RunR P Q ks (⟨some d, .eqs true cks, [x, y], none⟩ :: rs) (S l m) :=
  r_sem («as» := [.p (.agg a), .p (.agg b)]) rfl (by simp only [St.resL, St.res, hx, hy, lookT]; rfl) (by simp only [sem, he, Option.map_some]; rfl) rfl h
theorem r_slcR {P : Program} {Q : Ex → St → Prop} {ks : List Kf} {rs : List RG} {l : List (Nat × T)} {m : List (Nat × Option Own)} {d es n len es' ty j : Nat} {x y : Opd} {xs : List (List PV)} {fz : Bool} (hx : (S l m).ev x = .row n len) (ho : ol m n = some (.row ty es' xs fz)) (hle : len ≤ xs.length) (hy : (S l m).ev y = .p (.v (.int .i64 ((j : Nat) : Int)))) (hij : j ≤ xs.length)
    (h : RunR P Q ks rs (S ((d, .row n j) :: l) m)) : RunR P Q ks (⟨some d, .slc es false true, [x, y], none⟩ :: rs) (S l m) :=
  r_slc_row (rs' := [.p (.v (.int .i64 ((j : Nat) : Int)))]) hx ho hle (by simp only [St.resL, St.res, hy, lookT]; rfl) (by simp only [bnds]; rw [if_pos (by omega)]; rfl) hij h
theorem leavesP (xs : List Pair) : ∀ p ∈ (xs.map Pair.enc).flatten, ∃ x, p = .v x := by
  intro p hp
  obtain ⟨l, hl, hpl⟩ := List.mem_flatten.1 hp
  obtain ⟨y, _, rfl⟩ := List.mem_map.1 hl
  simp only [Pair.enc, List.mem_cons, List.not_mem_nil, or_false] at hpl
  rcases hpl with rfl | rfl <;> exact ⟨_, rfl⟩
theorem lent17 (xs : List Pair) (s2 : List (List PV)) (hx : xs ≠ []) (hbl : xs.length ≤ 9223372036854775806) : RetU Try.prog 17 24 2 (xs.map Pair.enc) [.sl (xs.map Pair.enc) s2] (xs.map Pair.enc) (.v (.bool true)) := by
  refine lentv17 rfl rfl (by simpa using hx) (leavesP xs) ?_
  have hne : (!decide ((((xs.map Pair.enc).length : Nat) : Int) = (((xs.map Pair.enc).length : Nat) : Int))) = false := by simp
  unfold c17
  repeat (first
    | refine r_mv_p rfl ?_
    | refine r_do rfl (by first | with_reducible rfl | assumption | decide) ?_
    | refine r_skip rfl (by first | with_reducible rfl | assumption | decide) ?_
    | refine r_skipU rfl ?_
    | refine r_fad rfl rfl ?_
    | refine r_add rfl rfl (by omega) ?_
    | refine r_sub rfl rfl (by omega) ?_
    | refine r_loadAll rfl (by first | rfl | assumption) ?_
    | refine r_loadAllB rfl rfl (by first | rfl | assumption) ?_
    | refine r_pick_t rfl (by first | with_reducible rfl | assumption | decide) rfl rfl ?_
    | refine r_pick_f rfl (by first | with_reducible rfl | assumption | decide) rfl rfl ?_
    | refine r_sem rfl rfl rfl rfl ?_
    | refine r_nil ?_
    | refine r_iad rfl rfl (by omega) (by assumption) (by first | rfl | assumption | omega | (simp; done) | (simp; omega)) ?_
    | refine r_storeAll rfl rfl rfl rfl rfl rfl ?_
    | refine r_store rfl rfl rfl rfl (by decide) ?_
    | refine r_store rfl rfl rfl rfl (And.intro rfl (Nat.le_of_ble_eq_true rfl)) ?_
    | refine r_alloc rfl ?_
    | refine r_box rfl rfl rfl ?_
    | refine r_bsl rfl rfl rfl rfl rfl rfl ?_
    | refine r_bsl1 rfl (by assumption) rfl ?_
    | refine r_mkmap rfl ?_
    | refine r_mv_nil rfl ?_
    | refine r_mv_own rfl rfl ?_
    | refine r_mv_mp rfl rfl ?_
    | refine r_mv_row rfl rfl (by first | rfl | assumption | omega | (simp; done) | (simp; omega)) ?_
    | refine r_mv_rp rfl rfl (by first | rfl | assumption | omega | (simp; done) | (simp; omega)) ?_
    | refine r_fad_rp rfl rfl (by first | rfl | assumption | omega | (simp; done) | (simp; omega)) ?_
    | refine r_iad_row rfl rfl (by first | rfl | assumption | omega | (simp; done) | (simp; omega)) rfl (by first | rfl | assumption | omega | (simp; done) | (simp; omega)) ?_
    | refine r_skip0 rfl (by first | with_reducible rfl | assumption | decide) ?_
    | refine r_skipU0 rfl ?_
    | refine r_semF rfl rfl rfl rfl ?_
    | refine r_load_rp rfl rfl (by assumption) rfl ?_
    | refine r_len_row rfl rfl (by first | rfl | assumption | omega | (simp; done) | (simp; omega)) ?_
    | refine run_seq ?_
    | refine run_reg ?_
    | refine run_regd rfl ?_
    | refine run_regs rfl ?_
    | refine fin_far rfl ?_
    | refine run_block ?_
    | refine run_skip ?_
    | refine run_exit ?_
    | refine run_ret ?_
    | refine fin_seq ?_
    | refine fin_seq_e ?_
    | refine fin_seq_r ?_
    | refine fin_blk ?_
    | refine fin_blk_e ?_
    | refine fin_blk_x rfl ?_
    | refine fin_blk_r ?_
    | refine fin_loop_e ?_
    | refine fin_loop_r ?_
    | refine run_cond_t rfl (by first | with_reducible rfl | assumption | decide) ?_
    | refine run_cond_f rfl (by first | with_reducible rfl | assumption | decide) ?_)
  refine run_weak (weak_S ?_ ?_) (run_inv (fun i : Nat => S [(0, .row LN (xs.map Pair.enc).length), (1, .p (.sl (xs.map Pair.enc) s2)), (5, .p (.v (.int .i64 (i : Nat))))] [(LN, some (.row 24 2 (xs.map Pair.enc) false))])
    (fun i => i ≤ xs.length) (fun i => xs.length - i) ?_ 0 (Nat.zero_le _))
  · exact ⟨rfl, rfl, rfl, trivial⟩
  · exact ⟨rfl, trivial⟩
  intro i hi ih
  repeat (first
    | refine r_mv_p rfl ?_
    | refine r_do rfl (by first | with_reducible rfl | assumption | decide) ?_
    | refine r_skip rfl (by first | with_reducible rfl | assumption | decide) ?_
    | refine r_skipU rfl ?_
    | refine r_fad rfl rfl ?_
    | refine r_add rfl rfl (by omega) ?_
    | refine r_sub rfl rfl (by omega) ?_
    | refine r_loadAll rfl (by first | rfl | assumption) ?_
    | refine r_loadAllB rfl rfl (by first | rfl | assumption) ?_
    | refine r_pick_t rfl (by first | with_reducible rfl | assumption | decide) rfl rfl ?_
    | refine r_pick_f rfl (by first | with_reducible rfl | assumption | decide) rfl rfl ?_
    | refine r_sem rfl rfl rfl rfl ?_
    | refine r_nil ?_
    | refine r_iad rfl rfl (by omega) (by assumption) (by first | rfl | assumption | omega | (simp; done) | (simp; omega)) ?_
    | refine r_storeAll rfl rfl rfl rfl rfl rfl ?_
    | refine r_store rfl rfl rfl rfl (by decide) ?_
    | refine r_store rfl rfl rfl rfl (And.intro rfl (Nat.le_of_ble_eq_true rfl)) ?_
    | refine r_alloc rfl ?_
    | refine r_box rfl rfl rfl ?_
    | refine r_bsl rfl rfl rfl rfl rfl rfl ?_
    | refine r_bsl1 rfl (by assumption) rfl ?_
    | refine r_mkmap rfl ?_
    | refine r_mv_nil rfl ?_
    | refine r_mv_own rfl rfl ?_
    | refine r_mv_mp rfl rfl ?_
    | refine r_mv_row rfl rfl (by first | rfl | assumption | omega | (simp; done) | (simp; omega)) ?_
    | refine r_mv_rp rfl rfl (by first | rfl | assumption | omega | (simp; done) | (simp; omega)) ?_
    | refine r_fad_rp rfl rfl (by first | rfl | assumption | omega | (simp; done) | (simp; omega)) ?_
    | refine r_iad_row rfl rfl (by first | rfl | assumption | omega | (simp; done) | (simp; omega)) rfl (by first | rfl | assumption | omega | (simp; done) | (simp; omega)) ?_
    | refine r_skip0 rfl (by first | with_reducible rfl | assumption | decide) ?_
    | refine r_skipU0 rfl ?_
    | refine r_semF rfl rfl rfl rfl ?_
    | refine r_load_rp rfl rfl (by assumption) rfl ?_
    | refine r_len_row rfl rfl (by first | rfl | assumption | omega | (simp; done) | (simp; omega)) ?_
    | refine run_seq ?_
    | refine run_reg ?_
    | refine run_regd rfl ?_
    | refine run_regs rfl ?_
    | refine fin_far rfl ?_
    | refine run_block ?_
    | refine run_skip ?_
    | refine run_exit ?_
    | refine run_ret ?_
    | refine fin_seq ?_
    | refine fin_seq_e ?_
    | refine fin_seq_r ?_
    | refine fin_blk ?_
    | refine fin_blk_e ?_
    | refine fin_blk_x rfl ?_
    | refine fin_blk_r ?_
    | refine fin_loop_e ?_
    | refine fin_loop_r ?_
    | refine run_cond_t rfl (by first | with_reducible rfl | assumption | decide) ?_
    | refine run_cond_f rfl (by first | with_reducible rfl | assumption | decide) ?_)
  refine run_cond rfl (fun h => ?_) (fun h => ?_)
  · have hlt : i < xs.length := by simpa using h
    have hx : (xs.map Pair.enc)[i]? = some xs[i].enc := by simp [hlt]
    have hlm : (xs.map Pair.enc).length = xs.length := List.length_map ..
    have hnext := ih (i + 1) hlt (by omega)
    clear ih
    repeat (first
      | refine r_eqsT rfl rfl (pair_eqs xs[i]) ?_
      | refine r_mv_p rfl ?_
      | refine r_do rfl (by first | with_reducible rfl | assumption | decide) ?_
      | refine r_skip rfl (by first | with_reducible rfl | assumption | decide) ?_
      | refine r_skipU rfl ?_
      | refine r_fad rfl rfl ?_
      | refine r_add rfl rfl (by omega) ?_
      | refine r_sub rfl rfl (by omega) ?_
      | refine r_loadAll rfl (by first | rfl | assumption) ?_
      | refine r_loadAllB rfl rfl (by first | rfl | assumption) ?_
      | refine r_pick_t rfl (by first | with_reducible rfl | assumption | decide) rfl rfl ?_
      | refine r_pick_f rfl (by first | with_reducible rfl | assumption | decide) rfl rfl ?_
      | refine r_sem rfl rfl rfl rfl ?_
      | refine r_nil ?_
      | refine r_iad rfl rfl (by omega) (by assumption) (by first | rfl | assumption | omega | (simp; done) | (simp; omega)) ?_
      | refine r_storeAll rfl rfl rfl rfl rfl rfl ?_
      | refine r_store rfl rfl rfl rfl (by decide) ?_
      | refine r_store rfl rfl rfl rfl (And.intro rfl (Nat.le_of_ble_eq_true rfl)) ?_
      | refine r_alloc rfl ?_
      | refine r_box rfl rfl rfl ?_
      | refine r_bsl rfl rfl rfl rfl rfl rfl ?_
      | refine r_bsl1 rfl (by assumption) rfl ?_
      | refine r_mkmap rfl ?_
      | refine r_mv_nil rfl ?_
      | refine r_mv_own rfl rfl ?_
      | refine r_mv_mp rfl rfl ?_
      | refine r_mv_row rfl rfl (by first | rfl | assumption | omega | (simp; done) | (simp; omega)) ?_
      | refine r_mv_rp rfl rfl (by first | rfl | assumption | omega | (simp; done) | (simp; omega)) ?_
      | refine r_fad_rp rfl rfl (by first | rfl | assumption | omega | (simp; done) | (simp; omega)) ?_
      | refine r_iad_row rfl rfl (by first | rfl | assumption | omega | (simp; done) | (simp; omega)) rfl (by first | rfl | assumption | omega | (simp; done) | (simp; omega)) ?_
      | refine r_skip0 rfl (by first | with_reducible rfl | assumption | decide) ?_
      | refine r_skipU0 rfl ?_
      | refine r_semF rfl rfl rfl rfl ?_
      | refine r_load_rp rfl rfl (by assumption) rfl ?_
      | refine r_len_row rfl rfl (by first | rfl | assumption | omega | (simp; done) | (simp; omega)) ?_
      | refine run_seq ?_
      | refine run_reg ?_
      | refine run_regd rfl ?_
      | refine run_regs rfl ?_
      | refine fin_far rfl ?_
      | refine run_block ?_
      | refine run_skip ?_
      | refine run_exit ?_
      | refine run_ret ?_
      | refine fin_seq ?_
      | refine fin_seq_e ?_
      | refine fin_seq_r ?_
      | refine fin_blk ?_
      | refine fin_blk_e ?_
      | refine fin_blk_x rfl ?_
      | refine fin_blk_r ?_
      | refine fin_loop_e ?_
      | refine fin_loop_r ?_
      | refine run_cond_t rfl (by first | with_reducible rfl | assumption | decide) ?_
      | refine run_cond_f rfl (by first | with_reducible rfl | assumption | decide) ?_)
    refine fin_loop (run_weak (weak_S ?_ ?_) hnext)
    · exact ⟨rfl, rfl, rfl, trivial⟩
    · exact ⟨rfl, trivial⟩
  · clear ih
    repeat (first
      | refine r_mv_p rfl ?_
      | refine r_do rfl (by first | with_reducible rfl | assumption | decide) ?_
      | refine r_skip rfl (by first | with_reducible rfl | assumption | decide) ?_
      | refine r_skipU rfl ?_
      | refine r_fad rfl rfl ?_
      | refine r_add rfl rfl (by omega) ?_
      | refine r_sub rfl rfl (by omega) ?_
      | refine r_loadAll rfl (by first | rfl | assumption) ?_
      | refine r_loadAllB rfl rfl (by first | rfl | assumption) ?_
      | refine r_pick_t rfl (by first | with_reducible rfl | assumption | decide) rfl rfl ?_
      | refine r_pick_f rfl (by first | with_reducible rfl | assumption | decide) rfl rfl ?_
      | refine r_sem rfl rfl rfl rfl ?_
      | refine r_nil ?_
      | refine r_iad rfl rfl (by omega) (by assumption) (by first | rfl | assumption | omega | (simp; done) | (simp; omega)) ?_
      | refine r_storeAll rfl rfl rfl rfl rfl rfl ?_
      | refine r_store rfl rfl rfl rfl (by decide) ?_
      | refine r_store rfl rfl rfl rfl (And.intro rfl (Nat.le_of_ble_eq_true rfl)) ?_
      | refine r_alloc rfl ?_
      | refine r_box rfl rfl rfl ?_
      | refine r_bsl rfl rfl rfl rfl rfl rfl ?_
      | refine r_bsl1 rfl (by assumption) rfl ?_
      | refine r_mkmap rfl ?_
      | refine r_mv_nil rfl ?_
      | refine r_mv_own rfl rfl ?_
      | refine r_mv_mp rfl rfl ?_
      | refine r_mv_row rfl rfl (by first | rfl | assumption | omega | (simp; done) | (simp; omega)) ?_
      | refine r_mv_rp rfl rfl (by first | rfl | assumption | omega | (simp; done) | (simp; omega)) ?_
      | refine r_fad_rp rfl rfl (by first | rfl | assumption | omega | (simp; done) | (simp; omega)) ?_
      | refine r_iad_row rfl rfl (by first | rfl | assumption | omega | (simp; done) | (simp; omega)) rfl (by first | rfl | assumption | omega | (simp; done) | (simp; omega)) ?_
      | refine r_skip0 rfl (by first | with_reducible rfl | assumption | decide) ?_
      | refine r_skipU0 rfl ?_
      | refine r_semF rfl rfl rfl rfl ?_
      | refine r_load_rp rfl rfl (by assumption) rfl ?_
      | refine r_len_row rfl rfl (by first | rfl | assumption | omega | (simp; done) | (simp; omega)) ?_
      | refine run_seq ?_
      | refine run_reg ?_
      | refine run_regd rfl ?_
      | refine run_regs rfl ?_
      | refine fin_far rfl ?_
      | refine run_block ?_
      | refine run_skip ?_
      | refine run_exit ?_
      | refine run_ret ?_
      | refine fin_seq ?_
      | refine fin_seq_e ?_
      | refine fin_seq_r ?_
      | refine fin_blk ?_
      | refine fin_blk_e ?_
      | refine fin_blk_x rfl ?_
      | refine fin_blk_r ?_
      | refine fin_loop_e ?_
      | refine fin_loop_r ?_
      | refine run_cond_t rfl (by first | with_reducible rfl | assumption | decide) ?_
      | refine run_cond_f rfl (by first | with_reducible rfl | assumption | decide) ?_)
    exact fin_lentv rfl rfl rfl
theorem closure16 (x y : Pair) : Ret Try.prog 16 [.agg y.enc, .ref x.enc 0] (.v (.bool (decide (x.n ≤ y.n)))) := by
  refine ret16 rfl fun hbd => ?_
  unfold c16
  repeat (first
    | refine r_mv_p rfl ?_
    | refine r_do rfl (by first | with_reducible rfl | assumption | decide) ?_
    | refine r_skip rfl (by first | with_reducible rfl | assumption | decide) ?_
    | refine r_skipU rfl ?_
    | refine r_fad rfl rfl ?_
    | refine r_add rfl rfl (by omega) ?_
    | refine r_sub rfl rfl (by omega) ?_
    | refine r_loadAll rfl (by first | rfl | assumption) ?_
    | refine r_loadAllB rfl rfl (by first | rfl | assumption) ?_
    | refine r_pick_t rfl (by first | with_reducible rfl | assumption | decide) rfl rfl ?_
    | refine r_pick_f rfl (by first | with_reducible rfl | assumption | decide) rfl rfl ?_
    | refine r_sem rfl rfl rfl rfl ?_
    | refine r_nil ?_
    | refine r_iad rfl rfl (by omega) (by assumption) (by first | rfl | assumption | omega | (simp; done) | (simp; omega)) ?_
    | refine r_storeAll rfl rfl rfl rfl rfl rfl ?_
    | refine r_store rfl rfl rfl rfl (by decide) ?_
    | refine r_store rfl rfl rfl rfl (And.intro rfl (Nat.le_of_ble_eq_true rfl)) ?_
    | refine r_alloc rfl ?_
    | refine r_box rfl rfl rfl ?_
    | refine r_bsl rfl rfl rfl rfl rfl rfl ?_
    | refine r_bsl1 rfl (by assumption) rfl ?_
    | refine r_mkmap rfl ?_
    | refine r_mv_nil rfl ?_
    | refine r_mv_own rfl rfl ?_
    | refine r_mv_mp rfl rfl ?_
    | refine r_mv_row rfl rfl (by first | rfl | assumption | omega | (simp; done) | (simp; omega)) ?_
    | refine r_mv_rp rfl rfl (by first | rfl | assumption | omega | (simp; done) | (simp; omega)) ?_
    | refine r_fad_rp rfl rfl (by first | rfl | assumption | omega | (simp; done) | (simp; omega)) ?_
    | refine r_iad_row rfl rfl (by first | rfl | assumption | omega | (simp; done) | (simp; omega)) rfl (by first | rfl | assumption | omega | (simp; done) | (simp; omega)) ?_
    | refine r_skip0 rfl (by first | with_reducible rfl | assumption | decide) ?_
    | refine r_skipU0 rfl ?_
    | refine r_semF rfl rfl rfl rfl ?_
    | refine r_load_rp rfl rfl (by assumption) rfl ?_
    | refine r_len_row rfl rfl (by first | rfl | assumption | omega | (simp; done) | (simp; omega)) ?_
    | refine run_seq ?_
    | refine run_reg ?_
    | refine run_regd rfl ?_
    | refine run_regs rfl ?_
    | refine fin_far rfl ?_
    | refine run_block ?_
    | refine run_skip ?_
    | refine run_exit ?_
    | refine run_ret ?_
    | refine fin_seq ?_
    | refine fin_seq_e ?_
    | refine fin_seq_r ?_
    | refine fin_blk ?_
    | refine fin_blk_e ?_
    | refine fin_blk_x rfl ?_
    | refine fin_blk_r ?_
    | refine fin_loop_e ?_
    | refine fin_loop_r ?_
    | refine run_cond_t rfl (by first | with_reducible rfl | assumption | decide) ?_
    | refine run_cond_f rfl (by first | with_reducible rfl | assumption | decide) ?_)
  exact fin_out rfl rfl
end Go.Fw
