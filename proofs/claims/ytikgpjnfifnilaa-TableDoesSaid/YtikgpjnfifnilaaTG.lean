/-
  The laws of tables that ask one answer: what is found, what a list is with a thing put, and without it.
-/
import Derived.Test.YtikgpjnfifnilaaTF
import Derived.Test.YtikgpjnfifnilaaIrU
set_option linter.unusedVariables false
set_option linter.unusedSimpArgs false
set_option maxRecDepth 10000
namespace Go.Fw
open Go.Proofs

theorem isOne29 (x : Pair) : Ret Try.prog 29 [.agg x.enc] (.v (.bool (decide (x.n = 1)))) := by
  refine ret29 rfl fun hbd => ?_
  unfold c29
  repeat (first
    | refine r_mv_p rfl ?_
    | refine r_do rfl (by first | with_reducible rfl | assumption | decide) ?_
    | refine r_skip rfl (by first | with_reducible rfl | assumption | decide) ?_
    | refine r_skipU rfl ?_
    | refine r_fad rfl rfl ?_
    | refine r_add rfl rfl (by omega) ?_
    | refine r_sub rfl rfl (by omega) ?_
    | refine r_loadAll rfl (by first | rfl | assumption) ?_
    | refine r_loadAllB rfl rfl (by first | rfl | assumption) ?_
    | refine r_pick_t rfl (by first | with_reducible rfl | assumption | decide) rfl rfl ?_
    | refine r_pick_f rfl (by first | with_reducible rfl | assumption | decide) rfl rfl ?_
    | refine r_sem rfl rfl rfl rfl ?_
    | refine r_nil ?_
    | refine r_iad rfl rfl (by omega) (by assumption) (by first | rfl | assumption | omega | (simp; done) | (simp; omega)) ?_
    | refine r_storeAll rfl rfl rfl rfl rfl rfl ?_
    | refine r_store rfl rfl rfl rfl (by decide) ?_
    | refine r_store rfl rfl rfl rfl (And.intro rfl (Nat.le_of_ble_eq_true rfl)) ?_
    | refine r_alloc rfl ?_
    | refine r_box rfl rfl rfl ?_
    | refine r_bsl rfl rfl rfl rfl rfl rfl ?_
    | refine r_bsl1 rfl (by assumption) rfl ?_
    | refine r_mkmap rfl ?_
    | refine r_mv_nil rfl ?_
    | refine r_mv_own rfl rfl ?_
    | refine r_mv_mp rfl rfl ?_
    | refine r_mv_row rfl rfl (by first | rfl | assumption | omega | (simp; done) | (simp; omega)) ?_
    | refine r_mv_rp rfl rfl (by first | rfl | assumption | omega | (simp; done) | (simp; omega)) ?_
    | refine r_fad_rp rfl rfl (by first | rfl | assumption | omega | (simp; done) | (simp; omega)) ?_
    | refine r_iad_row rfl rfl (by first | rfl | assumption | omega | (simp; done) | (simp; omega)) rfl (by first | rfl | assumption | omega | (simp; done) | (simp; omega)) ?_
    | refine r_skip0 rfl (by first | with_reducible rfl | assumption | decide) ?_
    | refine r_skipU0 rfl ?_
    | refine r_semF rfl rfl rfl rfl ?_
    | refine r_load_rp rfl rfl (by assumption) rfl ?_
    | refine r_len_row rfl rfl (by first | rfl | assumption | omega | (simp; done) | (simp; omega)) ?_
    | refine run_seq ?_
    | refine run_reg ?_
    | refine run_regd rfl ?_
    | refine run_regs rfl ?_
    | refine fin_far rfl ?_
    | refine run_block ?_
    | refine run_skip ?_
    | refine run_exit ?_
    | refine run_ret ?_
    | refine fin_seq ?_
    | refine fin_seq_e ?_
    | refine fin_seq_r ?_
    | refine fin_blk ?_
    | refine fin_blk_e ?_
    | refine fin_blk_x rfl ?_
    | refine fin_blk_r ?_
    | refine fin_loop_e ?_
    | refine fin_loop_r ?_
    | refine run_cond_t rfl (by first | with_reducible rfl | assumption | decide) ?_
    | refine run_cond_f rfl (by first | with_reducible rfl | assumption | decide) ?_)
  exact fin_out rfl rfl

/-! ### The chapter's examples -/
def sa : Str := ⟨#[97]⟩
def sb : Str := ⟨#[98]⟩
def sc : Str := ⟨#[99]⟩
def sd : Str := ⟨#[100]⟩
def ea : List Pair := [⟨sa, 1⟩, ⟨sd, 1⟩]
def eb : List Pair := [⟨sa, 1⟩, ⟨sc, 1⟩, ⟨sd, 1⟩]
def ec : List Pair := [⟨sa, 2⟩, ⟨sc, 1⟩, ⟨sd, 1⟩]
def ed : List Pair := [⟨sc, 1⟩, ⟨sd, 1⟩]
theorem e1 : putL pairCmp ⟨sc, 1⟩ ea = eb := by kernel_rfl
theorem e2 : putL pairCmp ⟨sa, 2⟩ eb = ec := by kernel_rfl
theorem e3 : dropL pairCmp ⟨sa, 0⟩ ec = ed := by kernel_rfl
theorem e4 : findB (eqQ pairCmp ⟨sb, 0⟩) ec = false := by kernel_rfl
theorem lac : slt sa sc = true := by kernel_rfl
theorem lcd : slt sc sd = true := by kernel_rfl
theorem e5 : risesL ec := by
  intro j hj a b ha hb
  have : j = 0 ∨ j = 1 := by simp [ec] at hj; omega
  rcases this with rfl | rfl
  · simp [ec] at ha hb; subst ha; subst hb; exact lac
  · simp [ec] at ha hb; subst ha; subst hb; exact lcd
theorem e6 : ec.filter (fun x => decide (x.n = 1)) = ed := by decide +kernel
theorem pl (x : Pair) (xs ys : List Pair) (sp : List (List PV)) (hb : (xs.length + 1) * 24 ≤ 140737488355328) (h : putL pairCmp x xs = ys) : Ret Try.prog 12 [.agg [.clo 22 []], .sl (xs.map Pair.enc) sp, .agg x.enc] (.sl (ys.map Pair.enc) []) := by
  rw [← h]; exact putR12 Pair.enc (fun _ => rfl) 22 pairCmp order22 x xs sp hb
theorem fn (x : Pair) (xs : List Pair) (sp : List (List PV)) (h : findB (eqQ pairCmp x) xs = false) : Ret Try.prog 10 [.agg [.clo 22 []], .sl (xs.map Pair.enc) sp, .agg x.enc] (.tup [.v (.int .i64 0), .v (.bool false)]) := by
  have h0 : findI (eqQ pairCmp x) xs = 0 := by
    have : ¬ 0 ≤ firstI (eqQ pairCmp x) xs 0 := by simpa [findB] using h
    rw [findI, if_neg this]
  have := find10 Pair.enc (fun _ => rfl) 22 pairCmp order22 x xs sp
  rwa [h, h0] at this
theorem dl (x : Pair) (xs ys : List Pair) (sp : List (List PV)) (hb : xs.length * 24 ≤ 140737488355328) (h : dropL pairCmp x xs = ys) : Ret Try.prog 14 [.agg [.clo 22 []], .sl (xs.map Pair.enc) sp, .agg x.enc] (.sl (ys.map Pair.enc) []) := by
  rw [← h]; exact dropR14 Pair.enc (fun _ => rfl) 22 pairCmp order22 x xs sp hb
theorem sm (xs : List Pair) (s1 s2 : List (List PV)) : Ret Try.prog 17 [.sl (xs.map Pair.enc) s1, .sl (xs.map Pair.enc) s2] (.v (.bool true)) := by
  have := same17 xs xs s1 s2
  simpa using this
theorem rs (xs : List Pair) (sp : List (List PV)) (h : risesL xs) : Ret Try.prog 19 [.agg [.clo 22 []], .sl (xs.map Pair.enc) sp] (.v (.bool true)) := by
  have := rises19 xs sp
  rwa [risesB_true h] at this
theorem kp : Ret Try.prog 15 [.sl (ec.map Pair.enc) [], .clo 29 []] (.sl (ed.map Pair.enc) []) := by
  have := (keep15 29 [] (fun x => decide (x.n = 1)) ec [] (fun x _ => isOne29 x) (by decide)).ret
  rwa [e6] at this
theorem awake21 : Ret Try.prog 21 [] (.v (.bool true)) := by
  refine ret21 rfl fun hbd => ?_
  unfold c21
  repeat (first
    | refine r_call rfl (pairs9) ?_
    | refine r_callF rfl rfl rfl (pl ⟨sc, 1⟩ ea eb [] (by decide) e1) ?_
    | refine r_call rfl (pl ⟨sa, 2⟩ eb ec [] (by decide) e2) ?_
    | refine r_call rfl (fn ⟨sb, 0⟩ ec [] e4) ?_
    | refine r_callF rfl rfl rfl (sm ec [] []) ?_
    | refine r_call rfl (dl ⟨sa, 0⟩ ec ed [] (by decide) e3) ?_
    | refine r_call rfl (sm ed [] []) ?_
    | refine r_call rfl (rs ec [] e5) ?_
    | refine r_call rfl (kp) ?_
    | refine r_mv_p rfl ?_
    | refine r_do rfl (by first | with_reducible rfl | assumption | decide) ?_
    | refine r_skip rfl (by first | with_reducible rfl | assumption | decide) ?_
    | refine r_skipU rfl ?_
    | refine r_fad rfl rfl ?_
    | refine r_add rfl rfl (by omega) ?_
    | refine r_sub rfl rfl (by omega) ?_
    | refine r_loadAll rfl (by first | rfl | assumption) ?_
    | refine r_loadAllB rfl rfl (by first | rfl | assumption) ?_
    | refine r_pick_t rfl (by first | with_reducible rfl | assumption | decide) rfl rfl ?_
    | refine r_pick_f rfl (by first | with_reducible rfl | assumption | decide) rfl rfl ?_
    | refine r_sem rfl rfl rfl rfl ?_
    | refine r_nil ?_
    | refine r_iad rfl rfl (by omega) (by assumption) (by first | rfl | assumption | omega | (simp; done) | (simp; omega)) ?_
    | refine r_storeAll rfl rfl rfl rfl rfl rfl ?_
    | refine r_store rfl rfl rfl rfl (by decide) ?_
    | refine r_store rfl rfl rfl rfl (And.intro rfl (Nat.le_of_ble_eq_true rfl)) ?_
    | refine r_alloc rfl ?_
    | refine r_box rfl rfl rfl ?_
    | refine r_bsl rfl rfl rfl rfl rfl rfl ?_
    | refine r_bsl1 rfl (by assumption) rfl ?_
    | refine r_mkmap rfl ?_
    | refine r_mv_nil rfl ?_
    | refine r_mv_own rfl rfl ?_
    | refine r_mv_mp rfl rfl ?_
    | refine r_mv_row rfl rfl (by first | rfl | assumption | omega | (simp; done) | (simp; omega)) ?_
    | refine r_mv_rp rfl rfl (by first | rfl | assumption | omega | (simp; done) | (simp; omega)) ?_
    | refine r_fad_rp rfl rfl (by first | rfl | assumption | omega | (simp; done) | (simp; omega)) ?_
    | refine r_iad_row rfl rfl (by first | rfl | assumption | omega | (simp; done) | (simp; omega)) rfl (by first | rfl | assumption | omega | (simp; done) | (simp; omega)) ?_
    | refine r_skip0 rfl (by first | with_reducible rfl | assumption | decide) ?_
    | refine r_skipU0 rfl ?_
    | refine r_semF rfl rfl rfl rfl ?_
    | refine r_load_rp rfl rfl (by assumption) rfl ?_
    | refine r_len_row rfl rfl (by first | rfl | assumption | omega | (simp; done) | (simp; omega)) ?_
    | refine run_seq ?_
    | refine run_reg ?_
    | refine run_regd rfl ?_
    | refine run_regs rfl ?_
    | refine fin_far rfl ?_
    | refine run_block ?_
    | refine run_skip ?_
    | refine run_exit ?_
    | refine run_ret ?_
    | refine fin_seq ?_
    | refine fin_seq_e ?_
    | refine fin_seq_r ?_
    | refine fin_blk ?_
    | refine fin_blk_e ?_
    | refine fin_blk_x rfl ?_
    | refine fin_blk_r ?_
    | refine fin_loop_e ?_
    | refine fin_loop_r ?_
    | refine run_cond_t rfl (by first | with_reducible rfl | assumption | decide) ?_
    | refine run_cond_f rfl (by first | with_reducible rfl | assumption | decide) ?_)
  exact fin_out rfl rfl

/-! ### The laws -/
theorem law_TableFinds (l : List Pair) (sp : List (List PV)) (x : Pair) : Ret Try.prog 6 [.sl (l.map Pair.enc) sp, .agg x.enc] (.v (.bool true)) := by
  refine ret6 rfl fun hbd => ?_
  unfold c6
  have hf := find10 Pair.enc (fun _ => rfl) 22 pairCmp order22 x l sp
  rw [nmQ_eq] at hf
  have h1 : decide (findI (nmQ x) l = findI (nmQ x) l) = true := by simp
  have h2 : (false != decide (findB (nmQ x) l = findB (nmQ x) l)) = true := by simp
  repeat (first
    | refine r_call rfl (pairs9) ?_
    | refine r_call rfl (hf) ?_
    | refine r_call rfl (refFind11 x l sp) ?_
    | refine r_call rfl (awake21) ?_
    | refine r_mv_p rfl ?_
    | refine r_do rfl (by first | with_reducible rfl | assumption | decide) ?_
    | refine r_skip rfl (by first | with_reducible rfl | assumption | decide) ?_
    | refine r_skipU rfl ?_
    | refine r_fad rfl rfl ?_
    | refine r_add rfl rfl (by omega) ?_
    | refine r_sub rfl rfl (by omega) ?_
    | refine r_loadAll rfl (by first | rfl | assumption) ?_
    | refine r_loadAllB rfl rfl (by first | rfl | assumption) ?_
    | refine r_pick_t rfl (by first | with_reducible rfl | assumption | decide) rfl rfl ?_
    | refine r_pick_f rfl (by first | with_reducible rfl | assumption | decide) rfl rfl ?_
    | refine r_sem rfl rfl rfl rfl ?_
    | refine r_nil ?_
    | refine r_iad rfl rfl (by omega) (by assumption) (by first | rfl | assumption | omega | (simp; done) | (simp; omega)) ?_
    | refine r_storeAll rfl rfl rfl rfl rfl rfl ?_
    | refine r_store rfl rfl rfl rfl (by decide) ?_
    | refine r_store rfl rfl rfl rfl (And.intro rfl (Nat.le_of_ble_eq_true rfl)) ?_
    | refine r_alloc rfl ?_
    | refine r_box rfl rfl rfl ?_
    | refine r_bsl rfl rfl rfl rfl rfl rfl ?_
    | refine r_bsl1 rfl (by assumption) rfl ?_
    | refine r_mkmap rfl ?_
    | refine r_mv_nil rfl ?_
    | refine r_mv_own rfl rfl ?_
    | refine r_mv_mp rfl rfl ?_
    | refine r_mv_row rfl rfl (by first | rfl | assumption | omega | (simp; done) | (simp; omega)) ?_
    | refine r_mv_rp rfl rfl (by first | rfl | assumption | omega | (simp; done) | (simp; omega)) ?_
    | refine r_fad_rp rfl rfl (by first | rfl | assumption | omega | (simp; done) | (simp; omega)) ?_
    | refine r_iad_row rfl rfl (by first | rfl | assumption | omega | (simp; done) | (simp; omega)) rfl (by first | rfl | assumption | omega | (simp; done) | (simp; omega)) ?_
    | refine r_skip0 rfl (by first | with_reducible rfl | assumption | decide) ?_
    | refine r_skipU0 rfl ?_
    | refine r_semF rfl rfl rfl rfl ?_
    | refine r_load_rp rfl rfl (by assumption) rfl ?_
    | refine r_len_row rfl rfl (by first | rfl | assumption | omega | (simp; done) | (simp; omega)) ?_
    | refine run_seq ?_
    | refine run_reg ?_
    | refine run_regd rfl ?_
    | refine run_regs rfl ?_
    | refine fin_far rfl ?_
    | refine run_block ?_
    | refine run_skip ?_
    | refine run_exit ?_
    | refine run_ret ?_
    | refine fin_seq ?_
    | refine fin_seq_e ?_
    | refine fin_seq_r ?_
    | refine fin_blk ?_
    | refine fin_blk_e ?_
    | refine fin_blk_x rfl ?_
    | refine fin_blk_r ?_
    | refine fin_loop_e ?_
    | refine fin_loop_r ?_
    | refine run_cond_t rfl (by first | with_reducible rfl | assumption | decide) ?_
    | refine run_cond_f rfl (by first | with_reducible rfl | assumption | decide) ?_)
  exact fin_out rfl rfl
theorem law_TablePuts (l : List Pair) (sp : List (List PV)) (x : Pair) (hb : (l.length + 1) * 24 ≤ 140737488355328) : Ret Try.prog 7 [.sl (l.map Pair.enc) sp, .agg x.enc] (.v (.bool true)) := by
  refine ret7 rfl fun hbd => ?_
  unfold c7
  repeat (first
    | refine r_call rfl (pairs9) ?_
    | refine r_call rfl (putR12 Pair.enc (fun _ => rfl) 22 pairCmp order22 x l sp hb) ?_
    | refine r_call rfl ((refPut13 x l sp hb).ret) ?_
    | refine r_call rfl (sm (putL pairCmp x l) [] []) ?_
    | refine r_call rfl (awake21) ?_
    | refine r_mv_p rfl ?_
    | refine r_do rfl (by first | with_reducible rfl | assumption | decide) ?_
    | refine r_skip rfl (by first | with_reducible rfl | assumption | decide) ?_
    | refine r_skipU rfl ?_
    | refine r_fad rfl rfl ?_
    | refine r_add rfl rfl (by omega) ?_
    | refine r_sub rfl rfl (by omega) ?_
    | refine r_loadAll rfl (by first | rfl | assumption) ?_
    | refine r_loadAllB rfl rfl (by first | rfl | assumption) ?_
    | refine r_pick_t rfl (by first | with_reducible rfl | assumption | decide) rfl rfl ?_
    | refine r_pick_f rfl (by first | with_reducible rfl | assumption | decide) rfl rfl ?_
    | refine r_sem rfl rfl rfl rfl ?_
    | refine r_nil ?_
    | refine r_iad rfl rfl (by omega) (by assumption) (by first | rfl | assumption | omega | (simp; done) | (simp; omega)) ?_
    | refine r_storeAll rfl rfl rfl rfl rfl rfl ?_
    | refine r_store rfl rfl rfl rfl (by decide) ?_
    | refine r_store rfl rfl rfl rfl (And.intro rfl (Nat.le_of_ble_eq_true rfl)) ?_
    | refine r_alloc rfl ?_
    | refine r_box rfl rfl rfl ?_
    | refine r_bsl rfl rfl rfl rfl rfl rfl ?_
    | refine r_bsl1 rfl (by assumption) rfl ?_
    | refine r_mkmap rfl ?_
    | refine r_mv_nil rfl ?_
    | refine r_mv_own rfl rfl ?_
    | refine r_mv_mp rfl rfl ?_
    | refine r_mv_row rfl rfl (by first | rfl | assumption | omega | (simp; done) | (simp; omega)) ?_
    | refine r_mv_rp rfl rfl (by first | rfl | assumption | omega | (simp; done) | (simp; omega)) ?_
    | refine r_fad_rp rfl rfl (by first | rfl | assumption | omega | (simp; done) | (simp; omega)) ?_
    | refine r_iad_row rfl rfl (by first | rfl | assumption | omega | (simp; done) | (simp; omega)) rfl (by first | rfl | assumption | omega | (simp; done) | (simp; omega)) ?_
    | refine r_skip0 rfl (by first | with_reducible rfl | assumption | decide) ?_
    | refine r_skipU0 rfl ?_
    | refine r_semF rfl rfl rfl rfl ?_
    | refine r_load_rp rfl rfl (by assumption) rfl ?_
    | refine r_len_row rfl rfl (by first | rfl | assumption | omega | (simp; done) | (simp; omega)) ?_
    | refine run_seq ?_
    | refine run_reg ?_
    | refine run_regd rfl ?_
    | refine run_regs rfl ?_
    | refine fin_far rfl ?_
    | refine run_block ?_
    | refine run_skip ?_
    | refine run_exit ?_
    | refine run_ret ?_
    | refine fin_seq ?_
    | refine fin_seq_e ?_
    | refine fin_seq_r ?_
    | refine fin_blk ?_
    | refine fin_blk_e ?_
    | refine fin_blk_x rfl ?_
    | refine fin_blk_r ?_
    | refine fin_loop_e ?_
    | refine fin_loop_r ?_
    | refine run_cond_t rfl (by first | with_reducible rfl | assumption | decide) ?_
    | refine run_cond_f rfl (by first | with_reducible rfl | assumption | decide) ?_)
  exact fin_out rfl rfl
theorem law_TableDrops (l : List Pair) (sp : List (List PV)) (x : Pair) (hb : l.length * 24 ≤ 140737488355328) : Ret Try.prog 8 [.sl (l.map Pair.enc) sp, .agg x.enc] (.v (.bool true)) := by
  refine ret8 rfl fun hbd => ?_
  unfold c8
  repeat (first
    | refine r_call rfl (pairs9) ?_
    | refine r_call rfl (dropR14 Pair.enc (fun _ => rfl) 22 pairCmp order22 x l sp hb) ?_
    | refine r_call rfl ((refDrop18 x l sp hb).ret) ?_
    | refine r_call rfl (sm (dropL pairCmp x l) [] []) ?_
    | refine r_call rfl (awake21) ?_
    | refine r_mv_p rfl ?_
    | refine r_do rfl (by first | with_reducible rfl | assumption | decide) ?_
    | refine r_skip rfl (by first | with_reducible rfl | assumption | decide) ?_
    | refine r_skipU rfl ?_
    | refine r_fad rfl rfl ?_
    | refine r_add rfl rfl (by omega) ?_
    | refine r_sub rfl rfl (by omega) ?_
    | refine r_loadAll rfl (by first | rfl | assumption) ?_
    | refine r_loadAllB rfl rfl (by first | rfl | assumption) ?_
    | refine r_pick_t rfl (by first | with_reducible rfl | assumption | decide) rfl rfl ?_
    | refine r_pick_f rfl (by first | with_reducible rfl | assumption | decide) rfl rfl ?_
    | refine r_sem rfl rfl rfl rfl ?_
    | refine r_nil ?_
    | refine r_iad rfl rfl (by omega) (by assumption) (by first | rfl | assumption | omega | (simp; done) | (simp; omega)) ?_
    | refine r_storeAll rfl rfl rfl rfl rfl rfl ?_
    | refine r_store rfl rfl rfl rfl (by decide) ?_
    | refine r_store rfl rfl rfl rfl (And.intro rfl (Nat.le_of_ble_eq_true rfl)) ?_
    | refine r_alloc rfl ?_
    | refine r_box rfl rfl rfl ?_
    | refine r_bsl rfl rfl rfl rfl rfl rfl ?_
    | refine r_bsl1 rfl (by assumption) rfl ?_
    | refine r_mkmap rfl ?_
    | refine r_mv_nil rfl ?_
    | refine r_mv_own rfl rfl ?_
    | refine r_mv_mp rfl rfl ?_
    | refine r_mv_row rfl rfl (by first | rfl | assumption | omega | (simp; done) | (simp; omega)) ?_
    | refine r_mv_rp rfl rfl (by first | rfl | assumption | omega | (simp; done) | (simp; omega)) ?_
    | refine r_fad_rp rfl rfl (by first | rfl | assumption | omega | (simp; done) | (simp; omega)) ?_
    | refine r_iad_row rfl rfl (by first | rfl | assumption | omega | (simp; done) | (simp; omega)) rfl (by first | rfl | assumption | omega | (simp; done) | (simp; omega)) ?_
    | refine r_skip0 rfl (by first | with_reducible rfl | assumption | decide) ?_
    | refine r_skipU0 rfl ?_
    | refine r_semF rfl rfl rfl rfl ?_
    | refine r_load_rp rfl rfl (by assumption) rfl ?_
    | refine r_len_row rfl rfl (by first | rfl | assumption | omega | (simp; done) | (simp; omega)) ?_
    | refine run_seq ?_
    | refine run_reg ?_
    | refine run_regd rfl ?_
    | refine run_regs rfl ?_
    | refine fin_far rfl ?_
    | refine run_block ?_
    | refine run_skip ?_
    | refine run_exit ?_
    | refine run_ret ?_
    | refine fin_seq ?_
    | refine fin_seq_e ?_
    | refine fin_seq_r ?_
    | refine fin_blk ?_
    | refine fin_blk_e ?_
    | refine fin_blk_x rfl ?_
    | refine fin_blk_r ?_
    | refine fin_loop_e ?_
    | refine fin_loop_r ?_
    | refine run_cond_t rfl (by first | with_reducible rfl | assumption | decide) ?_
    | refine run_cond_f rfl (by first | with_reducible rfl | assumption | decide) ?_)
  exact fin_out rfl rfl
end Go.Fw
