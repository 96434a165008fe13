/-
  The law TableDoes.
-/
import Derived.Test.YtikgpjnfifnilaaTK
set_option linter.unusedVariables false
set_option linter.unusedSimpArgs false
set_option maxRecDepth 10000
namespace Go.Fw
open Go.Proofs

theorem res_row {l : List (Nat × T)} {m : List (Nat × Option Own)} {n len ty es : Nat} {xs : List (List PV)} {fz : Bool} {x : Opd} (hx : (S l m).ev x = .row n len) (ho : ol m n = some (.row ty es xs fz)) (hle : len ≤ xs.length) : (S l m).res x = some (.row n len es xs) := by
  simp only [St.res, hx, lookT]
  rw [ho]; simp [hle]
theorem resL_cons {s : St} {x : Opd} {xs : List Opd} {a : RA} {ys : List RA} (h : s.res x = some a) (h2 : s.resL xs = some ys) : s.resL (x :: xs) = some (a :: ys) := by
  simp only [St.resL, h, h2]; rfl
def behindE : List PV := [.v (.string ⟨#[98, 101, 104, 105, 110, 100]⟩), .v (.int .i64 0)]
def writtenE : List PV := [.v (.string ⟨#[119, 114, 105, 116, 116, 101, 110]⟩), .v (.int .i64 0)]
def geN (x y : Pair) : Bool := decide (x.n ≤ y.n)
theorem filter_at {α : Type} (q : α → Bool) (l : List α) (a : Nat) (ha : a < l.length) (hq : q l[a] = true) : (l.filter q)[((l.take a).filter q).length]? = some l[a] ∧ ((l.take a).filter q).length < (l.filter q).length ∧ ((l.take (a + 1)).filter q).length = ((l.take a).filter q).length + 1 := by
  have h1 : l = l.take a ++ l[a] :: l.drop (a + 1) := by rw [← List.drop_eq_getElem_cons ha, List.take_append_drop]
  have h2 : l.filter q = (l.take a).filter q ++ l[a] :: (l.drop (a + 1)).filter q := by
    conv => lhs; rw [h1]
    rw [List.filter_append, List.filter_cons, if_pos hq]
  have h3 : l.take (a + 1) = l.take a ++ [l[a]] := by simp
  refine ⟨?_, ?_, ?_⟩
  · rw [h2, List.getElem?_append_right (Nat.le_refl _), Nat.sub_self]; rfl
  · rw [h2, List.length_append, List.length_cons]; omega
  · rw [h3, List.filter_append, List.length_append]; simp [hq]
theorem filter_not {α : Type} (q : α → Bool) (l : List α) (a : Nat) (ha : a < l.length) (hq : q l[a] = false) : ((l.take (a + 1)).filter q).length = ((l.take a).filter q).length := by
  have h3 : l.take (a + 1) = l.take a ++ [l[a]] := by simp
  rw [h3, List.filter_append]; simp [hq]
theorem putL_ne (x : Pair) (l : List Pair) : putL pairCmp x l ≠ [] := by
  intro e
  have := put_len (x := x) (xs := l)
  rw [e] at this
  split at this
  · rename_i hb
    obtain ⟨k, _, hk⟩ := findB_lt hb
    simp at this; omega
  · simp at this

set_option maxHeartbeats 16000000 in
theorem law_TableDoesA (l : List Pair) (sp : List (List PV)) (x : Pair) (hb : (l.length + 1) * 24 ≤ 140737488355328) (hd0 : (dropL pairCmp x l ≠ [])) : Ret Try.prog 3 [.sl (l.map Pair.enc) sp, .agg x.enc] (.v (.bool true)) := by
  refine ret3A rfl fun hbd => ?_
  clear hbd
  have hlm : (l.map Pair.enc).length = l.length := List.length_map ..
  have hb0 : l.length * 24 ≤ 140737488355328 := Nat.le_trans (Nat.mul_le_mul_right 24 (Nat.le_succ _)) hb
  have he : ∀ z ∈ l.map Pair.enc, z.length = 2 := by intro z hz; obtain ⟨y, _, rfl⟩ := List.mem_map.1 hz; rfl
  have he2 : ∀ z ∈ [behindE], z.length = 2 := by intro z hz; simp at hz; subst hz; rfl
  have hl0 : (([] : List (List PV)).length + (l.map Pair.enc).length) * 24 ≤ 140737488355328 := by rw [hlm, List.length_nil, Nat.zero_add]; exact hb0
  have hl1 : ((([] : List (List PV)) ++ l.map Pair.enc).length + [behindE].length) * 24 ≤ 140737488355328 := by rw [List.nil_append, hlm]; exact hb
  have hA : (l.map Pair.enc ++ [behindE]).take (l.map Pair.enc).length = l.map Pair.enc := by simp
  have hB : (l.map Pair.enc ++ [behindE]).drop (l.map Pair.enc).length = [behindE] := by simp
  have hj : ∀ (A C : List (List PV)), A.length ≤ (([] ++ A) ++ C).length := fun A C => by rw [List.length_append, List.length_append]; omega
  have hj2 : ∀ (A C : List (List PV)), A.length + C.length ≤ (A ++ C).length := fun A C => by rw [List.length_append]; exact Nat.le_refl _
  have hle : (l.map Pair.enc).length ≤ (l.map Pair.enc ++ [behindE]).length := by rw [List.length_append]; omega
  have cg := refFind11 x l sp
  rw [← nmQ_eq] at cg
  have cf : Ret Try.prog 10 [.agg [.clo 22 []], .sl ((l.map Pair.enc ++ [behindE]).take (l.map Pair.enc).length) ((l.map Pair.enc ++ [behindE]).drop (l.map Pair.enc).length), .agg x.enc] (.tup [.v (.int .i64 (findI (eqQ pairCmp x) l)), .v (.bool (findB (eqQ pairCmp x) l))]) := by
    rw [hA, hB]; exact find10 Pair.enc (fun _ => rfl) 22 pairCmp order22 x l [behindE]
  generalize findI (eqQ pairCmp x) l = fi at cf cg
  generalize findB (eqQ pairCmp x) l = fb at cf cg
  have hp0 := putL_ne x l
  have hpl : (putL pairCmp x l).length ≤ 9223372036854775806 := by have := (putL_length pairCmp x l).2; omega
  have hdl : (dropL pairCmp x l).length ≤ 9223372036854775806 := by have := dropL_length pairCmp x l; omega
  have cp : RetN Try.prog 12 [.agg [.clo 22 []], .sl ((l.map Pair.enc ++ [behindE]).take (l.map Pair.enc).length) ((l.map Pair.enc ++ [behindE]).drop (l.map Pair.enc).length), .agg x.enc] 24 2 ((putL pairCmp x l).map Pair.enc) := by
    rw [hA, hB]; exact put12 Pair.enc (fun _ => rfl) 22 pairCmp order22 x l [behindE] hb
  have cq := (refPut13 x l sp hb).ret
  have cd : RetN Try.prog 14 [.agg [.clo 22 []], .sl ((l.map Pair.enc ++ [behindE]).take (l.map Pair.enc).length) ((l.map Pair.enc ++ [behindE]).drop (l.map Pair.enc).length), .agg x.enc] 24 2 ((dropL pairCmp x l).map Pair.enc) := by
    rw [hA, hB]; exact drop14 Pair.enc (fun _ => rfl) 22 pairCmp order22 x l [behindE] hb0
  have ce := (refDrop18 x l sp hb0).ret
  have ck : RetN Try.prog 15 [.sl ((l.map Pair.enc ++ [behindE]).take (l.map Pair.enc).length) ((l.map Pair.enc ++ [behindE]).drop (l.map Pair.enc).length), .clo 16 [.ref x.enc 0]] 24 2 ((l.filter (geN x)).map Pair.enc) := by
    rw [hA, hB]; exact keep15 16 [.ref x.enc 0] (geN x) l [behindE] (fun y _ => closure16 x y) hb0
  have c19 : Ret Try.prog 19 [.agg [.clo 22 []], .sl ((l.map Pair.enc ++ [behindE]).take (l.map Pair.enc).length) ((l.map Pair.enc ++ [behindE]).drop (l.map Pair.enc).length)] (.v (.bool (risesB l))) := by
    rw [hA, hB]; exact rises19 l [behindE]
  have c20 := refRises20 l sp
  generalize risesB l = rb at c19 c20
  have c17 : Ret Try.prog 17 [.sl ((l.map Pair.enc ++ [behindE]).take (l.map Pair.enc).length) ((l.map Pair.enc ++ [behindE]).drop (l.map Pair.enc).length), .sl (l.map Pair.enc) sp] (.v (.bool true)) := by
    rw [hA, hB]; exact sm l [behindE] sp
  have hbe : (l.map Pair.enc ++ [behindE])[(l.map Pair.enc).length]? = some behindE := by simp
  generalize putL pairCmp x l = pP at *
  generalize dropL pairCmp x l = dD at *
  have cB : Ret Try.prog 17 [.sl ((dD.map Pair.enc).take (dD.map Pair.enc).length) ((dD.map Pair.enc).drop (dD.map Pair.enc).length), .sl (dD.map Pair.enc) []] (.v (.bool true)) := by
    rw [List.take_length, List.drop_length]; exact sm dD [] []
  unfold c3A
  repeat (first
    | refine r_call rfl (pairs9) ?_
    | refine r_appRow (fs := []) rfl rfl rfl rfl rfl rfl he hl0 (by decide) (Or.inr rfl) ?_
    | refine r_appRow (fs := [25]) rfl rfl List.length_append.symm rfl rfl rfl he2 hl1 (by decide) (Or.inr rfl) ?_
    | refine r_slcR rfl rfl (hj2 _ _) rfl (hj _ _) ?_
    | refine r_callF (resL_cons rfl (resL_cons (res_row rfl rfl hle) (resL_cons rfl rfl))) rfl rfl cf ?_
    | refine r_call rfl (cg) ?_
    | refine r_calln (resL_cons rfl (resL_cons (res_row rfl rfl hle) (resL_cons rfl rfl))) rfl rfl cp rfl ?_
    | refine r_call rfl (cq) ?_
    | refine r_calln (resL_cons rfl (resL_cons (res_row rfl rfl hle) (resL_cons rfl rfl))) rfl rfl cd rfl ?_
    | refine r_calln (resL_cons (res_row rfl rfl hle) (resL_cons rfl rfl)) rfl rfl ck rfl ?_
    | refine r_mv_p rfl ?_
    | refine r_do rfl (by first | with_reducible rfl | assumption | decide) ?_
    | refine r_skip rfl (by first | with_reducible rfl | assumption | decide) ?_
    | refine r_skipU rfl ?_
    | refine r_fad rfl rfl ?_
    | refine r_add rfl rfl (by omega) ?_
    | refine r_sub rfl rfl (by omega) ?_
    | refine r_loadAll rfl (by first | rfl | assumption) ?_
    | refine r_loadAllB rfl rfl (by first | rfl | assumption) ?_
    | refine r_pick_t rfl (by first | with_reducible rfl | assumption | decide) rfl rfl ?_
    | refine r_pick_f rfl (by first | with_reducible rfl | assumption | decide) rfl rfl ?_
    | refine r_sem rfl rfl rfl rfl ?_
    | refine r_nil ?_
    | refine r_iad rfl rfl (by omega) (by assumption) (by first | rfl | assumption | omega | (simp; done) | (simp; omega)) ?_
    | refine r_storeAll rfl rfl rfl rfl rfl rfl ?_
    | refine r_store rfl rfl rfl rfl (by decide) ?_
    | refine r_store rfl rfl rfl rfl (And.intro rfl (Nat.le_of_ble_eq_true rfl)) ?_
    | refine r_alloc rfl ?_
    | refine r_box rfl rfl rfl ?_
    | refine r_bsl rfl rfl rfl rfl rfl rfl ?_
    | refine r_bsl1 rfl (by assumption) rfl ?_
    | refine r_mkmap rfl ?_
    | refine r_mv_nil rfl ?_
    | refine r_mv_own rfl rfl ?_
    | refine r_mv_mp rfl rfl ?_
    | refine r_mv_row rfl rfl (by first | rfl | assumption | omega | (simp; done) | (simp; omega)) ?_
    | refine r_mv_rp rfl rfl (by first | rfl | assumption | omega | (simp; done) | (simp; omega)) ?_
    | refine r_fad_rp rfl rfl (by first | rfl | assumption | omega | (simp; done) | (simp; omega)) ?_
    | refine r_iad_row rfl rfl (by first | rfl | assumption | omega | (simp; done) | (simp; omega)) rfl (by first | rfl | assumption | omega | (simp; done) | (simp; omega)) ?_
    | refine r_skip0 rfl (by first | with_reducible rfl | assumption | decide) ?_
    | refine r_skipU0 rfl ?_
    | refine r_semF rfl rfl rfl rfl ?_
    | refine r_load_rp rfl rfl (by assumption) rfl ?_
    | refine r_len_row rfl rfl (by first | rfl | assumption | omega | (simp; done) | (simp; omega)) ?_
    | refine run_seq ?_
    | refine run_reg ?_
    | refine run_regd rfl ?_
    | refine run_regs rfl ?_
    | refine fin_far rfl ?_
    | refine run_block ?_
    | refine run_skip ?_
    | refine run_exit ?_
    | refine run_ret ?_
    | refine fin_seq ?_
    | refine fin_seq_e ?_
    | refine fin_seq_r ?_
    | refine fin_blk ?_
    | refine fin_blk_e ?_
    | refine fin_blk_x rfl ?_
    | refine fin_blk_r ?_
    | refine fin_loop_e ?_
    | refine fin_loop_r ?_
    | refine run_cond_t rfl (by first | with_reducible rfl | assumption | decide) ?_
    | refine run_cond_f rfl (by first | with_reducible rfl | assumption | decide) ?_)
  refine run_weak (weak_S ?_ ?_) (run_inv (fun i : Nat => S [(0, .p (.sl (l.map Pair.enc) sp)), (3, .own 3 0), (5, .row 26 (l.map Pair.enc).length), (6, .p (.v (.int .i64 fi))), (7, .p (.v (.bool fb))), (8, .p (.v (.int .i64 fi))), (9, .p (.v (.bool fb))), (10, .row 47 (pP.map Pair.enc).length), (11, .p (.sl (pP.map Pair.enc) [])), (12, .row 54 (dD.map Pair.enc).length), (13, .row 57 ((l.filter (geN x)).map Pair.enc).length), (14, .p (.v (.int .i64 (((l.take i).filter (geN x)).length : Nat)))), (15, .p (.v (.int .i64 (i : Nat))))]
    [(3, some (.box x.enc true)), (26, some (.row 24 2 (l.map Pair.enc ++ [behindE]) true)), (47, some (.row 24 2 (pP.map Pair.enc) false)), (54, some (.row 24 2 (dD.map Pair.enc) false)), (57, some (.row 24 2 ((l.filter (geN x)).map Pair.enc) false))])
    (fun i => i ≤ l.length) (fun i => l.length - i) ?_ 0 (Nat.zero_le _))
  · exact ⟨rfl, rfl, rfl, rfl, rfl, rfl, rfl, rfl, rfl, rfl, rfl, rfl, rfl, trivial⟩
  · exact ⟨rfl, rfl, rfl, rfl, rfl, trivial⟩
  clear cf cg cp cq cd ck hl0 hl1 he he2 hj hj2
  intro i hi ih
  repeat (first
    | refine r_mv_p rfl ?_
    | refine r_do rfl (by first | with_reducible rfl | assumption | decide) ?_
    | refine r_skip rfl (by first | with_reducible rfl | assumption | decide) ?_
    | refine r_skipU rfl ?_
    | refine r_fad rfl rfl ?_
    | refine r_add rfl rfl (by omega) ?_
    | refine r_sub rfl rfl (by omega) ?_
    | refine r_loadAll rfl (by first | rfl | assumption) ?_
    | refine r_loadAllB rfl rfl (by first | rfl | assumption) ?_
    | refine r_pick_t rfl (by first | with_reducible rfl | assumption | decide) rfl rfl ?_
    | refine r_pick_f rfl (by first | with_reducible rfl | assumption | decide) rfl rfl ?_
    | refine r_sem rfl rfl rfl rfl ?_
    | refine r_nil ?_
    | refine r_iad rfl rfl (by omega) (by assumption) (by first | rfl | assumption | omega | (simp; done) | (simp; omega)) ?_
    | refine r_storeAll rfl rfl rfl rfl rfl rfl ?_
    | refine r_store rfl rfl rfl rfl (by decide) ?_
    | refine r_store rfl rfl rfl rfl (And.intro rfl (Nat.le_of_ble_eq_true rfl)) ?_
    | refine r_alloc rfl ?_
    | refine r_box rfl rfl rfl ?_
    | refine r_bsl rfl rfl rfl rfl rfl rfl ?_
    | refine r_bsl1 rfl (by assumption) rfl ?_
    | refine r_mkmap rfl ?_
    | refine r_mv_nil rfl ?_
    | refine r_mv_own rfl rfl ?_
    | refine r_mv_mp rfl rfl ?_
    | refine r_mv_row rfl rfl (by first | rfl | assumption | omega | (simp; done) | (simp; omega)) ?_
    | refine r_mv_rp rfl rfl (by first | rfl | assumption | omega | (simp; done) | (simp; omega)) ?_
    | refine r_fad_rp rfl rfl (by first | rfl | assumption | omega | (simp; done) | (simp; omega)) ?_
    | refine r_iad_row rfl rfl (by first | rfl | assumption | omega | (simp; done) | (simp; omega)) rfl (by first | rfl | assumption | omega | (simp; done) | (simp; omega)) ?_
    | refine r_skip0 rfl (by first | with_reducible rfl | assumption | decide) ?_
    | refine r_skipU0 rfl ?_
    | refine r_semF rfl rfl rfl rfl ?_
    | refine r_load_rp rfl rfl (by assumption) rfl ?_
    | refine r_len_row rfl rfl (by first | rfl | assumption | omega | (simp; done) | (simp; omega)) ?_
    | refine run_seq ?_
    | refine run_reg ?_
    | refine run_regd rfl ?_
    | refine run_regs rfl ?_
    | refine fin_far rfl ?_
    | refine run_block ?_
    | refine run_skip ?_
    | refine run_exit ?_
    | refine run_ret ?_
    | refine fin_seq ?_
    | refine fin_seq_e ?_
    | refine fin_seq_r ?_
    | refine fin_blk ?_
    | refine fin_blk_e ?_
    | refine fin_blk_x rfl ?_
    | refine fin_blk_r ?_
    | refine fin_loop_e ?_
    | refine fin_loop_r ?_
    | refine run_cond_t rfl (by first | with_reducible rfl | assumption | decide) ?_
    | refine run_cond_f rfl (by first | with_reducible rfl | assumption | decide) ?_)
  refine run_cond rfl (fun h => ?_) (fun h => ?_)
  · have hlt : i < l.length := by simpa using h
    have hx : (l.map Pair.enc)[i]? = some l[i].enc := by simp [hlt]
    have hnext := ih (i + 1) hlt (by omega)
    clear ih
    cases hq : decide (x.n ≤ l[i].n) with
    | true =>
      obtain ⟨q1, q2, q3⟩ := filter_at (geN x) l i hlt hq
      rw [q3] at hnext
      have hkm : ((l.filter (geN x)).map Pair.enc).length = (l.filter (geN x)).length := List.length_map ..
      have hkx : ((l.filter (geN x)).map Pair.enc)[((l.take i).filter (geN x)).length]? = some l[i].enc := by rw [List.getElem?_map, q1]; rfl
      have hge : decide (((((l.filter (geN x)).map Pair.enc).length : Nat) : Int) ≤ ((((l.take i).filter (geN x)).length : Nat) : Int)) = false := by rw [decide_eq_false_iff_not]; omega
      have hfl : ((l.take i).filter (geN x)).length < l.length := Nat.lt_of_lt_of_le q2 (List.length_filter_le _ _)
      repeat (first
        | refine r_eqsT rfl rfl (pair_eqs l[i]) ?_
        | refine r_mv_p rfl ?_
        | refine r_do rfl (by first | with_reducible rfl | assumption | decide) ?_
        | refine r_skip rfl (by first | with_reducible rfl | assumption | decide) ?_
        | refine r_skipU rfl ?_
        | refine r_fad rfl rfl ?_
        | refine r_add rfl rfl (by omega) ?_
        | refine r_sub rfl rfl (by omega) ?_
        | refine r_loadAll rfl (by first | rfl | assumption) ?_
        | refine r_loadAllB rfl rfl (by first | rfl | assumption) ?_
        | refine r_pick_t rfl (by first | with_reducible rfl | assumption | decide) rfl rfl ?_
        | refine r_pick_f rfl (by first | with_reducible rfl | assumption | decide) rfl rfl ?_
        | refine r_sem rfl rfl rfl rfl ?_
        | refine r_nil ?_
        | refine r_iad rfl rfl (by omega) (by assumption) (by first | rfl | assumption | omega | (simp; done) | (simp; omega)) ?_
        | refine r_storeAll rfl rfl rfl rfl rfl rfl ?_
        | refine r_store rfl rfl rfl rfl (by decide) ?_
        | refine r_store rfl rfl rfl rfl (And.intro rfl (Nat.le_of_ble_eq_true rfl)) ?_
        | refine r_alloc rfl ?_
        | refine r_box rfl rfl rfl ?_
        | refine r_bsl rfl rfl rfl rfl rfl rfl ?_
        | refine r_bsl1 rfl (by assumption) rfl ?_
        | refine r_mkmap rfl ?_
        | refine r_mv_nil rfl ?_
        | refine r_mv_own rfl rfl ?_
        | refine r_mv_mp rfl rfl ?_
        | refine r_mv_row rfl rfl (by first | rfl | assumption | omega | (simp; done) | (simp; omega)) ?_
        | refine r_mv_rp rfl rfl (by first | rfl | assumption | omega | (simp; done) | (simp; omega)) ?_
        | refine r_fad_rp rfl rfl (by first | rfl | assumption | omega | (simp; done) | (simp; omega)) ?_
        | refine r_iad_row rfl rfl (by first | rfl | assumption | omega | (simp; done) | (simp; omega)) rfl (by first | rfl | assumption | omega | (simp; done) | (simp; omega)) ?_
        | refine r_skip0 rfl (by first | with_reducible rfl | assumption | decide) ?_
        | refine r_skipU0 rfl ?_
        | refine r_semF rfl rfl rfl rfl ?_
        | refine r_load_rp rfl rfl (by assumption) rfl ?_
        | refine r_len_row rfl rfl (by first | rfl | assumption | omega | (simp; done) | (simp; omega)) ?_
        | refine run_seq ?_
        | refine run_reg ?_
        | refine run_regd rfl ?_
        | refine run_regs rfl ?_
        | refine fin_far rfl ?_
        | refine run_block ?_
        | refine run_skip ?_
        | refine run_exit ?_
        | refine run_ret ?_
        | refine fin_seq ?_
        | refine fin_seq_e ?_
        | refine fin_seq_r ?_
        | refine fin_blk ?_
        | refine fin_blk_e ?_
        | refine fin_blk_x rfl ?_
        | refine fin_blk_r ?_
        | refine fin_loop_e ?_
        | refine fin_loop_r ?_
        | refine run_cond_t rfl (by first | with_reducible rfl | assumption | decide) ?_
        | refine run_cond_f rfl (by first | with_reducible rfl | assumption | decide) ?_)
      refine fin_loop (run_weak (weak_S ?_ ?_) hnext)
      · exact ⟨rfl, rfl, rfl, rfl, rfl, rfl, rfl, rfl, rfl, rfl, rfl, rfl, rfl, trivial⟩
      · exact ⟨rfl, rfl, rfl, rfl, rfl, trivial⟩
    | false =>
      have q3 := filter_not (geN x) l i hlt hq
      rw [q3] at hnext
      repeat (first
        | refine r_mv_p rfl ?_
        | refine r_do rfl (by first | with_reducible rfl | assumption | decide) ?_
        | refine r_skip rfl (by first | with_reducible rfl | assumption | decide) ?_
        | refine r_skipU rfl ?_
        | refine r_fad rfl rfl ?_
        | refine r_add rfl rfl (by omega) ?_
        | refine r_sub rfl rfl (by omega) ?_
        | refine r_loadAll rfl (by first | rfl | assumption) ?_
        | refine r_loadAllB rfl rfl (by first | rfl | assumption) ?_
        | refine r_pick_t rfl (by first | with_reducible rfl | assumption | decide) rfl rfl ?_
        | refine r_pick_f rfl (by first | with_reducible rfl | assumption | decide) rfl rfl ?_
        | refine r_sem rfl rfl rfl rfl ?_
        | refine r_nil ?_
        | refine r_iad rfl rfl (by omega) (by assumption) (by first | rfl | assumption | omega | (simp; done) | (simp; omega)) ?_
        | refine r_storeAll rfl rfl rfl rfl rfl rfl ?_
        | refine r_store rfl rfl rfl rfl (by decide) ?_
        | refine r_store rfl rfl rfl rfl (And.intro rfl (Nat.le_of_ble_eq_true rfl)) ?_
        | refine r_alloc rfl ?_
        | refine r_box rfl rfl rfl ?_
        | refine r_bsl rfl rfl rfl rfl rfl rfl ?_
        | refine r_bsl1 rfl (by assumption) rfl ?_
        | refine r_mkmap rfl ?_
        | refine r_mv_nil rfl ?_
        | refine r_mv_own rfl rfl ?_
        | refine r_mv_mp rfl rfl ?_
        | refine r_mv_row rfl rfl (by first | rfl | assumption | omega | (simp; done) | (simp; omega)) ?_
        | refine r_mv_rp rfl rfl (by first | rfl | assumption | omega | (simp; done) | (simp; omega)) ?_
        | refine r_fad_rp rfl rfl (by first | rfl | assumption | omega | (simp; done) | (simp; omega)) ?_
        | refine r_iad_row rfl rfl (by first | rfl | assumption | omega | (simp; done) | (simp; omega)) rfl (by first | rfl | assumption | omega | (simp; done) | (simp; omega)) ?_
        | refine r_skip0 rfl (by first | with_reducible rfl | assumption | decide) ?_
        | refine r_skipU0 rfl ?_
        | refine r_semF rfl rfl rfl rfl ?_
        | refine r_load_rp rfl rfl (by assumption) rfl ?_
        | refine r_len_row rfl rfl (by first | rfl | assumption | omega | (simp; done) | (simp; omega)) ?_
        | refine run_seq ?_
        | refine run_reg ?_
        | refine run_regd rfl ?_
        | refine run_regs rfl ?_
        | refine fin_far rfl ?_
        | refine run_block ?_
        | refine run_skip ?_
        | refine run_exit ?_
        | refine run_ret ?_
        | refine fin_seq ?_
        | refine fin_seq_e ?_
        | refine fin_seq_r ?_
        | refine fin_blk ?_
        | refine fin_blk_e ?_
        | refine fin_blk_x rfl ?_
        | refine fin_blk_r ?_
        | refine fin_loop_e ?_
        | refine fin_loop_r ?_
        | refine run_cond_t rfl (by first | with_reducible rfl | assumption | decide) ?_
        | refine run_cond_f rfl (by first | with_reducible rfl | assumption | decide) ?_)
      refine fin_loop (run_weak (weak_S ?_ ?_) hnext)
      · exact ⟨rfl, rfl, rfl, rfl, rfl, rfl, rfl, rfl, rfl, rfl, rfl, rfl, rfl, trivial⟩
      · exact ⟨rfl, rfl, rfl, rfl, rfl, trivial⟩
  have hil : i = l.length := by simp at h; omega
  have hn : ((l.take i).filter (geN x)).length = ((l.filter (geN x)).map Pair.enc).length := by rw [hil, List.take_length, List.length_map]
  rw [hn]
  clear hn ih h hil hi
  have hkl : (l.filter (geN x)).length ≤ 9223372036854775806 := by have := List.length_filter_le (geN x) l; omega
  generalize l.filter (geN x) = kK at *
  have he1 : decide (fi = fi) = true := by simp
  have he2 : (false != decide (fb = fb)) = true := by simp
  have he3 : decide ((((kK.map Pair.enc).length : Nat) : Int) = (((kK.map Pair.enc).length : Nat) : Int)) = true := by simp
  have he4 : (false != decide (rb = rb)) = true := by simp
  repeat (first
    | refine r_call rfl (pairs9) ?_
    | refine r_callu (fs := []) rfl rfl rfl rfl rfl rfl (lent17 pP [] hp0 hpl) (by decide) ?_
    | refine r_call rfl (ce) ?_
    | refine r_callu (fs := []) rfl rfl rfl rfl rfl rfl (lent17 dD [] hd0 hdl) (by decide) ?_
    | refine r_callF (resL_cons rfl (resL_cons (res_row rfl rfl hle) rfl)) rfl rfl c19 ?_
    | refine r_call rfl (c20) ?_
    | refine r_callF (resL_cons (res_row rfl rfl hle) (resL_cons rfl rfl)) rfl rfl c17 ?_
    | refine r_mv_p rfl ?_
    | refine r_do rfl (by first | with_reducible rfl | assumption | decide) ?_
    | refine r_skip rfl (by first | with_reducible rfl | assumption | decide) ?_
    | refine r_skipU rfl ?_
    | refine r_fad rfl rfl ?_
    | refine r_add rfl rfl (by omega) ?_
    | refine r_sub rfl rfl (by omega) ?_
    | refine r_loadAll rfl (by first | rfl | assumption) ?_
    | refine r_loadAllB rfl rfl (by first | rfl | assumption) ?_
    | refine r_pick_t rfl (by first | with_reducible rfl | assumption | decide) rfl rfl ?_
    | refine r_pick_f rfl (by first | with_reducible rfl | assumption | decide) rfl rfl ?_
    | refine r_sem rfl rfl rfl rfl ?_
    | refine r_nil ?_
    | refine r_iad rfl rfl (by omega) (by assumption) (by first | rfl | assumption | omega | (simp; done) | (simp; omega)) ?_
    | refine r_storeAll rfl rfl rfl rfl rfl rfl ?_
    | refine r_store rfl rfl rfl rfl (by decide) ?_
    | refine r_store rfl rfl rfl rfl (And.intro rfl (Nat.le_of_ble_eq_true rfl)) ?_
    | refine r_alloc rfl ?_
    | refine r_box rfl rfl rfl ?_
    | refine r_bsl rfl rfl rfl rfl rfl rfl ?_
    | refine r_bsl1 rfl (by assumption) rfl ?_
    | refine r_mkmap rfl ?_
    | refine r_mv_nil rfl ?_
    | refine r_mv_own rfl rfl ?_
    | refine r_mv_mp rfl rfl ?_
    | refine r_mv_row rfl rfl (by first | rfl | assumption | omega | (simp; done) | (simp; omega)) ?_
    | refine r_mv_rp rfl rfl (by first | rfl | assumption | omega | (simp; done) | (simp; omega)) ?_
    | refine r_fad_rp rfl rfl (by first | rfl | assumption | omega | (simp; done) | (simp; omega)) ?_
    | refine r_iad_row rfl rfl (by first | rfl | assumption | omega | (simp; done) | (simp; omega)) rfl (by first | rfl | assumption | omega | (simp; done) | (simp; omega)) ?_
    | refine r_skip0 rfl (by first | with_reducible rfl | assumption | decide) ?_
    | refine r_skipU0 rfl ?_
    | refine r_semF rfl rfl rfl rfl ?_
    | refine r_load_rp rfl rfl (by assumption) rfl ?_
    | refine r_len_row rfl rfl (by first | rfl | assumption | omega | (simp; done) | (simp; omega)) ?_
    | refine run_seq ?_
    | refine run_reg ?_
    | refine run_regd rfl ?_
    | refine run_regs rfl ?_
    | refine fin_far rfl ?_
    | refine run_block ?_
    | refine run_skip ?_
    | refine run_exit ?_
    | refine run_ret ?_
    | refine fin_seq ?_
    | refine fin_seq_e ?_
    | refine fin_seq_r ?_
    | refine fin_blk ?_
    | refine fin_blk_e ?_
    | refine fin_blk_x rfl ?_
    | refine fin_blk_r ?_
    | refine fin_loop_e ?_
    | refine fin_loop_r ?_
    | refine run_cond_t rfl (by first | with_reducible rfl | assumption | decide) ?_
    | refine run_cond_f rfl (by first | with_reducible rfl | assumption | decide) ?_)
  refine run_weak (weak_S ?_ ?_) (run_inv (fun q : Nat × List (List PV) => S [(0, .p (.sl (l.map Pair.enc) sp)), (5, .row 26 (l.map Pair.enc).length), (10, .row 47 (pP.map Pair.enc).length), (12, .row 54 (dD.map Pair.enc).length), (13, .row 57 (kK.map Pair.enc).length), (16, .p (.v (.bool true))), (17, .p (.v (.int .i64 (q.1 : Nat))))]
    [(26, some (.row 24 2 (l.map Pair.enc ++ [behindE]) true)), (47, some (.row 24 2 q.2 false)), (54, some (.row 24 2 (dD.map Pair.enc) false)), (57, some (.row 24 2 (kK.map Pair.enc) false))])
    (fun q => q.1 ≤ (pP.map Pair.enc).length ∧ q.2.length = (pP.map Pair.enc).length) (fun q => (pP.map Pair.enc).length - q.1) ?_ (0, pP.map Pair.enc) ⟨Nat.zero_le _, rfl⟩)
  · exact ⟨rfl, rfl, rfl, rfl, rfl, rfl, rfl, trivial⟩
  · exact ⟨rfl, rfl, rfl, rfl, trivial⟩
  clear he1 he2 he3 he4 ce c19 c20 cB hp0
  rintro ⟨i, zs⟩ ⟨hi, hzl⟩ ih
  simp only at hi hzl
  have hzle : (pP.map Pair.enc).length ≤ zs.length := by omega
  repeat (first
    | refine r_mv_p rfl ?_
    | refine r_do rfl (by first | with_reducible rfl | assumption | decide) ?_
    | refine r_skip rfl (by first | with_reducible rfl | assumption | decide) ?_
    | refine r_skipU rfl ?_
    | refine r_fad rfl rfl ?_
    | refine r_add rfl rfl (by omega) ?_
    | refine r_sub rfl rfl (by omega) ?_
    | refine r_loadAll rfl (by first | rfl | assumption) ?_
    | refine r_loadAllB rfl rfl (by first | rfl | assumption) ?_
    | refine r_pick_t rfl (by first | with_reducible rfl | assumption | decide) rfl rfl ?_
    | refine r_pick_f rfl (by first | with_reducible rfl | assumption | decide) rfl rfl ?_
    | refine r_sem rfl rfl rfl rfl ?_
    | refine r_nil ?_
    | refine r_iad rfl rfl (by omega) (by assumption) (by first | rfl | assumption | omega | (simp; done) | (simp; omega)) ?_
    | refine r_storeAll rfl rfl rfl rfl rfl rfl ?_
    | refine r_store rfl rfl rfl rfl (by decide) ?_
    | refine r_store rfl rfl rfl rfl (And.intro rfl (Nat.le_of_ble_eq_true rfl)) ?_
    | refine r_alloc rfl ?_
    | refine r_box rfl rfl rfl ?_
    | refine r_bsl rfl rfl rfl rfl rfl rfl ?_
    | refine r_bsl1 rfl (by assumption) rfl ?_
    | refine r_mkmap rfl ?_
    | refine r_mv_nil rfl ?_
    | refine r_mv_own rfl rfl ?_
    | refine r_mv_mp rfl rfl ?_
    | refine r_mv_row rfl rfl (by first | rfl | assumption | omega | (simp; done) | (simp; omega)) ?_
    | refine r_mv_rp rfl rfl (by first | rfl | assumption | omega | (simp; done) | (simp; omega)) ?_
    | refine r_fad_rp rfl rfl (by first | rfl | assumption | omega | (simp; done) | (simp; omega)) ?_
    | refine r_iad_row rfl rfl (by first | rfl | assumption | omega | (simp; done) | (simp; omega)) rfl (by first | rfl | assumption | omega | (simp; done) | (simp; omega)) ?_
    | refine r_skip0 rfl (by first | with_reducible rfl | assumption | decide) ?_
    | refine r_skipU0 rfl ?_
    | refine r_semF rfl rfl rfl rfl ?_
    | refine r_load_rp rfl rfl (by assumption) rfl ?_
    | refine r_len_row rfl rfl (by first | rfl | assumption | omega | (simp; done) | (simp; omega)) ?_
    | refine run_seq ?_
    | refine run_reg ?_
    | refine run_regd rfl ?_
    | refine run_regs rfl ?_
    | refine fin_far rfl ?_
    | refine run_block ?_
    | refine run_skip ?_
    | refine run_exit ?_
    | refine run_ret ?_
    | refine fin_seq ?_
    | refine fin_seq_e ?_
    | refine fin_seq_r ?_
    | refine fin_blk ?_
    | refine fin_blk_e ?_
    | refine fin_blk_x rfl ?_
    | refine fin_blk_r ?_
    | refine fin_loop_e ?_
    | refine fin_loop_r ?_
    | refine run_cond_t rfl (by first | with_reducible rfl | assumption | decide) ?_
    | refine run_cond_f rfl (by first | with_reducible rfl | assumption | decide) ?_)
  refine run_cond rfl (fun h => ?_) (fun h => ?_)
  · have hlt : i < (pP.map Pair.enc).length := by simpa using h
    have hib : (0 : Int) ≤ ((i : Nat) : Int) ∧ ((i : Nat) : Int) < (((pP.map Pair.enc).length : Nat) : Int) := by omega
    have hml : (pP.map Pair.enc).length = pP.length := List.length_map ..
    obtain ⟨cc, hzi⟩ : ∃ cc, zs[i]? = some cc := ⟨zs[i]'(by omega), List.getElem?_eq_getElem (by omega)⟩
    have hnext := fun w => ih (i + 1, zs.set i w) ⟨hlt, by simpa using hzl⟩ (by simp only; omega)
    clear ih
    repeat (first
      | refine r_store_rp rfl rfl hzi rfl rfl (And.intro rfl (Nat.le_refl 2)) ?_
      | refine r_mv_p rfl ?_
      | refine r_do rfl (by first | with_reducible rfl | assumption | decide) ?_
      | refine r_skip rfl (by first | with_reducible rfl | assumption | decide) ?_
      | refine r_skipU rfl ?_
      | refine r_fad rfl rfl ?_
      | refine r_add rfl rfl (by omega) ?_
      | refine r_sub rfl rfl (by omega) ?_
      | refine r_loadAll rfl (by first | rfl | assumption) ?_
      | refine r_loadAllB rfl rfl (by first | rfl | assumption) ?_
      | refine r_pick_t rfl (by first | with_reducible rfl | assumption | decide) rfl rfl ?_
      | refine r_pick_f rfl (by first | with_reducible rfl | assumption | decide) rfl rfl ?_
      | refine r_sem rfl rfl rfl rfl ?_
      | refine r_nil ?_
      | refine r_iad rfl rfl (by omega) (by assumption) (by first | rfl | assumption | omega | (simp; done) | (simp; omega)) ?_
      | refine r_storeAll rfl rfl rfl rfl rfl rfl ?_
      | refine r_store rfl rfl rfl rfl (by decide) ?_
      | refine r_store rfl rfl rfl rfl (And.intro rfl (Nat.le_of_ble_eq_true rfl)) ?_
      | refine r_alloc rfl ?_
      | refine r_box rfl rfl rfl ?_
      | refine r_bsl rfl rfl rfl rfl rfl rfl ?_
      | refine r_bsl1 rfl (by assumption) rfl ?_
      | refine r_mkmap rfl ?_
      | refine r_mv_nil rfl ?_
      | refine r_mv_own rfl rfl ?_
      | refine r_mv_mp rfl rfl ?_
      | refine r_mv_row rfl rfl (by first | rfl | assumption | omega | (simp; done) | (simp; omega)) ?_
      | refine r_mv_rp rfl rfl (by first | rfl | assumption | omega | (simp; done) | (simp; omega)) ?_
      | refine r_fad_rp rfl rfl (by first | rfl | assumption | omega | (simp; done) | (simp; omega)) ?_
      | refine r_iad_row rfl rfl (by first | rfl | assumption | omega | (simp; done) | (simp; omega)) rfl (by first | rfl | assumption | omega | (simp; done) | (simp; omega)) ?_
      | refine r_skip0 rfl (by first | with_reducible rfl | assumption | decide) ?_
      | refine r_skipU0 rfl ?_
      | refine r_semF rfl rfl rfl rfl ?_
      | refine r_load_rp rfl rfl (by assumption) rfl ?_
      | refine r_len_row rfl rfl (by first | rfl | assumption | omega | (simp; done) | (simp; omega)) ?_
      | refine run_seq ?_
      | refine run_reg ?_
      | refine run_regd rfl ?_
      | refine run_regs rfl ?_
      | refine fin_far rfl ?_
      | refine run_block ?_
      | refine run_skip ?_
      | refine run_exit ?_
      | refine run_ret ?_
      | refine fin_seq ?_
      | refine fin_seq_e ?_
      | refine fin_seq_r ?_
      | refine fin_blk ?_
      | refine fin_blk_e ?_
      | refine fin_blk_x rfl ?_
      | refine fin_blk_r ?_
      | refine fin_loop_e ?_
      | refine fin_loop_r ?_
      | refine run_cond_t rfl (by first | with_reducible rfl | assumption | decide) ?_
      | refine run_cond_f rfl (by first | with_reducible rfl | assumption | decide) ?_)
    refine fin_loop (run_weak (weak_S ?_ ?_) (hnext (splice cc 0 writtenE)))
    · exact ⟨rfl, rfl, rfl, rfl, rfl, rfl, rfl, trivial⟩
    · exact ⟨rfl, rfl, rfl, rfl, trivial⟩
  clear ih h hi hzl hzle
  repeat (first
    | refine r_mv_p rfl ?_
    | refine r_do rfl (by first | with_reducible rfl | assumption | decide) ?_
    | refine r_skip rfl (by first | with_reducible rfl | assumption | decide) ?_
    | refine r_skipU rfl ?_
    | refine r_fad rfl rfl ?_
    | refine r_add rfl rfl (by omega) ?_
    | refine r_sub rfl rfl (by omega) ?_
    | refine r_loadAll rfl (by first | rfl | assumption) ?_
    | refine r_loadAllB rfl rfl (by first | rfl | assumption) ?_
    | refine r_pick_t rfl (by first | with_reducible rfl | assumption | decide) rfl rfl ?_
    | refine r_pick_f rfl (by first | with_reducible rfl | assumption | decide) rfl rfl ?_
    | refine r_sem rfl rfl rfl rfl ?_
    | refine r_nil ?_
    | refine r_iad rfl rfl (by omega) (by assumption) (by first | rfl | assumption | omega | (simp; done) | (simp; omega)) ?_
    | refine r_storeAll rfl rfl rfl rfl rfl rfl ?_
    | refine r_store rfl rfl rfl rfl (by decide) ?_
    | refine r_store rfl rfl rfl rfl (And.intro rfl (Nat.le_of_ble_eq_true rfl)) ?_
    | refine r_alloc rfl ?_
    | refine r_box rfl rfl rfl ?_
    | refine r_bsl rfl rfl rfl rfl rfl rfl ?_
    | refine r_bsl1 rfl (by assumption) rfl ?_
    | refine r_mkmap rfl ?_
    | refine r_mv_nil rfl ?_
    | refine r_mv_own rfl rfl ?_
    | refine r_mv_mp rfl rfl ?_
    | refine r_mv_row rfl rfl (by first | rfl | assumption | omega | (simp; done) | (simp; omega)) ?_
    | refine r_mv_rp rfl rfl (by first | rfl | assumption | omega | (simp; done) | (simp; omega)) ?_
    | refine r_fad_rp rfl rfl (by first | rfl | assumption | omega | (simp; done) | (simp; omega)) ?_
    | refine r_iad_row rfl rfl (by first | rfl | assumption | omega | (simp; done) | (simp; omega)) rfl (by first | rfl | assumption | omega | (simp; done) | (simp; omega)) ?_
    | refine r_skip0 rfl (by first | with_reducible rfl | assumption | decide) ?_
    | refine r_skipU0 rfl ?_
    | refine r_semF rfl rfl rfl rfl ?_
    | refine r_load_rp rfl rfl (by assumption) rfl ?_
    | refine r_len_row rfl rfl (by first | rfl | assumption | omega | (simp; done) | (simp; omega)) ?_
    | refine run_seq ?_
    | refine run_reg ?_
    | refine run_regd rfl ?_
    | refine run_regs rfl ?_
    | refine fin_far rfl ?_
    | refine run_block ?_
    | refine run_skip ?_
    | refine run_exit ?_
    | refine run_ret ?_
    | refine fin_seq ?_
    | refine fin_seq_e ?_
    | refine fin_seq_r ?_
    | refine fin_blk ?_
    | refine fin_blk_e ?_
    | refine fin_blk_x rfl ?_
    | refine fin_blk_r ?_
    | refine fin_loop_e ?_
    | refine fin_loop_r ?_
    | refine run_cond_t rfl (by first | with_reducible rfl | assumption | decide) ?_
    | refine run_cond_f rfl (by first | with_reducible rfl | assumption | decide) ?_)
  refine run_weak (weak_S ?_ ?_) (run_inv (fun q : Nat × List (List PV) => S [(0, .p (.sl (l.map Pair.enc) sp)), (5, .row 26 (l.map Pair.enc).length), (12, .row 54 (dD.map Pair.enc).length), (13, .row 57 (kK.map Pair.enc).length), (16, .p (.v (.bool true))), (18, .p (.v (.int .i64 (q.1 : Nat))))]
    [(26, some (.row 24 2 (l.map Pair.enc ++ [behindE]) true)), (54, some (.row 24 2 q.2 false)), (57, some (.row 24 2 (kK.map Pair.enc) false))])
    (fun q => q.1 ≤ (dD.map Pair.enc).length ∧ q.2.length = (dD.map Pair.enc).length) (fun q => (dD.map Pair.enc).length - q.1) ?_ (0, dD.map Pair.enc) ⟨Nat.zero_le _, rfl⟩)
  · exact ⟨rfl, rfl, rfl, rfl, rfl, rfl, trivial⟩
  · exact ⟨rfl, rfl, rfl, trivial⟩
  rintro ⟨i, zs⟩ ⟨hi, hzl⟩ ih
  simp only at hi hzl
  have hzle : (dD.map Pair.enc).length ≤ zs.length := by omega
  repeat (first
    | refine r_mv_p rfl ?_
    | refine r_do rfl (by first | with_reducible rfl | assumption | decide) ?_
    | refine r_skip rfl (by first | with_reducible rfl | assumption | decide) ?_
    | refine r_skipU rfl ?_
    | refine r_fad rfl rfl ?_
    | refine r_add rfl rfl (by omega) ?_
    | refine r_sub rfl rfl (by omega) ?_
    | refine r_loadAll rfl (by first | rfl | assumption) ?_
    | refine r_loadAllB rfl rfl (by first | rfl | assumption) ?_
    | refine r_pick_t rfl (by first | with_reducible rfl | assumption | decide) rfl rfl ?_
    | refine r_pick_f rfl (by first | with_reducible rfl | assumption | decide) rfl rfl ?_
    | refine r_sem rfl rfl rfl rfl ?_
    | refine r_nil ?_
    | refine r_iad rfl rfl (by omega) (by assumption) (by first | rfl | assumption | omega | (simp; done) | (simp; omega)) ?_
    | refine r_storeAll rfl rfl rfl rfl rfl rfl ?_
    | refine r_store rfl rfl rfl rfl (by decide) ?_
    | refine r_store rfl rfl rfl rfl (And.intro rfl (Nat.le_of_ble_eq_true rfl)) ?_
    | refine r_alloc rfl ?_
    | refine r_box rfl rfl rfl ?_
    | refine r_bsl rfl rfl rfl rfl rfl rfl ?_
    | refine r_bsl1 rfl (by assumption) rfl ?_
    | refine r_mkmap rfl ?_
    | refine r_mv_nil rfl ?_
    | refine r_mv_own rfl rfl ?_
    | refine r_mv_mp rfl rfl ?_
    | refine r_mv_row rfl rfl (by first | rfl | assumption | omega | (simp; done) | (simp; omega)) ?_
    | refine r_mv_rp rfl rfl (by first | rfl | assumption | omega | (simp; done) | (simp; omega)) ?_
    | refine r_fad_rp rfl rfl (by first | rfl | assumption | omega | (simp; done) | (simp; omega)) ?_
    | refine r_iad_row rfl rfl (by first | rfl | assumption | omega | (simp; done) | (simp; omega)) rfl (by first | rfl | assumption | omega | (simp; done) | (simp; omega)) ?_
    | refine r_skip0 rfl (by first | with_reducible rfl | assumption | decide) ?_
    | refine r_skipU0 rfl ?_
    | refine r_semF rfl rfl rfl rfl ?_
    | refine r_load_rp rfl rfl (by assumption) rfl ?_
    | refine r_len_row rfl rfl (by first | rfl | assumption | omega | (simp; done) | (simp; omega)) ?_
    | refine run_seq ?_
    | refine run_reg ?_
    | refine run_regd rfl ?_
    | refine run_regs rfl ?_
    | refine fin_far rfl ?_
    | refine run_block ?_
    | refine run_skip ?_
    | refine run_exit ?_
    | refine run_ret ?_
    | refine fin_seq ?_
    | refine fin_seq_e ?_
    | refine fin_seq_r ?_
    | refine fin_blk ?_
    | refine fin_blk_e ?_
    | refine fin_blk_x rfl ?_
    | refine fin_blk_r ?_
    | refine fin_loop_e ?_
    | refine fin_loop_r ?_
    | refine run_cond_t rfl (by first | with_reducible rfl | assumption | decide) ?_
    | refine run_cond_f rfl (by first | with_reducible rfl | assumption | decide) ?_)
  refine run_cond rfl (fun h => ?_) (fun h => ?_)
  · have hlt : i < (dD.map Pair.enc).length := by simpa using h
    have hib : (0 : Int) ≤ ((i : Nat) : Int) ∧ ((i : Nat) : Int) < (((dD.map Pair.enc).length : Nat) : Int) := by omega
    have hml : (dD.map Pair.enc).length = dD.length := List.length_map ..
    obtain ⟨cc, hzi⟩ : ∃ cc, zs[i]? = some cc := ⟨zs[i]'(by omega), List.getElem?_eq_getElem (by omega)⟩
    have hnext := fun w => ih (i + 1, zs.set i w) ⟨hlt, by simpa using hzl⟩ (by simp only; omega)
    clear ih
    repeat (first
      | refine r_store_rp rfl rfl hzi rfl rfl (And.intro rfl (Nat.le_refl 2)) ?_
      | refine r_mv_p rfl ?_
      | refine r_do rfl (by first | with_reducible rfl | assumption | decide) ?_
      | refine r_skip rfl (by first | with_reducible rfl | assumption | decide) ?_
      | refine r_skipU rfl ?_
      | refine r_fad rfl rfl ?_
      | refine r_add rfl rfl (by omega) ?_
      | refine r_sub rfl rfl (by omega) ?_
      | refine r_loadAll rfl (by first | rfl | assumption) ?_
      | refine r_loadAllB rfl rfl (by first | rfl | assumption) ?_
      | refine r_pick_t rfl (by first | with_reducible rfl | assumption | decide) rfl rfl ?_
      | refine r_pick_f rfl (by first | with_reducible rfl | assumption | decide) rfl rfl ?_
      | refine r_sem rfl rfl rfl rfl ?_
      | refine r_nil ?_
      | refine r_iad rfl rfl (by omega) (by assumption) (by first | rfl | assumption | omega | (simp; done) | (simp; omega)) ?_
      | refine r_storeAll rfl rfl rfl rfl rfl rfl ?_
      | refine r_store rfl rfl rfl rfl (by decide) ?_
      | refine r_store rfl rfl rfl rfl (And.intro rfl (Nat.le_of_ble_eq_true rfl)) ?_
      | refine r_alloc rfl ?_
      | refine r_box rfl rfl rfl ?_
      | refine r_bsl rfl rfl rfl rfl rfl rfl ?_
      | refine r_bsl1 rfl (by assumption) rfl ?_
      | refine r_mkmap rfl ?_
      | refine r_mv_nil rfl ?_
      | refine r_mv_own rfl rfl ?_
      | refine r_mv_mp rfl rfl ?_
      | refine r_mv_row rfl rfl (by first | rfl | assumption | omega | (simp; done) | (simp; omega)) ?_
      | refine r_mv_rp rfl rfl (by first | rfl | assumption | omega | (simp; done) | (simp; omega)) ?_
      | refine r_fad_rp rfl rfl (by first | rfl | assumption | omega | (simp; done) | (simp; omega)) ?_
      | refine r_iad_row rfl rfl (by first | rfl | assumption | omega | (simp; done) | (simp; omega)) rfl (by first | rfl | assumption | omega | (simp; done) | (simp; omega)) ?_
      | refine r_skip0 rfl (by first | with_reducible rfl | assumption | decide) ?_
      | refine r_skipU0 rfl ?_
      | refine r_semF rfl rfl rfl rfl ?_
      | refine r_load_rp rfl rfl (by assumption) rfl ?_
      | refine r_len_row rfl rfl (by first | rfl | assumption | omega | (simp; done) | (simp; omega)) ?_
      | refine run_seq ?_
      | refine run_reg ?_
      | refine run_regd rfl ?_
      | refine run_regs rfl ?_
      | refine fin_far rfl ?_
      | refine run_block ?_
      | refine run_skip ?_
      | refine run_exit ?_
      | refine run_ret ?_
      | refine fin_seq ?_
      | refine fin_seq_e ?_
      | refine fin_seq_r ?_
      | refine fin_blk ?_
      | refine fin_blk_e ?_
      | refine fin_blk_x rfl ?_
      | refine fin_blk_r ?_
      | refine fin_loop_e ?_
      | refine fin_loop_r ?_
      | refine run_cond_t rfl (by first | with_reducible rfl | assumption | decide) ?_
      | refine run_cond_f rfl (by first | with_reducible rfl | assumption | decide) ?_)
    refine fin_loop (run_weak (weak_S ?_ ?_) (hnext (splice cc 0 writtenE)))
    · exact ⟨rfl, rfl, rfl, rfl, rfl, rfl, trivial⟩
    · exact ⟨rfl, rfl, rfl, trivial⟩
  clear ih h hi hzl hzle
  repeat (first
    | refine r_mv_p rfl ?_
    | refine r_do rfl (by first | with_reducible rfl | assumption | decide) ?_
    | refine r_skip rfl (by first | with_reducible rfl | assumption | decide) ?_
    | refine r_skipU rfl ?_
    | refine r_fad rfl rfl ?_
    | refine r_add rfl rfl (by omega) ?_
    | refine r_sub rfl rfl (by omega) ?_
    | refine r_loadAll rfl (by first | rfl | assumption) ?_
    | refine r_loadAllB rfl rfl (by first | rfl | assumption) ?_
    | refine r_pick_t rfl (by first | with_reducible rfl | assumption | decide) rfl rfl ?_
    | refine r_pick_f rfl (by first | with_reducible rfl | assumption | decide) rfl rfl ?_
    | refine r_sem rfl rfl rfl rfl ?_
    | refine r_nil ?_
    | refine r_iad rfl rfl (by omega) (by assumption) (by first | rfl | assumption | omega | (simp; done) | (simp; omega)) ?_
    | refine r_storeAll rfl rfl rfl rfl rfl rfl ?_
    | refine r_store rfl rfl rfl rfl (by decide) ?_
    | refine r_store rfl rfl rfl rfl (And.intro rfl (Nat.le_of_ble_eq_true rfl)) ?_
    | refine r_alloc rfl ?_
    | refine r_box rfl rfl rfl ?_
    | refine r_bsl rfl rfl rfl rfl rfl rfl ?_
    | refine r_bsl1 rfl (by assumption) rfl ?_
    | refine r_mkmap rfl ?_
    | refine r_mv_nil rfl ?_
    | refine r_mv_own rfl rfl ?_
    | refine r_mv_mp rfl rfl ?_
    | refine r_mv_row rfl rfl (by first | rfl | assumption | omega | (simp; done) | (simp; omega)) ?_
    | refine r_mv_rp rfl rfl (by first | rfl | assumption | omega | (simp; done) | (simp; omega)) ?_
    | refine r_fad_rp rfl rfl (by first | rfl | assumption | omega | (simp; done) | (simp; omega)) ?_
    | refine r_iad_row rfl rfl (by first | rfl | assumption | omega | (simp; done) | (simp; omega)) rfl (by first | rfl | assumption | omega | (simp; done) | (simp; omega)) ?_
    | refine r_skip0 rfl (by first | with_reducible rfl | assumption | decide) ?_
    | refine r_skipU0 rfl ?_
    | refine r_semF rfl rfl rfl rfl ?_
    | refine r_load_rp rfl rfl (by assumption) rfl ?_
    | refine r_len_row rfl rfl (by first | rfl | assumption | omega | (simp; done) | (simp; omega)) ?_
    | refine run_seq ?_
    | refine run_reg ?_
    | refine run_regd rfl ?_
    | refine run_regs rfl ?_
    | refine fin_far rfl ?_
    | refine run_block ?_
    | refine run_skip ?_
    | refine run_exit ?_
    | refine run_ret ?_
    | refine fin_seq ?_
    | refine fin_seq_e ?_
    | refine fin_seq_r ?_
    | refine fin_blk ?_
    | refine fin_blk_e ?_
    | refine fin_blk_x rfl ?_
    | refine fin_blk_r ?_
    | refine fin_loop_e ?_
    | refine fin_loop_r ?_
    | refine run_cond_t rfl (by first | with_reducible rfl | assumption | decide) ?_
    | refine run_cond_f rfl (by first | with_reducible rfl | assumption | decide) ?_)
  refine run_weak (weak_S ?_ ?_) (run_inv (fun q : Nat × List (List PV) => S [(0, .p (.sl (l.map Pair.enc) sp)), (5, .row 26 (l.map Pair.enc).length), (13, .row 57 (kK.map Pair.enc).length), (16, .p (.v (.bool true))), (19, .p (.v (.int .i64 (q.1 : Nat))))]
    [(26, some (.row 24 2 (l.map Pair.enc ++ [behindE]) true)), (57, some (.row 24 2 q.2 false))])
    (fun q => q.1 ≤ (kK.map Pair.enc).length ∧ q.2.length = (kK.map Pair.enc).length) (fun q => (kK.map Pair.enc).length - q.1) ?_ (0, kK.map Pair.enc) ⟨Nat.zero_le _, rfl⟩)
  · exact ⟨rfl, rfl, rfl, rfl, rfl, trivial⟩
  · exact ⟨rfl, rfl, trivial⟩
  rintro ⟨i, zs⟩ ⟨hi, hzl⟩ ih
  simp only at hi hzl
  have hzle : (kK.map Pair.enc).length ≤ zs.length := by omega
  repeat (first
    | refine r_mv_p rfl ?_
    | refine r_do rfl (by first | with_reducible rfl | assumption | decide) ?_
    | refine r_skip rfl (by first | with_reducible rfl | assumption | decide) ?_
    | refine r_skipU rfl ?_
    | refine r_fad rfl rfl ?_
    | refine r_add rfl rfl (by omega) ?_
    | refine r_sub rfl rfl (by omega) ?_
    | refine r_loadAll rfl (by first | rfl | assumption) ?_
    | refine r_loadAllB rfl rfl (by first | rfl | assumption) ?_
    | refine r_pick_t rfl (by first | with_reducible rfl | assumption | decide) rfl rfl ?_
    | refine r_pick_f rfl (by first | with_reducible rfl | assumption | decide) rfl rfl ?_
    | refine r_sem rfl rfl rfl rfl ?_
    | refine r_nil ?_
    | refine r_iad rfl rfl (by omega) (by assumption) (by first | rfl | assumption | omega | (simp; done) | (simp; omega)) ?_
    | refine r_storeAll rfl rfl rfl rfl rfl rfl ?_
    | refine r_store rfl rfl rfl rfl (by decide) ?_
    | refine r_store rfl rfl rfl rfl (And.intro rfl (Nat.le_of_ble_eq_true rfl)) ?_
    | refine r_alloc rfl ?_
    | refine r_box rfl rfl rfl ?_
    | refine r_bsl rfl rfl rfl rfl rfl rfl ?_
    | refine r_bsl1 rfl (by assumption) rfl ?_
    | refine r_mkmap rfl ?_
    | refine r_mv_nil rfl ?_
    | refine r_mv_own rfl rfl ?_
    | refine r_mv_mp rfl rfl ?_
    | refine r_mv_row rfl rfl (by first | rfl | assumption | omega | (simp; done) | (simp; omega)) ?_
    | refine r_mv_rp rfl rfl (by first | rfl | assumption | omega | (simp; done) | (simp; omega)) ?_
    | refine r_fad_rp rfl rfl (by first | rfl | assumption | omega | (simp; done) | (simp; omega)) ?_
    | refine r_iad_row rfl rfl (by first | rfl | assumption | omega | (simp; done) | (simp; omega)) rfl (by first | rfl | assumption | omega | (simp; done) | (simp; omega)) ?_
    | refine r_skip0 rfl (by first | with_reducible rfl | assumption | decide) ?_
    | refine r_skipU0 rfl ?_
    | refine r_semF rfl rfl rfl rfl ?_
    | refine r_load_rp rfl rfl (by assumption) rfl ?_
    | refine r_len_row rfl rfl (by first | rfl | assumption | omega | (simp; done) | (simp; omega)) ?_
    | refine run_seq ?_
    | refine run_reg ?_
    | refine run_regd rfl ?_
    | refine run_regs rfl ?_
    | refine fin_far rfl ?_
    | refine run_block ?_
    | refine run_skip ?_
    | refine run_exit ?_
    | refine run_ret ?_
    | refine fin_seq ?_
    | refine fin_seq_e ?_
    | refine fin_seq_r ?_
    | refine fin_blk ?_
    | refine fin_blk_e ?_
    | refine fin_blk_x rfl ?_
    | refine fin_blk_r ?_
    | refine fin_loop_e ?_
    | refine fin_loop_r ?_
    | refine run_cond_t rfl (by first | with_reducible rfl | assumption | decide) ?_
    | refine run_cond_f rfl (by first | with_reducible rfl | assumption | decide) ?_)
  refine run_cond rfl (fun h => ?_) (fun h => ?_)
  · have hlt : i < (kK.map Pair.enc).length := by simpa using h
    have hib : (0 : Int) ≤ ((i : Nat) : Int) ∧ ((i : Nat) : Int) < (((kK.map Pair.enc).length : Nat) : Int) := by omega
    have hml : (kK.map Pair.enc).length = kK.length := List.length_map ..
    obtain ⟨cc, hzi⟩ : ∃ cc, zs[i]? = some cc := ⟨zs[i]'(by omega), List.getElem?_eq_getElem (by omega)⟩
    have hnext := fun w => ih (i + 1, zs.set i w) ⟨hlt, by simpa using hzl⟩ (by simp only; omega)
    clear ih
    repeat (first
      | refine r_store_rp rfl rfl hzi rfl rfl (And.intro rfl (Nat.le_refl 2)) ?_
      | refine r_mv_p rfl ?_
      | refine r_do rfl (by first | with_reducible rfl | assumption | decide) ?_
      | refine r_skip rfl (by first | with_reducible rfl | assumption | decide) ?_
      | refine r_skipU rfl ?_
      | refine r_fad rfl rfl ?_
      | refine r_add rfl rfl (by omega) ?_
      | refine r_sub rfl rfl (by omega) ?_
      | refine r_loadAll rfl (by first | rfl | assumption) ?_
      | refine r_loadAllB rfl rfl (by first | rfl | assumption) ?_
      | refine r_pick_t rfl (by first | with_reducible rfl | assumption | decide) rfl rfl ?_
      | refine r_pick_f rfl (by first | with_reducible rfl | assumption | decide) rfl rfl ?_
      | refine r_sem rfl rfl rfl rfl ?_
      | refine r_nil ?_
      | refine r_iad rfl rfl (by omega) (by assumption) (by first | rfl | assumption | omega | (simp; done) | (simp; omega)) ?_
      | refine r_storeAll rfl rfl rfl rfl rfl rfl ?_
      | refine r_store rfl rfl rfl rfl (by decide) ?_
      | refine r_store rfl rfl rfl rfl (And.intro rfl (Nat.le_of_ble_eq_true rfl)) ?_
      | refine r_alloc rfl ?_
      | refine r_box rfl rfl rfl ?_
      | refine r_bsl rfl rfl rfl rfl rfl rfl ?_
      | refine r_bsl1 rfl (by assumption) rfl ?_
      | refine r_mkmap rfl ?_
      | refine r_mv_nil rfl ?_
      | refine r_mv_own rfl rfl ?_
      | refine r_mv_mp rfl rfl ?_
      | refine r_mv_row rfl rfl (by first | rfl | assumption | omega | (simp; done) | (simp; omega)) ?_
      | refine r_mv_rp rfl rfl (by first | rfl | assumption | omega | (simp; done) | (simp; omega)) ?_
      | refine r_fad_rp rfl rfl (by first | rfl | assumption | omega | (simp; done) | (simp; omega)) ?_
      | refine r_iad_row rfl rfl (by first | rfl | assumption | omega | (simp; done) | (simp; omega)) rfl (by first | rfl | assumption | omega | (simp; done) | (simp; omega)) ?_
      | refine r_skip0 rfl (by first | with_reducible rfl | assumption | decide) ?_
      | refine r_skipU0 rfl ?_
      | refine r_semF rfl rfl rfl rfl ?_
      | refine r_load_rp rfl rfl (by assumption) rfl ?_
      | refine r_len_row rfl rfl (by first | rfl | assumption | omega | (simp; done) | (simp; omega)) ?_
      | refine run_seq ?_
      | refine run_reg ?_
      | refine run_regd rfl ?_
      | refine run_regs rfl ?_
      | refine fin_far rfl ?_
      | refine run_block ?_
      | refine run_skip ?_
      | refine run_exit ?_
      | refine run_ret ?_
      | refine fin_seq ?_
      | refine fin_seq_e ?_
      | refine fin_seq_r ?_
      | refine fin_blk ?_
      | refine fin_blk_e ?_
      | refine fin_blk_x rfl ?_
      | refine fin_blk_r ?_
      | refine fin_loop_e ?_
      | refine fin_loop_r ?_
      | refine run_cond_t rfl (by first | with_reducible rfl | assumption | decide) ?_
      | refine run_cond_f rfl (by first | with_reducible rfl | assumption | decide) ?_)
    refine fin_loop (run_weak (weak_S ?_ ?_) (hnext (splice cc 0 writtenE)))
    · exact ⟨rfl, rfl, rfl, rfl, rfl, trivial⟩
    · exact ⟨rfl, rfl, trivial⟩
  clear ih h hi hzl hzle
  have hl2 : (l.map Pair.enc).length + 1 ≤ (l.map Pair.enc ++ [behindE]).length := by simp
  have hi2 : (0 : Int) ≤ (((l.map Pair.enc).length : Nat) : Int) ∧ (((l.map Pair.enc).length : Nat) : Int) < ((((l.map Pair.enc).length + 1) : Nat) : Int) := by omega
  repeat (first
    | refine r_callF (resL_cons (res_row rfl rfl hle) (resL_cons rfl rfl)) rfl rfl c17 ?_
    | refine r_slcR (j := (l.map Pair.enc).length + 1) rfl rfl hle rfl hl2 ?_
    | refine r_iad_row rfl rfl hl2 rfl hi2 ?_
    | refine r_load_rp rfl rfl hbe rfl ?_
    | refine r_call rfl (awake21) ?_
    | refine r_mv_p rfl ?_
    | refine r_do rfl (by first | with_reducible rfl | assumption | decide) ?_
    | refine r_skip rfl (by first | with_reducible rfl | assumption | decide) ?_
    | refine r_skipU rfl ?_
    | refine r_fad rfl rfl ?_
    | refine r_add rfl rfl (by omega) ?_
    | refine r_sub rfl rfl (by omega) ?_
    | refine r_loadAll rfl (by first | rfl | assumption) ?_
    | refine r_loadAllB rfl rfl (by first | rfl | assumption) ?_
    | refine r_pick_t rfl (by first | with_reducible rfl | assumption | decide) rfl rfl ?_
    | refine r_pick_f rfl (by first | with_reducible rfl | assumption | decide) rfl rfl ?_
    | refine r_sem rfl rfl rfl rfl ?_
    | refine r_nil ?_
    | refine r_iad rfl rfl (by omega) (by assumption) (by first | rfl | assumption | omega | (simp; done) | (simp; omega)) ?_
    | refine r_storeAll rfl rfl rfl rfl rfl rfl ?_
    | refine r_store rfl rfl rfl rfl (by decide) ?_
    | refine r_store rfl rfl rfl rfl (And.intro rfl (Nat.le_of_ble_eq_true rfl)) ?_
    | refine r_alloc rfl ?_
    | refine r_box rfl rfl rfl ?_
    | refine r_bsl rfl rfl rfl rfl rfl rfl ?_
    | refine r_bsl1 rfl (by assumption) rfl ?_
    | refine r_mkmap rfl ?_
    | refine r_mv_nil rfl ?_
    | refine r_mv_own rfl rfl ?_
    | refine r_mv_mp rfl rfl ?_
    | refine r_mv_row rfl rfl (by first | rfl | assumption | omega | (simp; done) | (simp; omega)) ?_
    | refine r_mv_rp rfl rfl (by first | rfl | assumption | omega | (simp; done) | (simp; omega)) ?_
    | refine r_fad_rp rfl rfl (by first | rfl | assumption | omega | (simp; done) | (simp; omega)) ?_
    | refine r_iad_row rfl rfl (by first | rfl | assumption | omega | (simp; done) | (simp; omega)) rfl (by first | rfl | assumption | omega | (simp; done) | (simp; omega)) ?_
    | refine r_skip0 rfl (by first | with_reducible rfl | assumption | decide) ?_
    | refine r_skipU0 rfl ?_
    | refine r_semF rfl rfl rfl rfl ?_
    | refine r_load_rp rfl rfl (by assumption) rfl ?_
    | refine r_len_row rfl rfl (by first | rfl | assumption | omega | (simp; done) | (simp; omega)) ?_
    | refine run_seq ?_
    | refine run_reg ?_
    | refine run_regd rfl ?_
    | refine run_regs rfl ?_
    | refine fin_far rfl ?_
    | refine run_block ?_
    | refine run_skip ?_
    | refine run_exit ?_
    | refine run_ret ?_
    | refine fin_seq ?_
    | refine fin_seq_e ?_
    | refine fin_seq_r ?_
    | refine fin_blk ?_
    | refine fin_blk_e ?_
    | refine fin_blk_x rfl ?_
    | refine fin_blk_r ?_
    | refine fin_loop_e ?_
    | refine fin_loop_r ?_
    | refine run_cond_t rfl (by first | with_reducible rfl | assumption | decide) ?_
    | refine run_cond_f rfl (by first | with_reducible rfl | assumption | decide) ?_)
  exact fin_out rfl rfl
set_option maxHeartbeats 16000000 in
theorem law_TableDoesB (l : List Pair) (sp : List (List PV)) (x : Pair) (hb : (l.length + 1) * 24 ≤ 140737488355328) (hd0 : (dropL pairCmp x l = [])) : Ret Try.prog 3 [.sl (l.map Pair.enc) sp, .agg x.enc] (.v (.bool true)) := by
  refine ret3B rfl fun hbd => ?_
  clear hbd
  have hlm : (l.map Pair.enc).length = l.length := List.length_map ..
  have hb0 : l.length * 24 ≤ 140737488355328 := Nat.le_trans (Nat.mul_le_mul_right 24 (Nat.le_succ _)) hb
  have he : ∀ z ∈ l.map Pair.enc, z.length = 2 := by intro z hz; obtain ⟨y, _, rfl⟩ := List.mem_map.1 hz; rfl
  have he2 : ∀ z ∈ [behindE], z.length = 2 := by intro z hz; simp at hz; subst hz; rfl
  have hl0 : (([] : List (List PV)).length + (l.map Pair.enc).length) * 24 ≤ 140737488355328 := by rw [hlm, List.length_nil, Nat.zero_add]; exact hb0
  have hl1 : ((([] : List (List PV)) ++ l.map Pair.enc).length + [behindE].length) * 24 ≤ 140737488355328 := by rw [List.nil_append, hlm]; exact hb
  have hA : (l.map Pair.enc ++ [behindE]).take (l.map Pair.enc).length = l.map Pair.enc := by simp
  have hB : (l.map Pair.enc ++ [behindE]).drop (l.map Pair.enc).length = [behindE] := by simp
  have hj : ∀ (A C : List (List PV)), A.length ≤ (([] ++ A) ++ C).length := fun A C => by rw [List.length_append, List.length_append]; omega
  have hj2 : ∀ (A C : List (List PV)), A.length + C.length ≤ (A ++ C).length := fun A C => by rw [List.length_append]; exact Nat.le_refl _
  have hle : (l.map Pair.enc).length ≤ (l.map Pair.enc ++ [behindE]).length := by rw [List.length_append]; omega
  have cg := refFind11 x l sp
  rw [← nmQ_eq] at cg
  have cf : Ret Try.prog 10 [.agg [.clo 22 []], .sl ((l.map Pair.enc ++ [behindE]).take (l.map Pair.enc).length) ((l.map Pair.enc ++ [behindE]).drop (l.map Pair.enc).length), .agg x.enc] (.tup [.v (.int .i64 (findI (eqQ pairCmp x) l)), .v (.bool (findB (eqQ pairCmp x) l))]) := by
    rw [hA, hB]; exact find10 Pair.enc (fun _ => rfl) 22 pairCmp order22 x l [behindE]
  generalize findI (eqQ pairCmp x) l = fi at cf cg
  generalize findB (eqQ pairCmp x) l = fb at cf cg
  have hp0 := putL_ne x l
  have hpl : (putL pairCmp x l).length ≤ 9223372036854775806 := by have := (putL_length pairCmp x l).2; omega
  have hdl : (dropL pairCmp x l).length ≤ 9223372036854775806 := by have := dropL_length pairCmp x l; omega
  have cp : RetN Try.prog 12 [.agg [.clo 22 []], .sl ((l.map Pair.enc ++ [behindE]).take (l.map Pair.enc).length) ((l.map Pair.enc ++ [behindE]).drop (l.map Pair.enc).length), .agg x.enc] 24 2 ((putL pairCmp x l).map Pair.enc) := by
    rw [hA, hB]; exact put12 Pair.enc (fun _ => rfl) 22 pairCmp order22 x l [behindE] hb
  have cq := (refPut13 x l sp hb).ret
  have cd : RetN Try.prog 14 [.agg [.clo 22 []], .sl ((l.map Pair.enc ++ [behindE]).take (l.map Pair.enc).length) ((l.map Pair.enc ++ [behindE]).drop (l.map Pair.enc).length), .agg x.enc] 24 2 ((dropL pairCmp x l).map Pair.enc) := by
    rw [hA, hB]; exact drop14 Pair.enc (fun _ => rfl) 22 pairCmp order22 x l [behindE] hb0
  have ce := (refDrop18 x l sp hb0).ret
  have ck : RetN Try.prog 15 [.sl ((l.map Pair.enc ++ [behindE]).take (l.map Pair.enc).length) ((l.map Pair.enc ++ [behindE]).drop (l.map Pair.enc).length), .clo 16 [.ref x.enc 0]] 24 2 ((l.filter (geN x)).map Pair.enc) := by
    rw [hA, hB]; exact keep15 16 [.ref x.enc 0] (geN x) l [behindE] (fun y _ => closure16 x y) hb0
  have c19 : Ret Try.prog 19 [.agg [.clo 22 []], .sl ((l.map Pair.enc ++ [behindE]).take (l.map Pair.enc).length) ((l.map Pair.enc ++ [behindE]).drop (l.map Pair.enc).length)] (.v (.bool (risesB l))) := by
    rw [hA, hB]; exact rises19 l [behindE]
  have c20 := refRises20 l sp
  generalize risesB l = rb at c19 c20
  have c17 : Ret Try.prog 17 [.sl ((l.map Pair.enc ++ [behindE]).take (l.map Pair.enc).length) ((l.map Pair.enc ++ [behindE]).drop (l.map Pair.enc).length), .sl (l.map Pair.enc) sp] (.v (.bool true)) := by
    rw [hA, hB]; exact sm l [behindE] sp
  have hbe : (l.map Pair.enc ++ [behindE])[(l.map Pair.enc).length]? = some behindE := by simp
  generalize putL pairCmp x l = pP at *
  generalize dropL pairCmp x l = dD at *
  have cB : Ret Try.prog 17 [.sl ((dD.map Pair.enc).take (dD.map Pair.enc).length) ((dD.map Pair.enc).drop (dD.map Pair.enc).length), .sl (dD.map Pair.enc) []] (.v (.bool true)) := by
    rw [List.take_length, List.drop_length]; exact sm dD [] []
  unfold c3B
  repeat (first
    | refine r_call rfl (pairs9) ?_
    | refine r_appRow (fs := []) rfl rfl rfl rfl rfl rfl he hl0 (by decide) (Or.inr rfl) ?_
    | refine r_appRow (fs := [25]) rfl rfl List.length_append.symm rfl rfl rfl he2 hl1 (by decide) (Or.inr rfl) ?_
    | refine r_slcR rfl rfl (hj2 _ _) rfl (hj _ _) ?_
    | refine r_callF (resL_cons rfl (resL_cons (res_row rfl rfl hle) (resL_cons rfl rfl))) rfl rfl cf ?_
    | refine r_call rfl (cg) ?_
    | refine r_calln (resL_cons rfl (resL_cons (res_row rfl rfl hle) (resL_cons rfl rfl))) rfl rfl cp rfl ?_
    | refine r_call rfl (cq) ?_
    | refine r_calln (resL_cons rfl (resL_cons (res_row rfl rfl hle) (resL_cons rfl rfl))) rfl rfl cd rfl ?_
    | refine r_calln (resL_cons (res_row rfl rfl hle) (resL_cons rfl rfl)) rfl rfl ck rfl ?_
    | refine r_mv_p rfl ?_
    | refine r_do rfl (by first | with_reducible rfl | assumption | decide) ?_
    | refine r_skip rfl (by first | with_reducible rfl | assumption | decide) ?_
    | refine r_skipU rfl ?_
    | refine r_fad rfl rfl ?_
    | refine r_add rfl rfl (by omega) ?_
    | refine r_sub rfl rfl (by omega) ?_
    | refine r_loadAll rfl (by first | rfl | assumption) ?_
    | refine r_loadAllB rfl rfl (by first | rfl | assumption) ?_
    | refine r_pick_t rfl (by first | with_reducible rfl | assumption | decide) rfl rfl ?_
    | refine r_pick_f rfl (by first | with_reducible rfl | assumption | decide) rfl rfl ?_
    | refine r_sem rfl rfl rfl rfl ?_
    | refine r_nil ?_
    | refine r_iad rfl rfl (by omega) (by assumption) (by first | rfl | assumption | omega | (simp; done) | (simp; omega)) ?_
    | refine r_storeAll rfl rfl rfl rfl rfl rfl ?_
    | refine r_store rfl rfl rfl rfl (by decide) ?_
    | refine r_store rfl rfl rfl rfl (And.intro rfl (Nat.le_of_ble_eq_true rfl)) ?_
    | refine r_alloc rfl ?_
    | refine r_box rfl rfl rfl ?_
    | refine r_bsl rfl rfl rfl rfl rfl rfl ?_
    | refine r_bsl1 rfl (by assumption) rfl ?_
    | refine r_mkmap rfl ?_
    | refine r_mv_nil rfl ?_
    | refine r_mv_own rfl rfl ?_
    | refine r_mv_mp rfl rfl ?_
    | refine r_mv_row rfl rfl (by first | rfl | assumption | omega | (simp; done) | (simp; omega)) ?_
    | refine r_mv_rp rfl rfl (by first | rfl | assumption | omega | (simp; done) | (simp; omega)) ?_
    | refine r_fad_rp rfl rfl (by first | rfl | assumption | omega | (simp; done) | (simp; omega)) ?_
    | refine r_iad_row rfl rfl (by first | rfl | assumption | omega | (simp; done) | (simp; omega)) rfl (by first | rfl | assumption | omega | (simp; done) | (simp; omega)) ?_
    | refine r_skip0 rfl (by first | with_reducible rfl | assumption | decide) ?_
    | refine r_skipU0 rfl ?_
    | refine r_semF rfl rfl rfl rfl ?_
    | refine r_load_rp rfl rfl (by assumption) rfl ?_
    | refine r_len_row rfl rfl (by first | rfl | assumption | omega | (simp; done) | (simp; omega)) ?_
    | refine run_seq ?_
    | refine run_reg ?_
    | refine run_regd rfl ?_
    | refine run_regs rfl ?_
    | refine fin_far rfl ?_
    | refine run_block ?_
    | refine run_skip ?_
    | refine run_exit ?_
    | refine run_ret ?_
    | refine fin_seq ?_
    | refine fin_seq_e ?_
    | refine fin_seq_r ?_
    | refine fin_blk ?_
    | refine fin_blk_e ?_
    | refine fin_blk_x rfl ?_
    | refine fin_blk_r ?_
    | refine fin_loop_e ?_
    | refine fin_loop_r ?_
    | refine run_cond_t rfl (by first | with_reducible rfl | assumption | decide) ?_
    | refine run_cond_f rfl (by first | with_reducible rfl | assumption | decide) ?_)
  refine run_weak (weak_S ?_ ?_) (run_inv (fun i : Nat => S [(0, .p (.sl (l.map Pair.enc) sp)), (3, .own 3 0), (5, .row 26 (l.map Pair.enc).length), (6, .p (.v (.int .i64 fi))), (7, .p (.v (.bool fb))), (8, .p (.v (.int .i64 fi))), (9, .p (.v (.bool fb))), (10, .row 47 (pP.map Pair.enc).length), (11, .p (.sl (pP.map Pair.enc) [])), (12, .row 54 (dD.map Pair.enc).length), (13, .row 57 ((l.filter (geN x)).map Pair.enc).length), (14, .p (.v (.int .i64 (((l.take i).filter (geN x)).length : Nat)))), (15, .p (.v (.int .i64 (i : Nat))))]
    [(3, some (.box x.enc true)), (26, some (.row 24 2 (l.map Pair.enc ++ [behindE]) true)), (47, some (.row 24 2 (pP.map Pair.enc) false)), (54, some (.row 24 2 (dD.map Pair.enc) false)), (57, some (.row 24 2 ((l.filter (geN x)).map Pair.enc) false))])
    (fun i => i ≤ l.length) (fun i => l.length - i) ?_ 0 (Nat.zero_le _))
  · exact ⟨rfl, rfl, rfl, rfl, rfl, rfl, rfl, rfl, rfl, rfl, rfl, rfl, rfl, trivial⟩
  · exact ⟨rfl, rfl, rfl, rfl, rfl, trivial⟩
  clear cf cg cp cq cd ck hl0 hl1 he he2 hj hj2
  intro i hi ih
  repeat (first
    | refine r_mv_p rfl ?_
    | refine r_do rfl (by first | with_reducible rfl | assumption | decide) ?_
    | refine r_skip rfl (by first | with_reducible rfl | assumption | decide) ?_
    | refine r_skipU rfl ?_
    | refine r_fad rfl rfl ?_
    | refine r_add rfl rfl (by omega) ?_
    | refine r_sub rfl rfl (by omega) ?_
    | refine r_loadAll rfl (by first | rfl | assumption) ?_
    | refine r_loadAllB rfl rfl (by first | rfl | assumption) ?_
    | refine r_pick_t rfl (by first | with_reducible rfl | assumption | decide) rfl rfl ?_
    | refine r_pick_f rfl (by first | with_reducible rfl | assumption | decide) rfl rfl ?_
    | refine r_sem rfl rfl rfl rfl ?_
    | refine r_nil ?_
    | refine r_iad rfl rfl (by omega) (by assumption) (by first | rfl | assumption | omega | (simp; done) | (simp; omega)) ?_
    | refine r_storeAll rfl rfl rfl rfl rfl rfl ?_
    | refine r_store rfl rfl rfl rfl (by decide) ?_
    | refine r_store rfl rfl rfl rfl (And.intro rfl (Nat.le_of_ble_eq_true rfl)) ?_
    | refine r_alloc rfl ?_
    | refine r_box rfl rfl rfl ?_
    | refine r_bsl rfl rfl rfl rfl rfl rfl ?_
    | refine r_bsl1 rfl (by assumption) rfl ?_
    | refine r_mkmap rfl ?_
    | refine r_mv_nil rfl ?_
    | refine r_mv_own rfl rfl ?_
    | refine r_mv_mp rfl rfl ?_
    | refine r_mv_row rfl rfl (by first | rfl | assumption | omega | (simp; done) | (simp; omega)) ?_
    | refine r_mv_rp rfl rfl (by first | rfl | assumption | omega | (simp; done) | (simp; omega)) ?_
    | refine r_fad_rp rfl rfl (by first | rfl | assumption | omega | (simp; done) | (simp; omega)) ?_
    | refine r_iad_row rfl rfl (by first | rfl | assumption | omega | (simp; done) | (simp; omega)) rfl (by first | rfl | assumption | omega | (simp; done) | (simp; omega)) ?_
    | refine r_skip0 rfl (by first | with_reducible rfl | assumption | decide) ?_
    | refine r_skipU0 rfl ?_
    | refine r_semF rfl rfl rfl rfl ?_
    | refine r_load_rp rfl rfl (by assumption) rfl ?_
    | refine r_len_row rfl rfl (by first | rfl | assumption | omega | (simp; done) | (simp; omega)) ?_
    | refine run_seq ?_
    | refine run_reg ?_
    | refine run_regd rfl ?_
    | refine run_regs rfl ?_
    | refine fin_far rfl ?_
    | refine run_block ?_
    | refine run_skip ?_
    | refine run_exit ?_
    | refine run_ret ?_
    | refine fin_seq ?_
    | refine fin_seq_e ?_
    | refine fin_seq_r ?_
    | refine fin_blk ?_
    | refine fin_blk_e ?_
    | refine fin_blk_x rfl ?_
    | refine fin_blk_r ?_
    | refine fin_loop_e ?_
    | refine fin_loop_r ?_
    | refine run_cond_t rfl (by first | with_reducible rfl | assumption | decide) ?_
    | refine run_cond_f rfl (by first | with_reducible rfl | assumption | decide) ?_)
  refine run_cond rfl (fun h => ?_) (fun h => ?_)
  · have hlt : i < l.length := by simpa using h
    have hx : (l.map Pair.enc)[i]? = some l[i].enc := by simp [hlt]
    have hnext := ih (i + 1) hlt (by omega)
    clear ih
    cases hq : decide (x.n ≤ l[i].n) with
    | true =>
      obtain ⟨q1, q2, q3⟩ := filter_at (geN x) l i hlt hq
      rw [q3] at hnext
      have hkm : ((l.filter (geN x)).map Pair.enc).length = (l.filter (geN x)).length := List.length_map ..
      have hkx : ((l.filter (geN x)).map Pair.enc)[((l.take i).filter (geN x)).length]? = some l[i].enc := by rw [List.getElem?_map, q1]; rfl
      have hge : decide (((((l.filter (geN x)).map Pair.enc).length : Nat) : Int) ≤ ((((l.take i).filter (geN x)).length : Nat) : Int)) = false := by rw [decide_eq_false_iff_not]; omega
      have hfl : ((l.take i).filter (geN x)).length < l.length := Nat.lt_of_lt_of_le q2 (List.length_filter_le _ _)
      repeat (first
        | refine r_eqsT rfl rfl (pair_eqs l[i]) ?_
        | refine r_mv_p rfl ?_
        | refine r_do rfl (by first | with_reducible rfl | assumption | decide) ?_
        | refine r_skip rfl (by first | with_reducible rfl | assumption | decide) ?_
        | refine r_skipU rfl ?_
        | refine r_fad rfl rfl ?_
        | refine r_add rfl rfl (by omega) ?_
        | refine r_sub rfl rfl (by omega) ?_
        | refine r_loadAll rfl (by first | rfl | assumption) ?_
        | refine r_loadAllB rfl rfl (by first | rfl | assumption) ?_
        | refine r_pick_t rfl (by first | with_reducible rfl | assumption | decide) rfl rfl ?_
        | refine r_pick_f rfl (by first | with_reducible rfl | assumption | decide) rfl rfl ?_
        | refine r_sem rfl rfl rfl rfl ?_
        | refine r_nil ?_
        | refine r_iad rfl rfl (by omega) (by assumption) (by first | rfl | assumption | omega | (simp; done) | (simp; omega)) ?_
        | refine r_storeAll rfl rfl rfl rfl rfl rfl ?_
        | refine r_store rfl rfl rfl rfl (by decide) ?_
        | refine r_store rfl rfl rfl rfl (And.intro rfl (Nat.le_of_ble_eq_true rfl)) ?_
        | refine r_alloc rfl ?_
        | refine r_box rfl rfl rfl ?_
        | refine r_bsl rfl rfl rfl rfl rfl rfl ?_
        | refine r_bsl1 rfl (by assumption) rfl ?_
        | refine r_mkmap rfl ?_
        | refine r_mv_nil rfl ?_
        | refine r_mv_own rfl rfl ?_
        | refine r_mv_mp rfl rfl ?_
        | refine r_mv_row rfl rfl (by first | rfl | assumption | omega | (simp; done) | (simp; omega)) ?_
        | refine r_mv_rp rfl rfl (by first | rfl | assumption | omega | (simp; done) | (simp; omega)) ?_
        | refine r_fad_rp rfl rfl (by first | rfl | assumption | omega | (simp; done) | (simp; omega)) ?_
        | refine r_iad_row rfl rfl (by first | rfl | assumption | omega | (simp; done) | (simp; omega)) rfl (by first | rfl | assumption | omega | (simp; done) | (simp; omega)) ?_
        | refine r_skip0 rfl (by first | with_reducible rfl | assumption | decide) ?_
        | refine r_skipU0 rfl ?_
        | refine r_semF rfl rfl rfl rfl ?_
        | refine r_load_rp rfl rfl (by assumption) rfl ?_
        | refine r_len_row rfl rfl (by first | rfl | assumption | omega | (simp; done) | (simp; omega)) ?_
        | refine run_seq ?_
        | refine run_reg ?_
        | refine run_regd rfl ?_
        | refine run_regs rfl ?_
        | refine fin_far rfl ?_
        | refine run_block ?_
        | refine run_skip ?_
        | refine run_exit ?_
        | refine run_ret ?_
        | refine fin_seq ?_
        | refine fin_seq_e ?_
        | refine fin_seq_r ?_
        | refine fin_blk ?_
        | refine fin_blk_e ?_
        | refine fin_blk_x rfl ?_
        | refine fin_blk_r ?_
        | refine fin_loop_e ?_
        | refine fin_loop_r ?_
        | refine run_cond_t rfl (by first | with_reducible rfl | assumption | decide) ?_
        | refine run_cond_f rfl (by first | with_reducible rfl | assumption | decide) ?_)
      refine fin_loop (run_weak (weak_S ?_ ?_) hnext)
      · exact ⟨rfl, rfl, rfl, rfl, rfl, rfl, rfl, rfl, rfl, rfl, rfl, rfl, rfl, trivial⟩
      · exact ⟨rfl, rfl, rfl, rfl, rfl, trivial⟩
    | false =>
      have q3 := filter_not (geN x) l i hlt hq
      rw [q3] at hnext
      repeat (first
        | refine r_mv_p rfl ?_
        | refine r_do rfl (by first | with_reducible rfl | assumption | decide) ?_
        | refine r_skip rfl (by first | with_reducible rfl | assumption | decide) ?_
        | refine r_skipU rfl ?_
        | refine r_fad rfl rfl ?_
        | refine r_add rfl rfl (by omega) ?_
        | refine r_sub rfl rfl (by omega) ?_
        | refine r_loadAll rfl (by first | rfl | assumption) ?_
        | refine r_loadAllB rfl rfl (by first | rfl | assumption) ?_
        | refine r_pick_t rfl (by first | with_reducible rfl | assumption | decide) rfl rfl ?_
        | refine r_pick_f rfl (by first | with_reducible rfl | assumption | decide) rfl rfl ?_
        | refine r_sem rfl rfl rfl rfl ?_
        | refine r_nil ?_
        | refine r_iad rfl rfl (by omega) (by assumption) (by first | rfl | assumption | omega | (simp; done) | (simp; omega)) ?_
        | refine r_storeAll rfl rfl rfl rfl rfl rfl ?_
        | refine r_store rfl rfl rfl rfl (by decide) ?_
        | refine r_store rfl rfl rfl rfl (And.intro rfl (Nat.le_of_ble_eq_true rfl)) ?_
        | refine r_alloc rfl ?_
        | refine r_box rfl rfl rfl ?_
        | refine r_bsl rfl rfl rfl rfl rfl rfl ?_
        | refine r_bsl1 rfl (by assumption) rfl ?_
        | refine r_mkmap rfl ?_
        | refine r_mv_nil rfl ?_
        | refine r_mv_own rfl rfl ?_
        | refine r_mv_mp rfl rfl ?_
        | refine r_mv_row rfl rfl (by first | rfl | assumption | omega | (simp; done) | (simp; omega)) ?_
        | refine r_mv_rp rfl rfl (by first | rfl | assumption | omega | (simp; done) | (simp; omega)) ?_
        | refine r_fad_rp rfl rfl (by first | rfl | assumption | omega | (simp; done) | (simp; omega)) ?_
        | refine r_iad_row rfl rfl (by first | rfl | assumption | omega | (simp; done) | (simp; omega)) rfl (by first | rfl | assumption | omega | (simp; done) | (simp; omega)) ?_
        | refine r_skip0 rfl (by first | with_reducible rfl | assumption | decide) ?_
        | refine r_skipU0 rfl ?_
        | refine r_semF rfl rfl rfl rfl ?_
        | refine r_load_rp rfl rfl (by assumption) rfl ?_
        | refine r_len_row rfl rfl (by first | rfl | assumption | omega | (simp; done) | (simp; omega)) ?_
        | refine run_seq ?_
        | refine run_reg ?_
        | refine run_regd rfl ?_
        | refine run_regs rfl ?_
        | refine fin_far rfl ?_
        | refine run_block ?_
        | refine run_skip ?_
        | refine run_exit ?_
        | refine run_ret ?_
        | refine fin_seq ?_
        | refine fin_seq_e ?_
        | refine fin_seq_r ?_
        | refine fin_blk ?_
        | refine fin_blk_e ?_
        | refine fin_blk_x rfl ?_
        | refine fin_blk_r ?_
        | refine fin_loop_e ?_
        | refine fin_loop_r ?_
        | refine run_cond_t rfl (by first | with_reducible rfl | assumption | decide) ?_
        | refine run_cond_f rfl (by first | with_reducible rfl | assumption | decide) ?_)
      refine fin_loop (run_weak (weak_S ?_ ?_) hnext)
      · exact ⟨rfl, rfl, rfl, rfl, rfl, rfl, rfl, rfl, rfl, rfl, rfl, rfl, rfl, trivial⟩
      · exact ⟨rfl, rfl, rfl, rfl, rfl, trivial⟩
  have hil : i = l.length := by simp at h; omega
  have hn : ((l.take i).filter (geN x)).length = ((l.filter (geN x)).map Pair.enc).length := by rw [hil, List.take_length, List.length_map]
  rw [hn]
  clear hn ih h hil hi
  have hkl : (l.filter (geN x)).length ≤ 9223372036854775806 := by have := List.length_filter_le (geN x) l; omega
  generalize l.filter (geN x) = kK at *
  have he1 : decide (fi = fi) = true := by simp
  have he2 : (false != decide (fb = fb)) = true := by simp
  have he3 : decide ((((kK.map Pair.enc).length : Nat) : Int) = (((kK.map Pair.enc).length : Nat) : Int)) = true := by simp
  have he4 : (false != decide (rb = rb)) = true := by simp
  repeat (first
    | refine r_call rfl (pairs9) ?_
    | refine r_callu (fs := []) rfl rfl rfl rfl rfl rfl (lent17 pP [] hp0 hpl) (by decide) ?_
    | refine r_call rfl (ce) ?_
    | refine r_callF (resL_cons (res_row rfl rfl (Nat.le_refl _)) (resL_cons rfl rfl)) rfl rfl cB ?_
    | refine r_callF (resL_cons rfl (resL_cons (res_row rfl rfl hle) rfl)) rfl rfl c19 ?_
    | refine r_call rfl (c20) ?_
    | refine r_callF (resL_cons (res_row rfl rfl hle) (resL_cons rfl rfl)) rfl rfl c17 ?_
    | refine r_mv_p rfl ?_
    | refine r_do rfl (by first | with_reducible rfl | assumption | decide) ?_
    | refine r_skip rfl (by first | with_reducible rfl | assumption | decide) ?_
    | refine r_skipU rfl ?_
    | refine r_fad rfl rfl ?_
    | refine r_add rfl rfl (by omega) ?_
    | refine r_sub rfl rfl (by omega) ?_
    | refine r_loadAll rfl (by first | rfl | assumption) ?_
    | refine r_loadAllB rfl rfl (by first | rfl | assumption) ?_
    | refine r_pick_t rfl (by first | with_reducible rfl | assumption | decide) rfl rfl ?_
    | refine r_pick_f rfl (by first | with_reducible rfl | assumption | decide) rfl rfl ?_
    | refine r_sem rfl rfl rfl rfl ?_
    | refine r_nil ?_
    | refine r_iad rfl rfl (by omega) (by assumption) (by first | rfl | assumption | omega | (simp; done) | (simp; omega)) ?_
    | refine r_storeAll rfl rfl rfl rfl rfl rfl ?_
    | refine r_store rfl rfl rfl rfl (by decide) ?_
    | refine r_store rfl rfl rfl rfl (And.intro rfl (Nat.le_of_ble_eq_true rfl)) ?_
    | refine r_alloc rfl ?_
    | refine r_box rfl rfl rfl ?_
    | refine r_bsl rfl rfl rfl rfl rfl rfl ?_
    | refine r_bsl1 rfl (by assumption) rfl ?_
    | refine r_mkmap rfl ?_
    | refine r_mv_nil rfl ?_
    | refine r_mv_own rfl rfl ?_
    | refine r_mv_mp rfl rfl ?_
    | refine r_mv_row rfl rfl (by first | rfl | assumption | omega | (simp; done) | (simp; omega)) ?_
    | refine r_mv_rp rfl rfl (by first | rfl | assumption | omega | (simp; done) | (simp; omega)) ?_
    | refine r_fad_rp rfl rfl (by first | rfl | assumption | omega | (simp; done) | (simp; omega)) ?_
    | refine r_iad_row rfl rfl (by first | rfl | assumption | omega | (simp; done) | (simp; omega)) rfl (by first | rfl | assumption | omega | (simp; done) | (simp; omega)) ?_
    | refine r_skip0 rfl (by first | with_reducible rfl | assumption | decide) ?_
    | refine r_skipU0 rfl ?_
    | refine r_semF rfl rfl rfl rfl ?_
    | refine r_load_rp rfl rfl (by assumption) rfl ?_
    | refine r_len_row rfl rfl (by first | rfl | assumption | omega | (simp; done) | (simp; omega)) ?_
    | refine run_seq ?_
    | refine run_reg ?_
    | refine run_regd rfl ?_
    | refine run_regs rfl ?_
    | refine fin_far rfl ?_
    | refine run_block ?_
    | refine run_skip ?_
    | refine run_exit ?_
    | refine run_ret ?_
    | refine fin_seq ?_
    | refine fin_seq_e ?_
    | refine fin_seq_r ?_
    | refine fin_blk ?_
    | refine fin_blk_e ?_
    | refine fin_blk_x rfl ?_
    | refine fin_blk_r ?_
    | refine fin_loop_e ?_
    | refine fin_loop_r ?_
    | refine run_cond_t rfl (by first | with_reducible rfl | assumption | decide) ?_
    | refine run_cond_f rfl (by first | with_reducible rfl | assumption | decide) ?_)
  refine run_weak (weak_S ?_ ?_) (run_inv (fun q : Nat × List (List PV) => S [(0, .p (.sl (l.map Pair.enc) sp)), (5, .row 26 (l.map Pair.enc).length), (10, .row 47 (pP.map Pair.enc).length), (12, .row 54 (dD.map Pair.enc).length), (13, .row 57 (kK.map Pair.enc).length), (16, .p (.v (.bool true))), (17, .p (.v (.int .i64 (q.1 : Nat))))]
    [(26, some (.row 24 2 (l.map Pair.enc ++ [behindE]) true)), (47, some (.row 24 2 q.2 false)), (54, some (.row 24 2 (dD.map Pair.enc) true)), (57, some (.row 24 2 (kK.map Pair.enc) false))])
    (fun q => q.1 ≤ (pP.map Pair.enc).length ∧ q.2.length = (pP.map Pair.enc).length) (fun q => (pP.map Pair.enc).length - q.1) ?_ (0, pP.map Pair.enc) ⟨Nat.zero_le _, rfl⟩)
  · exact ⟨rfl, rfl, rfl, rfl, rfl, rfl, rfl, trivial⟩
  · exact ⟨rfl, rfl, rfl, rfl, trivial⟩
  clear he1 he2 he3 he4 ce c19 c20 cB hp0
  rintro ⟨i, zs⟩ ⟨hi, hzl⟩ ih
  simp only at hi hzl
  have hzle : (pP.map Pair.enc).length ≤ zs.length := by omega
  repeat (first
    | refine r_mv_p rfl ?_
    | refine r_do rfl (by first | with_reducible rfl | assumption | decide) ?_
    | refine r_skip rfl (by first | with_reducible rfl | assumption | decide) ?_
    | refine r_skipU rfl ?_
    | refine r_fad rfl rfl ?_
    | refine r_add rfl rfl (by omega) ?_
    | refine r_sub rfl rfl (by omega) ?_
    | refine r_loadAll rfl (by first | rfl | assumption) ?_
    | refine r_loadAllB rfl rfl (by first | rfl | assumption) ?_
    | refine r_pick_t rfl (by first | with_reducible rfl | assumption | decide) rfl rfl ?_
    | refine r_pick_f rfl (by first | with_reducible rfl | assumption | decide) rfl rfl ?_
    | refine r_sem rfl rfl rfl rfl ?_
    | refine r_nil ?_
    | refine r_iad rfl rfl (by omega) (by assumption) (by first | rfl | assumption | omega | (simp; done) | (simp; omega)) ?_
    | refine r_storeAll rfl rfl rfl rfl rfl rfl ?_
    | refine r_store rfl rfl rfl rfl (by decide) ?_
    | refine r_store rfl rfl rfl rfl (And.intro rfl (Nat.le_of_ble_eq_true rfl)) ?_
    | refine r_alloc rfl ?_
    | refine r_box rfl rfl rfl ?_
    | refine r_bsl rfl rfl rfl rfl rfl rfl ?_
    | refine r_bsl1 rfl (by assumption) rfl ?_
    | refine r_mkmap rfl ?_
    | refine r_mv_nil rfl ?_
    | refine r_mv_own rfl rfl ?_
    | refine r_mv_mp rfl rfl ?_
    | refine r_mv_row rfl rfl (by first | rfl | assumption | omega | (simp; done) | (simp; omega)) ?_
    | refine r_mv_rp rfl rfl (by first | rfl | assumption | omega | (simp; done) | (simp; omega)) ?_
    | refine r_fad_rp rfl rfl (by first | rfl | assumption | omega | (simp; done) | (simp; omega)) ?_
    | refine r_iad_row rfl rfl (by first | rfl | assumption | omega | (simp; done) | (simp; omega)) rfl (by first | rfl | assumption | omega | (simp; done) | (simp; omega)) ?_
    | refine r_skip0 rfl (by first | with_reducible rfl | assumption | decide) ?_
    | refine r_skipU0 rfl ?_
    | refine r_semF rfl rfl rfl rfl ?_
    | refine r_load_rp rfl rfl (by assumption) rfl ?_
    | refine r_len_row rfl rfl (by first | rfl | assumption | omega | (simp; done) | (simp; omega)) ?_
    | refine run_seq ?_
    | refine run_reg ?_
    | refine run_regd rfl ?_
    | refine run_regs rfl ?_
    | refine fin_far rfl ?_
    | refine run_block ?_
    | refine run_skip ?_
    | refine run_exit ?_
    | refine run_ret ?_
    | refine fin_seq ?_
    | refine fin_seq_e ?_
    | refine fin_seq_r ?_
    | refine fin_blk ?_
    | refine fin_blk_e ?_
    | refine fin_blk_x rfl ?_
    | refine fin_blk_r ?_
    | refine fin_loop_e ?_
    | refine fin_loop_r ?_
    | refine run_cond_t rfl (by first | with_reducible rfl | assumption | decide) ?_
    | refine run_cond_f rfl (by first | with_reducible rfl | assumption | decide) ?_)
  refine run_cond rfl (fun h => ?_) (fun h => ?_)
  · have hlt : i < (pP.map Pair.enc).length := by simpa using h
    have hib : (0 : Int) ≤ ((i : Nat) : Int) ∧ ((i : Nat) : Int) < (((pP.map Pair.enc).length : Nat) : Int) := by omega
    have hml : (pP.map Pair.enc).length = pP.length := List.length_map ..
    obtain ⟨cc, hzi⟩ : ∃ cc, zs[i]? = some cc := ⟨zs[i]'(by omega), List.getElem?_eq_getElem (by omega)⟩
    have hnext := fun w => ih (i + 1, zs.set i w) ⟨hlt, by simpa using hzl⟩ (by simp only; omega)
    clear ih
    repeat (first
      | refine r_store_rp rfl rfl hzi rfl rfl (And.intro rfl (Nat.le_refl 2)) ?_
      | refine r_mv_p rfl ?_
      | refine r_do rfl (by first | with_reducible rfl | assumption | decide) ?_
      | refine r_skip rfl (by first | with_reducible rfl | assumption | decide) ?_
      | refine r_skipU rfl ?_
      | refine r_fad rfl rfl ?_
      | refine r_add rfl rfl (by omega) ?_
      | refine r_sub rfl rfl (by omega) ?_
      | refine r_loadAll rfl (by first | rfl | assumption) ?_
      | refine r_loadAllB rfl rfl (by first | rfl | assumption) ?_
      | refine r_pick_t rfl (by first | with_reducible rfl | assumption | decide) rfl rfl ?_
      | refine r_pick_f rfl (by first | with_reducible rfl | assumption | decide) rfl rfl ?_
      | refine r_sem rfl rfl rfl rfl ?_
      | refine r_nil ?_
      | refine r_iad rfl rfl (by omega) (by assumption) (by first | rfl | assumption | omega | (simp; done) | (simp; omega)) ?_
      | refine r_storeAll rfl rfl rfl rfl rfl rfl ?_
      | refine r_store rfl rfl rfl rfl (by decide) ?_
      | refine r_store rfl rfl rfl rfl (And.intro rfl (Nat.le_of_ble_eq_true rfl)) ?_
      | refine r_alloc rfl ?_
      | refine r_box rfl rfl rfl ?_
      | refine r_bsl rfl rfl rfl rfl rfl rfl ?_
      | refine r_bsl1 rfl (by assumption) rfl ?_
      | refine r_mkmap rfl ?_
      | refine r_mv_nil rfl ?_
      | refine r_mv_own rfl rfl ?_
      | refine r_mv_mp rfl rfl ?_
      | refine r_mv_row rfl rfl (by first | rfl | assumption | omega | (simp; done) | (simp; omega)) ?_
      | refine r_mv_rp rfl rfl (by first | rfl | assumption | omega | (simp; done) | (simp; omega)) ?_
      | refine r_fad_rp rfl rfl (by first | rfl | assumption | omega | (simp; done) | (simp; omega)) ?_
      | refine r_iad_row rfl rfl (by first | rfl | assumption | omega | (simp; done) | (simp; omega)) rfl (by first | rfl | assumption | omega | (simp; done) | (simp; omega)) ?_
      | refine r_skip0 rfl (by first | with_reducible rfl | assumption | decide) ?_
      | refine r_skipU0 rfl ?_
      | refine r_semF rfl rfl rfl rfl ?_
      | refine r_load_rp rfl rfl (by assumption) rfl ?_
      | refine r_len_row rfl rfl (by first | rfl | assumption | omega | (simp; done) | (simp; omega)) ?_
      | refine run_seq ?_
      | refine run_reg ?_
      | refine run_regd rfl ?_
      | refine run_regs rfl ?_
      | refine fin_far rfl ?_
      | refine run_block ?_
      | refine run_skip ?_
      | refine run_exit ?_
      | refine run_ret ?_
      | refine fin_seq ?_
      | refine fin_seq_e ?_
      | refine fin_seq_r ?_
      | refine fin_blk ?_
      | refine fin_blk_e ?_
      | refine fin_blk_x rfl ?_
      | refine fin_blk_r ?_
      | refine fin_loop_e ?_
      | refine fin_loop_r ?_
      | refine run_cond_t rfl (by first | with_reducible rfl | assumption | decide) ?_
      | refine run_cond_f rfl (by first | with_reducible rfl | assumption | decide) ?_)
    refine fin_loop (run_weak (weak_S ?_ ?_) (hnext (splice cc 0 writtenE)))
    · exact ⟨rfl, rfl, rfl, rfl, rfl, rfl, rfl, trivial⟩
    · exact ⟨rfl, rfl, rfl, rfl, trivial⟩
  clear ih h hi hzl hzle
  repeat (first
    | refine r_mv_p rfl ?_
    | refine r_do rfl (by first | with_reducible rfl | assumption | decide) ?_
    | refine r_skip rfl (by first | with_reducible rfl | assumption | decide) ?_
    | refine r_skipU rfl ?_
    | refine r_fad rfl rfl ?_
    | refine r_add rfl rfl (by omega) ?_
    | refine r_sub rfl rfl (by omega) ?_
    | refine r_loadAll rfl (by first | rfl | assumption) ?_
    | refine r_loadAllB rfl rfl (by first | rfl | assumption) ?_
    | refine r_pick_t rfl (by first | with_reducible rfl | assumption | decide) rfl rfl ?_
    | refine r_pick_f rfl (by first | with_reducible rfl | assumption | decide) rfl rfl ?_
    | refine r_sem rfl rfl rfl rfl ?_
    | refine r_nil ?_
    | refine r_iad rfl rfl (by omega) (by assumption) (by first | rfl | assumption | omega | (simp; done) | (simp; omega)) ?_
    | refine r_storeAll rfl rfl rfl rfl rfl rfl ?_
    | refine r_store rfl rfl rfl rfl (by decide) ?_
    | refine r_store rfl rfl rfl rfl (And.intro rfl (Nat.le_of_ble_eq_true rfl)) ?_
    | refine r_alloc rfl ?_
    | refine r_box rfl rfl rfl ?_
    | refine r_bsl rfl rfl rfl rfl rfl rfl ?_
    | refine r_bsl1 rfl (by assumption) rfl ?_
    | refine r_mkmap rfl ?_
    | refine r_mv_nil rfl ?_
    | refine r_mv_own rfl rfl ?_
    | refine r_mv_mp rfl rfl ?_
    | refine r_mv_row rfl rfl (by first | rfl | assumption | omega | (simp; done) | (simp; omega)) ?_
    | refine r_mv_rp rfl rfl (by first | rfl | assumption | omega | (simp; done) | (simp; omega)) ?_
    | refine r_fad_rp rfl rfl (by first | rfl | assumption | omega | (simp; done) | (simp; omega)) ?_
    | refine r_iad_row rfl rfl (by first | rfl | assumption | omega | (simp; done) | (simp; omega)) rfl (by first | rfl | assumption | omega | (simp; done) | (simp; omega)) ?_
    | refine r_skip0 rfl (by first | with_reducible rfl | assumption | decide) ?_
    | refine r_skipU0 rfl ?_
    | refine r_semF rfl rfl rfl rfl ?_
    | refine r_load_rp rfl rfl (by assumption) rfl ?_
    | refine r_len_row rfl rfl (by first | rfl | assumption | omega | (simp; done) | (simp; omega)) ?_
    | refine run_seq ?_
    | refine run_reg ?_
    | refine run_regd rfl ?_
    | refine run_regs rfl ?_
    | refine fin_far rfl ?_
    | refine run_block ?_
    | refine run_skip ?_
    | refine run_exit ?_
    | refine run_ret ?_
    | refine fin_seq ?_
    | refine fin_seq_e ?_
    | refine fin_seq_r ?_
    | refine fin_blk ?_
    | refine fin_blk_e ?_
    | refine fin_blk_x rfl ?_
    | refine fin_blk_r ?_
    | refine fin_loop_e ?_
    | refine fin_loop_r ?_
    | refine run_cond_t rfl (by first | with_reducible rfl | assumption | decide) ?_
    | refine run_cond_f rfl (by first | with_reducible rfl | assumption | decide) ?_)
  refine run_weak (weak_S ?_ ?_) (run_inv (fun q : Nat × List (List PV) => S [(0, .p (.sl (l.map Pair.enc) sp)), (5, .row 26 (l.map Pair.enc).length), (12, .row 54 (dD.map Pair.enc).length), (13, .row 57 (kK.map Pair.enc).length), (16, .p (.v (.bool true))), (18, .p (.v (.int .i64 (q.1 : Nat))))]
    [(26, some (.row 24 2 (l.map Pair.enc ++ [behindE]) true)), (54, some (.row 24 2 q.2 true)), (57, some (.row 24 2 (kK.map Pair.enc) false))])
    (fun q => q.1 ≤ (dD.map Pair.enc).length ∧ q.2.length = (dD.map Pair.enc).length) (fun q => (dD.map Pair.enc).length - q.1) ?_ (0, dD.map Pair.enc) ⟨Nat.zero_le _, rfl⟩)
  · exact ⟨rfl, rfl, rfl, rfl, rfl, rfl, trivial⟩
  · exact ⟨rfl, rfl, rfl, trivial⟩
  rintro ⟨i, zs⟩ ⟨hi, hzl⟩ ih
  simp only at hi hzl
  have hzle : (dD.map Pair.enc).length ≤ zs.length := by omega
  repeat (first
    | refine r_mv_p rfl ?_
    | refine r_do rfl (by first | with_reducible rfl | assumption | decide) ?_
    | refine r_skip rfl (by first | with_reducible rfl | assumption | decide) ?_
    | refine r_skipU rfl ?_
    | refine r_fad rfl rfl ?_
    | refine r_add rfl rfl (by omega) ?_
    | refine r_sub rfl rfl (by omega) ?_
    | refine r_loadAll rfl (by first | rfl | assumption) ?_
    | refine r_loadAllB rfl rfl (by first | rfl | assumption) ?_
    | refine r_pick_t rfl (by first | with_reducible rfl | assumption | decide) rfl rfl ?_
    | refine r_pick_f rfl (by first | with_reducible rfl | assumption | decide) rfl rfl ?_
    | refine r_sem rfl rfl rfl rfl ?_
    | refine r_nil ?_
    | refine r_iad rfl rfl (by omega) (by assumption) (by first | rfl | assumption | omega | (simp; done) | (simp; omega)) ?_
    | refine r_storeAll rfl rfl rfl rfl rfl rfl ?_
    | refine r_store rfl rfl rfl rfl (by decide) ?_
    | refine r_store rfl rfl rfl rfl (And.intro rfl (Nat.le_of_ble_eq_true rfl)) ?_
    | refine r_alloc rfl ?_
    | refine r_box rfl rfl rfl ?_
    | refine r_bsl rfl rfl rfl rfl rfl rfl ?_
    | refine r_bsl1 rfl (by assumption) rfl ?_
    | refine r_mkmap rfl ?_
    | refine r_mv_nil rfl ?_
    | refine r_mv_own rfl rfl ?_
    | refine r_mv_mp rfl rfl ?_
    | refine r_mv_row rfl rfl (by first | rfl | assumption | omega | (simp; done) | (simp; omega)) ?_
    | refine r_mv_rp rfl rfl (by first | rfl | assumption | omega | (simp; done) | (simp; omega)) ?_
    | refine r_fad_rp rfl rfl (by first | rfl | assumption | omega | (simp; done) | (simp; omega)) ?_
    | refine r_iad_row rfl rfl (by first | rfl | assumption | omega | (simp; done) | (simp; omega)) rfl (by first | rfl | assumption | omega | (simp; done) | (simp; omega)) ?_
    | refine r_skip0 rfl (by first | with_reducible rfl | assumption | decide) ?_
    | refine r_skipU0 rfl ?_
    | refine r_semF rfl rfl rfl rfl ?_
    | refine r_load_rp rfl rfl (by assumption) rfl ?_
    | refine r_len_row rfl rfl (by first | rfl | assumption | omega | (simp; done) | (simp; omega)) ?_
    | refine run_seq ?_
    | refine run_reg ?_
    | refine run_regd rfl ?_
    | refine run_regs rfl ?_
    | refine fin_far rfl ?_
    | refine run_block ?_
    | refine run_skip ?_
    | refine run_exit ?_
    | refine run_ret ?_
    | refine fin_seq ?_
    | refine fin_seq_e ?_
    | refine fin_seq_r ?_
    | refine fin_blk ?_
    | refine fin_blk_e ?_
    | refine fin_blk_x rfl ?_
    | refine fin_blk_r ?_
    | refine fin_loop_e ?_
    | refine fin_loop_r ?_
    | refine run_cond_t rfl (by first | with_reducible rfl | assumption | decide) ?_
    | refine run_cond_f rfl (by first | with_reducible rfl | assumption | decide) ?_)
  refine run_cond rfl (fun h => ?_) (fun h => ?_)
  · have hlt : i < (dD.map Pair.enc).length := by simpa using h
    have hib : (0 : Int) ≤ ((i : Nat) : Int) ∧ ((i : Nat) : Int) < (((dD.map Pair.enc).length : Nat) : Int) := by omega
    have hml : (dD.map Pair.enc).length = dD.length := List.length_map ..
    exact absurd hlt (by rw [hd0]; simp)
  clear ih h hi hzl hzle
  repeat (first
    | refine r_mv_p rfl ?_
    | refine r_do rfl (by first | with_reducible rfl | assumption | decide) ?_
    | refine r_skip rfl (by first | with_reducible rfl | assumption | decide) ?_
    | refine r_skipU rfl ?_
    | refine r_fad rfl rfl ?_
    | refine r_add rfl rfl (by omega) ?_
    | refine r_sub rfl rfl (by omega) ?_
    | refine r_loadAll rfl (by first | rfl | assumption) ?_
    | refine r_loadAllB rfl rfl (by first | rfl | assumption) ?_
    | refine r_pick_t rfl (by first | with_reducible rfl | assumption | decide) rfl rfl ?_
    | refine r_pick_f rfl (by first | with_reducible rfl | assumption | decide) rfl rfl ?_
    | refine r_sem rfl rfl rfl rfl ?_
    | refine r_nil ?_
    | refine r_iad rfl rfl (by omega) (by assumption) (by first | rfl | assumption | omega | (simp; done) | (simp; omega)) ?_
    | refine r_storeAll rfl rfl rfl rfl rfl rfl ?_
    | refine r_store rfl rfl rfl rfl (by decide) ?_
    | refine r_store rfl rfl rfl rfl (And.intro rfl (Nat.le_of_ble_eq_true rfl)) ?_
    | refine r_alloc rfl ?_
    | refine r_box rfl rfl rfl ?_
    | refine r_bsl rfl rfl rfl rfl rfl rfl ?_
    | refine r_bsl1 rfl (by assumption) rfl ?_
    | refine r_mkmap rfl ?_
    | refine r_mv_nil rfl ?_
    | refine r_mv_own rfl rfl ?_
    | refine r_mv_mp rfl rfl ?_
    | refine r_mv_row rfl rfl (by first | rfl | assumption | omega | (simp; done) | (simp; omega)) ?_
    | refine r_mv_rp rfl rfl (by first | rfl | assumption | omega | (simp; done) | (simp; omega)) ?_
    | refine r_fad_rp rfl rfl (by first | rfl | assumption | omega | (simp; done) | (simp; omega)) ?_
    | refine r_iad_row rfl rfl (by first | rfl | assumption | omega | (simp; done) | (simp; omega)) rfl (by first | rfl | assumption | omega | (simp; done) | (simp; omega)) ?_
    | refine r_skip0 rfl (by first | with_reducible rfl | assumption | decide) ?_
    | refine r_skipU0 rfl ?_
    | refine r_semF rfl rfl rfl rfl ?_
    | refine r_load_rp rfl rfl (by assumption) rfl ?_
    | refine r_len_row rfl rfl (by first | rfl | assumption | omega | (simp; done) | (simp; omega)) ?_
    | refine run_seq ?_
    | refine run_reg ?_
    | refine run_regd rfl ?_
    | refine run_regs rfl ?_
    | refine fin_far rfl ?_
    | refine run_block ?_
    | refine run_skip ?_
    | refine run_exit ?_
    | refine run_ret ?_
    | refine fin_seq ?_
    | refine fin_seq_e ?_
    | refine fin_seq_r ?_
    | refine fin_blk ?_
    | refine fin_blk_e ?_
    | refine fin_blk_x rfl ?_
    | refine fin_blk_r ?_
    | refine fin_loop_e ?_
    | refine fin_loop_r ?_
    | refine run_cond_t rfl (by first | with_reducible rfl | assumption | decide) ?_
    | refine run_cond_f rfl (by first | with_reducible rfl | assumption | decide) ?_)
  refine run_weak (weak_S ?_ ?_) (run_inv (fun q : Nat × List (List PV) => S [(0, .p (.sl (l.map Pair.enc) sp)), (5, .row 26 (l.map Pair.enc).length), (13, .row 57 (kK.map Pair.enc).length), (16, .p (.v (.bool true))), (19, .p (.v (.int .i64 (q.1 : Nat))))]
    [(26, some (.row 24 2 (l.map Pair.enc ++ [behindE]) true)), (57, some (.row 24 2 q.2 false))])
    (fun q => q.1 ≤ (kK.map Pair.enc).length ∧ q.2.length = (kK.map Pair.enc).length) (fun q => (kK.map Pair.enc).length - q.1) ?_ (0, kK.map Pair.enc) ⟨Nat.zero_le _, rfl⟩)
  · exact ⟨rfl, rfl, rfl, rfl, rfl, trivial⟩
  · exact ⟨rfl, rfl, trivial⟩
  rintro ⟨i, zs⟩ ⟨hi, hzl⟩ ih
  simp only at hi hzl
  have hzle : (kK.map Pair.enc).length ≤ zs.length := by omega
  repeat (first
    | refine r_mv_p rfl ?_
    | refine r_do rfl (by first | with_reducible rfl | assumption | decide) ?_
    | refine r_skip rfl (by first | with_reducible rfl | assumption | decide) ?_
    | refine r_skipU rfl ?_
    | refine r_fad rfl rfl ?_
    | refine r_add rfl rfl (by omega) ?_
    | refine r_sub rfl rfl (by omega) ?_
    | refine r_loadAll rfl (by first | rfl | assumption) ?_
    | refine r_loadAllB rfl rfl (by first | rfl | assumption) ?_
    | refine r_pick_t rfl (by first | with_reducible rfl | assumption | decide) rfl rfl ?_
    | refine r_pick_f rfl (by first | with_reducible rfl | assumption | decide) rfl rfl ?_
    | refine r_sem rfl rfl rfl rfl ?_
    | refine r_nil ?_
    | refine r_iad rfl rfl (by omega) (by assumption) (by first | rfl | assumption | omega | (simp; done) | (simp; omega)) ?_
    | refine r_storeAll rfl rfl rfl rfl rfl rfl ?_
    | refine r_store rfl rfl rfl rfl (by decide) ?_
    | refine r_store rfl rfl rfl rfl (And.intro rfl (Nat.le_of_ble_eq_true rfl)) ?_
    | refine r_alloc rfl ?_
    | refine r_box rfl rfl rfl ?_
    | refine r_bsl rfl rfl rfl rfl rfl rfl ?_
    | refine r_bsl1 rfl (by assumption) rfl ?_
    | refine r_mkmap rfl ?_
    | refine r_mv_nil rfl ?_
    | refine r_mv_own rfl rfl ?_
    | refine r_mv_mp rfl rfl ?_
    | refine r_mv_row rfl rfl (by first | rfl | assumption | omega | (simp; done) | (simp; omega)) ?_
    | refine r_mv_rp rfl rfl (by first | rfl | assumption | omega | (simp; done) | (simp; omega)) ?_
    | refine r_fad_rp rfl rfl (by first | rfl | assumption | omega | (simp; done) | (simp; omega)) ?_
    | refine r_iad_row rfl rfl (by first | rfl | assumption | omega | (simp; done) | (simp; omega)) rfl (by first | rfl | assumption | omega | (simp; done) | (simp; omega)) ?_
    | refine r_skip0 rfl (by first | with_reducible rfl | assumption | decide) ?_
    | refine r_skipU0 rfl ?_
    | refine r_semF rfl rfl rfl rfl ?_
    | refine r_load_rp rfl rfl (by assumption) rfl ?_
    | refine r_len_row rfl rfl (by first | rfl | assumption | omega | (simp; done) | (simp; omega)) ?_
    | refine run_seq ?_
    | refine run_reg ?_
    | refine run_regd rfl ?_
    | refine run_regs rfl ?_
    | refine fin_far rfl ?_
    | refine run_block ?_
    | refine run_skip ?_
    | refine run_exit ?_
    | refine run_ret ?_
    | refine fin_seq ?_
    | refine fin_seq_e ?_
    | refine fin_seq_r ?_
    | refine fin_blk ?_
    | refine fin_blk_e ?_
    | refine fin_blk_x rfl ?_
    | refine fin_blk_r ?_
    | refine fin_loop_e ?_
    | refine fin_loop_r ?_
    | refine run_cond_t rfl (by first | with_reducible rfl | assumption | decide) ?_
    | refine run_cond_f rfl (by first | with_reducible rfl | assumption | decide) ?_)
  refine run_cond rfl (fun h => ?_) (fun h => ?_)
  · have hlt : i < (kK.map Pair.enc).length := by simpa using h
    have hib : (0 : Int) ≤ ((i : Nat) : Int) ∧ ((i : Nat) : Int) < (((kK.map Pair.enc).length : Nat) : Int) := by omega
    have hml : (kK.map Pair.enc).length = kK.length := List.length_map ..
    obtain ⟨cc, hzi⟩ : ∃ cc, zs[i]? = some cc := ⟨zs[i]'(by omega), List.getElem?_eq_getElem (by omega)⟩
    have hnext := fun w => ih (i + 1, zs.set i w) ⟨hlt, by simpa using hzl⟩ (by simp only; omega)
    clear ih
    repeat (first
      | refine r_store_rp rfl rfl hzi rfl rfl (And.intro rfl (Nat.le_refl 2)) ?_
      | refine r_mv_p rfl ?_
      | refine r_do rfl (by first | with_reducible rfl | assumption | decide) ?_
      | refine r_skip rfl (by first | with_reducible rfl | assumption | decide) ?_
      | refine r_skipU rfl ?_
      | refine r_fad rfl rfl ?_
      | refine r_add rfl rfl (by omega) ?_
      | refine r_sub rfl rfl (by omega) ?_
      | refine r_loadAll rfl (by first | rfl | assumption) ?_
      | refine r_loadAllB rfl rfl (by first | rfl | assumption) ?_
      | refine r_pick_t rfl (by first | with_reducible rfl | assumption | decide) rfl rfl ?_
      | refine r_pick_f rfl (by first | with_reducible rfl | assumption | decide) rfl rfl ?_
      | refine r_sem rfl rfl rfl rfl ?_
      | refine r_nil ?_
      | refine r_iad rfl rfl (by omega) (by assumption) (by first | rfl | assumption | omega | (simp; done) | (simp; omega)) ?_
      | refine r_storeAll rfl rfl rfl rfl rfl rfl ?_
      | refine r_store rfl rfl rfl rfl (by decide) ?_
      | refine r_store rfl rfl rfl rfl (And.intro rfl (Nat.le_of_ble_eq_true rfl)) ?_
      | refine r_alloc rfl ?_
      | refine r_box rfl rfl rfl ?_
      | refine r_bsl rfl rfl rfl rfl rfl rfl ?_
      | refine r_bsl1 rfl (by assumption) rfl ?_
      | refine r_mkmap rfl ?_
      | refine r_mv_nil rfl ?_
      | refine r_mv_own rfl rfl ?_
      | refine r_mv_mp rfl rfl ?_
      | refine r_mv_row rfl rfl (by first | rfl | assumption | omega | (simp; done) | (simp; omega)) ?_
      | refine r_mv_rp rfl rfl (by first | rfl | assumption | omega | (simp; done) | (simp; omega)) ?_
      | refine r_fad_rp rfl rfl (by first | rfl | assumption | omega | (simp; done) | (simp; omega)) ?_
      | refine r_iad_row rfl rfl (by first | rfl | assumption | omega | (simp; done) | (simp; omega)) rfl (by first | rfl | assumption | omega | (simp; done) | (simp; omega)) ?_
      | refine r_skip0 rfl (by first | with_reducible rfl | assumption | decide) ?_
      | refine r_skipU0 rfl ?_
      | refine r_semF rfl rfl rfl rfl ?_
      | refine r_load_rp rfl rfl (by assumption) rfl ?_
      | refine r_len_row rfl rfl (by first | rfl | assumption | omega | (simp; done) | (simp; omega)) ?_
      | refine run_seq ?_
      | refine run_reg ?_
      | refine run_regd rfl ?_
      | refine run_regs rfl ?_
      | refine fin_far rfl ?_
      | refine run_block ?_
      | refine run_skip ?_
      | refine run_exit ?_
      | refine run_ret ?_
      | refine fin_seq ?_
      | refine fin_seq_e ?_
      | refine fin_seq_r ?_
      | refine fin_blk ?_
      | refine fin_blk_e ?_
      | refine fin_blk_x rfl ?_
      | refine fin_blk_r ?_
      | refine fin_loop_e ?_
      | refine fin_loop_r ?_
      | refine run_cond_t rfl (by first | with_reducible rfl | assumption | decide) ?_
      | refine run_cond_f rfl (by first | with_reducible rfl | assumption | decide) ?_)
    refine fin_loop (run_weak (weak_S ?_ ?_) (hnext (splice cc 0 writtenE)))
    · exact ⟨rfl, rfl, rfl, rfl, rfl, trivial⟩
    · exact ⟨rfl, rfl, trivial⟩
  clear ih h hi hzl hzle
  have hl2 : (l.map Pair.enc).length + 1 ≤ (l.map Pair.enc ++ [behindE]).length := by simp
  have hi2 : (0 : Int) ≤ (((l.map Pair.enc).length : Nat) : Int) ∧ (((l.map Pair.enc).length : Nat) : Int) < ((((l.map Pair.enc).length + 1) : Nat) : Int) := by omega
  repeat (first
    | refine r_callF (resL_cons (res_row rfl rfl hle) (resL_cons rfl rfl)) rfl rfl c17 ?_
    | refine r_slcR (j := (l.map Pair.enc).length + 1) rfl rfl hle rfl hl2 ?_
    | refine r_iad_row rfl rfl hl2 rfl hi2 ?_
    | refine r_load_rp rfl rfl hbe rfl ?_
    | refine r_call rfl (awake21) ?_
    | refine r_mv_p rfl ?_
    | refine r_do rfl (by first | with_reducible rfl | assumption | decide) ?_
    | refine r_skip rfl (by first | with_reducible rfl | assumption | decide) ?_
    | refine r_skipU rfl ?_
    | refine r_fad rfl rfl ?_
    | refine r_add rfl rfl (by omega) ?_
    | refine r_sub rfl rfl (by omega) ?_
    | refine r_loadAll rfl (by first | rfl | assumption) ?_
    | refine r_loadAllB rfl rfl (by first | rfl | assumption) ?_
    | refine r_pick_t rfl (by first | with_reducible rfl | assumption | decide) rfl rfl ?_
    | refine r_pick_f rfl (by first | with_reducible rfl | assumption | decide) rfl rfl ?_
    | refine r_sem rfl rfl rfl rfl ?_
    | refine r_nil ?_
    | refine r_iad rfl rfl (by omega) (by assumption) (by first | rfl | assumption | omega | (simp; done) | (simp; omega)) ?_
    | refine r_storeAll rfl rfl rfl rfl rfl rfl ?_
    | refine r_store rfl rfl rfl rfl (by decide) ?_
    | refine r_store rfl rfl rfl rfl (And.intro rfl (Nat.le_of_ble_eq_true rfl)) ?_
    | refine r_alloc rfl ?_
    | refine r_box rfl rfl rfl ?_
    | refine r_bsl rfl rfl rfl rfl rfl rfl ?_
    | refine r_bsl1 rfl (by assumption) rfl ?_
    | refine r_mkmap rfl ?_
    | refine r_mv_nil rfl ?_
    | refine r_mv_own rfl rfl ?_
    | refine r_mv_mp rfl rfl ?_
    | refine r_mv_row rfl rfl (by first | rfl | assumption | omega | (simp; done) | (simp; omega)) ?_
    | refine r_mv_rp rfl rfl (by first | rfl | assumption | omega | (simp; done) | (simp; omega)) ?_
    | refine r_fad_rp rfl rfl (by first | rfl | assumption | omega | (simp; done) | (simp; omega)) ?_
    | refine r_iad_row rfl rfl (by first | rfl | assumption | omega | (simp; done) | (simp; omega)) rfl (by first | rfl | assumption | omega | (simp; done) | (simp; omega)) ?_
    | refine r_skip0 rfl (by first | with_reducible rfl | assumption | decide) ?_
    | refine r_skipU0 rfl ?_
    | refine r_semF rfl rfl rfl rfl ?_
    | refine r_load_rp rfl rfl (by assumption) rfl ?_
    | refine r_len_row rfl rfl (by first | rfl | assumption | omega | (simp; done) | (simp; omega)) ?_
    | refine run_seq ?_
    | refine run_reg ?_
    | refine run_regd rfl ?_
    | refine run_regs rfl ?_
    | refine fin_far rfl ?_
    | refine run_block ?_
    | refine run_skip ?_
    | refine run_exit ?_
    | refine run_ret ?_
    | refine fin_seq ?_
    | refine fin_seq_e ?_
    | refine fin_seq_r ?_
    | refine fin_blk ?_
    | refine fin_blk_e ?_
    | refine fin_blk_x rfl ?_
    | refine fin_blk_r ?_
    | refine fin_loop_e ?_
    | refine fin_loop_r ?_
    | refine run_cond_t rfl (by first | with_reducible rfl | assumption | decide) ?_
    | refine run_cond_f rfl (by first | with_reducible rfl | assumption | decide) ?_)
  exact fin_out rfl rfl
theorem law_TableDoes (l : List Pair) (sp : List (List PV)) (x : Pair) (hb : (l.length + 1) * 24 ≤ 140737488355328) : Ret Try.prog 3 [.sl (l.map Pair.enc) sp, .agg x.enc] (.v (.bool true)) := by
  by_cases hd : dropL pairCmp x l = []
  · exact law_TableDoesB l sp x hb hd
  · exact law_TableDoesA l sp x hb hd
end Go.Fw
