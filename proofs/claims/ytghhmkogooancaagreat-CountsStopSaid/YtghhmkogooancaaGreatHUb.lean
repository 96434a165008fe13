/-
  How the document puts things.
-/
import Derived.Test.YtghhmkogooancaaGreatHU
set_option linter.unusedVariables false
set_option linter.unusedSimpArgs false
set_option maxRecDepth 10000
namespace Go.Fw
open Go.Proofs

/-! ### The document's put -/
def laid {α : Type} (x : α) (k : Nat) (xs : List α) (i : Nat) : List α := if k < i then xs.take k ++ x :: (xs.take i).drop k else xs.take i
theorem laid_length {α : Type} (x : α) (k : Nat) (xs : List α) (i : Nat) (hk : k ≤ xs.length) (hi : i ≤ xs.length) : (laid x k xs i).length ≤ i + 1 := by
  unfold laid; split
  · simp; omega
  · simp; omega
theorem put_at {α : Type} {cmp : α → α → Int} {x : α} {xs : List α} {i : Nat} (hi : i < xs.length) (h1 : eqQ cmp x xs[i] = true) (h2 : ∀ j y, j < i → xs[j]? = some y → eqQ cmp x y = false) : putL cmp x xs = xs.set i x := by
  have hf : findB (eqQ cmp x) xs = true := by
    cases h : findB (eqQ cmp x) xs with
    | true => rfl
    | false => rw [findB_none.1 h _ (List.getElem_mem hi)] at h1; cases h1
  obtain ⟨k, z, hk, hz, hq, hlo⟩ := findB_first hf
  have : k = i := by
    rcases Nat.lt_trichotomy k i with h | h | h
    · rw [h2 k z h hz] at hq; cases hq
    · exact h
    · rw [hlo i xs[i] h (by simp)] at h1; cases h1
  rw [putL, if_pos hf, hk, this]; rfl
theorem le53 {i n : Nat} (h : i < n) (hb : (n + 1) * 80 ≤ 140737488355328) : (i + 1 + 1) * 80 ≤ 140737488355328 := Nat.le_trans (Nat.mul_le_mul_right 80 (by omega)) hb
set_option maxHeartbeats 4000000 in
theorem refPut120 {α : Type} (enc : α → List PV) (hen : ∀ x, (enc x).length = 8) (o : FuncId) (cmp : α → α → Int) (ho : ∀ a b, Ret Tryz.prog o [.agg (enc a), .agg (enc b)] (.v (.int .i64 (cmp a b)))) (x : α) (xs : List α) (sp : List (List PV)) (hbig : (xs.length + 1) * 80 ≤ 140737488355328) :
    Ret Tryz.prog 120 [.sl (xs.map enc) sp, .agg (enc x), .clo o []] (.sl ((putL cmp x xs).map enc) []) := by
  refine RetN.ret (ty := 53) (es := 8) ?_
  refine row120 rfl fun hbd => ?_
  have hxl := hen x
  have hxs : ∀ z ∈ xs.map enc, z.length = 8 := by intro z hz; obtain ⟨y, _, rfl⟩ := List.mem_map.1 hz; exact hen y
  have hlen63 : xs.length ≤ 9223372036854775806 := by omega
  unfold c120
  repeat (first
    | refine r_mv_p rfl ?_ | refine r_nil ?_ | refine r_box rfl rfl rfl ?_ | refine r_mv_nil rfl ?_ | refine run_seq ?_ | refine run_reg ?_ | refine run_block ?_ | refine fin_seq ?_)
  refine run_weak (weak_S ?_ ?_) (run_inv (fun i : Nat => S [(0, .p (.sl (xs.map enc) sp)), (2, .p (.clo o [])), (4, .own 4 0), (7, .nil), (8, .p (.v (.int .i64 (i : Nat))))] [(4, some (.box (enc x) false))])
    (fun i => i ≤ xs.length ∧ ∀ j y, j < i → xs[j]? = some y → eqQ cmp x y = false) (fun i => xs.length - i) ?_ 0 ⟨Nat.zero_le _, fun j y hj => by omega⟩)
  · exact ⟨rfl, rfl, rfl, rfl, rfl, trivial⟩
  · exact ⟨rfl, trivial⟩
  rintro i ⟨hi, hno⟩ ih
  repeat (first
    | refine r_mv_p rfl ?_ | refine r_sem rfl rfl rfl rfl ?_ | refine r_nil ?_ | refine run_seq ?_ | refine run_reg ?_ | refine fin_seq ?_)
  refine run_cond rfl (fun h => ?_) (fun h => ?_)
  · have hlt : i < xs.length := by simpa using h
    have hx : (xs.map enc)[i]? = some (enc xs[i]) := by simp [hlt]
    have hel := hen xs[i]
    have hl : (xs.map enc).length * 80 ≤ 140737488355328 := by rw [List.length_map]; omega
    have hltm : i < (xs.map enc).length := by rw [List.length_map]; exact hlt
    repeat (first
      | refine r_callv rfl (ho xs[i] x) ?_ | refine r_mv_p rfl ?_ | refine r_loadA rfl ?_ | refine r_loadB rfl rfl ?_ | refine r_sem rfl rfl rfl rfl ?_ | refine r_nil ?_
      | refine r_iadA rfl rfl ?_ | refine run_seq ?_ | refine run_regd rfl ?_ | refine run_block ?_ | refine run_skip ?_ | refine fin_seq ?_)
    refine run_cond rfl (fun h2 => ?_) (fun h2 => ?_)
    · rw [put_at hlt (show eqQ cmp x xs[i] = true from h2) hno]
      repeat (first
        | refine r_appNil (fs := []) rfl rfl rfl rfl hxs hl rfl ?_ | refine r_store_rp rfl rfl hx rfl rfl (And.intro hxl (Nat.le_refl 8)) ?_ | refine r_mv_p rfl ?_ | refine r_loadB rfl rfl ?_
        | refine r_nil ?_ | refine r_mv_nil rfl ?_ | refine r_mv_rowA rfl rfl ?_
        | refine r_iad_row rfl rfl (by first | rfl | assumption | omega | (simp; done) | (simp; omega)) rfl (by first | rfl | assumption | omega | (simp; done) | (simp; omega)) ?_
        | refine run_seq ?_ | refine run_reg ?_ | refine run_ret ?_ | refine fin_seq ?_ | refine fin_seq_r ?_ | refine fin_blk_r ?_ | refine fin_loop_r ?_)
      refine fin_row (by rfl) (by simp) (by rfl) ?_
      rw [show splice (enc xs[i]) 0 (enc x) = enc x by simp [splice, hel, hxl], List.map_set]; rfl
    · repeat (first
        | refine r_mv_p rfl ?_ | refine r_addA rfl rfl ?_ | refine r_nil ?_ | refine run_reg ?_ | refine run_skip ?_ | refine fin_seq ?_ | refine fin_blk ?_)
      refine fin_loop (run_weak (weak_S ?_ ?_) (ih (i + 1) ⟨hlt, fun j y hj hy => ?_⟩ (by omega)))
      · exact ⟨rfl, rfl, rfl, rfl, rfl, trivial⟩
      · exact ⟨rfl, trivial⟩
      · rcases Nat.lt_or_ge j i with hj' | hj'
        · exact hno j y hj' hy
        · obtain rfl : j = i := by omega
          obtain ⟨_, rfl⟩ := List.getElem?_eq_some_iff.1 hy
          exact h2
  · have hin : i = xs.length := by simp at h; omega
    clear ih
    have hfalse : findB (eqQ cmp x) xs = false := findB_none.2 fun y hy => by
      obtain ⟨j, hj, rfl⟩ := List.mem_iff_getElem.1 hy
      exact hno j xs[j] (by omega) (by simp)
    clear hno
    obtain ⟨k, hk, hkn, hlo, hhi⟩ := putI_spec (gtQ cmp x) xs
    have hL : putL cmp x xs = xs.take k ++ x :: xs.drop k := by rw [putL, if_neg (by simp [hfalse]), hk]; rfl
    repeat (first
      | refine r_mv_p rfl ?_ | refine r_nil ?_ | refine run_seq ?_ | refine run_reg ?_ | refine run_block ?_ | refine run_exit ?_ | refine fin_seq ?_ | refine fin_seq_e ?_
      | refine fin_blk_e ?_ | refine fin_loop_e ?_)
    refine run_weak (weak_nilRow 7 61 53 8 rfl rfl) (run_weak (weak_S ?_ ?_) (run_inv (fun i : Nat => S [(0, .p (.sl (xs.map enc) sp)), (2, .p (.clo o [])), (4, .own 4 0), (7, .row 61 ((laid x k xs i).map enc).length), (9, .p (.v (.bool (decide (k < i))))), (10, .p (.v (.int .i64 (i : Nat))))] [(61, some (.row 53 8 ((laid x k xs i).map enc) false)), (4, some (.box (enc x) false))])
      (fun i => i ≤ xs.length) (fun i => xs.length - i) ?_ 0 (Nat.zero_le _)))
    · exact ⟨rfl, rfl, rfl, rfl, rfl, rfl, trivial⟩
    · exact ⟨rfl, rfl, trivial⟩
    clear hin h hi i
    intro i hi ih
    repeat (first
      | refine r_mv_p rfl ?_ | refine r_sem rfl rfl rfl rfl ?_ | refine r_nil ?_ | refine run_seq ?_ | refine run_reg ?_ | refine fin_seq ?_)
    refine run_cond rfl (fun h2 => ?_) (fun h2 => ?_)
    · have hlt : i < xs.length := by simpa using h2
      have hx : (xs.map enc)[i]? = some (enc xs[i]) := by simp [hlt]
      have hel := hen xs[i]
      have htake : xs.take (i + 1) = xs.take i ++ [xs[i]] := by simp
      have he : ∀ y : α, ∀ z ∈ [enc y], z.length = 8 := by intro y z hz; simp at hz; subst hz; exact hen y
      have hll := laid_length x k xs i hkn hi
      have hl1 : (((laid x k xs i).map enc).length + [enc xs[i]].length) * 80 ≤ 140737488355328 := by simp only [List.length_map, List.length_cons, List.length_nil]; omega
      rcases Nat.lt_trichotomy k i with hc | hc | hc
      · have hd : decide (k < i) = true := decide_eq_true hc
        have hd' : (!decide (k < i)) = false := by simp [hc]
        have hE : (laid x k xs (i + 1)).map enc = (laid x k xs i).map enc ++ [enc xs[i]] := by
          rw [laid, laid, if_pos hc, if_pos (by omega), htake, List.drop_append_of_le_length (by simp; omega)]; simp
        repeat (first
          | refine r_appRow (fs := [60]) rfl rfl rfl rfl rfl rfl (he _) hl1 (by decide) (Or.inl rfl) ?_ | refine r_mv_p rfl ?_ | refine r_skipA rfl ?_ | refine r_addA rfl rfl ?_
          | refine r_loadA rfl ?_ | refine r_pickF rfl rfl rfl ?_ | refine r_sem rfl rfl rfl rfl ?_ | refine r_nil ?_ | refine r_iadA rfl rfl ?_ | refine r_bsl1 rfl (by assumption) rfl ?_
          | refine r_mv_rowA rfl rfl ?_ | refine run_seq ?_ | refine run_reg ?_ | refine run_regd rfl ?_ | refine run_block ?_ | refine run_skip ?_ | refine fin_seq ?_ | refine fin_blk ?_
          | refine run_condF rfl ?_)
        refine fin_loop (run_weak (weak_S ?_ ?_) (ih (i + 1) hlt (by omega)))
        · exact ⟨rfl, rfl, rfl, by rw [hE, List.length_append]; rfl, tb rfl (hd.trans (decide_eq_true (show k < i + 1 by omega)).symm), rfl, trivial⟩
        · exact ⟨by rw [hE]; rfl, rfl, trivial⟩
      · have hd : decide (k < i) = false := decide_eq_false (by omega)
        have hd' : (!decide (k < i)) = true := by simp; omega
        have hg : decide (0 < cmp xs[i] x) = true := hhi _ (by subst hc; simp)
        have hl0 : (((laid x k xs i).map enc).length + [enc x].length) * 80 ≤ 140737488355328 := by simp only [List.length_map, List.length_cons, List.length_nil]; omega
        have hlen : (laid x k xs i).length = i := by rw [laid, if_neg (by omega)]; simp; omega
        have hl2 : ((((laid x k xs i).map enc) ++ [enc x]).length + [enc xs[i]].length) * 80 ≤ 140737488355328 := by
          clear hl0 hl1 hll
          rw [List.length_append, List.length_map, hlen]
          exact le53 hlt hbig
        have hE : (laid x k xs (i + 1)).map enc = ((laid x k xs i).map enc ++ [enc x]) ++ [enc xs[i]] := by
          have h1 : laid x k xs (i + 1) = xs.take k ++ x :: (xs.take (i + 1)).drop k := if_pos (by omega)
          have h2 : laid x k xs i = xs.take i := if_neg (by omega)
          have h3 : (xs.take i).drop i = [] := by simp
          have h4 : (xs.take i ++ [xs[i]]).drop i = [xs[i]] := by rw [List.drop_append_of_le_length (by simp; omega), h3]; rfl
          rw [h1, h2, htake, hc, h4, List.map_append, List.append_assoc]; rfl
        repeat (first
          | refine r_callv rfl (ho xs[i] x) ?_ | refine r_appRow (fs := [53]) rfl rfl rfl rfl rfl rfl (he _) hl0 (by decide) (Or.inr rfl) ?_
          | refine r_appRow (fs := [60]) rfl rfl List.length_append.symm rfl rfl rfl (he _) hl2 (by decide) (Or.inr rfl) ?_ | refine r_mv_p rfl ?_ | refine r_doA rfl ?_
          | refine r_addA rfl rfl ?_ | refine r_loadA rfl ?_ | refine r_loadB rfl rfl ?_ | refine r_pickT rfl rfl rfl ?_ | refine r_sem rfl rfl rfl rfl ?_ | refine r_nil ?_
          | refine r_iadA rfl rfl ?_ | refine r_bsl1 rfl (by assumption) rfl ?_ | refine r_mv_rowA rfl rfl ?_ | refine run_seq ?_ | refine run_reg ?_ | refine run_regd rfl ?_
          | refine run_block ?_ | refine run_skip ?_ | refine fin_seq ?_ | refine fin_blk ?_ | refine run_condT rfl ?_)
        refine fin_loop (run_weak (weak_S ?_ ?_) (ih (i + 1) hlt (by omega)))
        · exact ⟨rfl, rfl, rfl, by rw [hE]; simp only [List.length_append]; rfl, tb rfl (decide_eq_true (show k < i + 1 by omega)).symm, rfl, trivial⟩
        · exact ⟨by rw [hE]; rfl, rfl, trivial⟩
      · have hd : decide (k < i) = false := decide_eq_false (by omega)
        have hd' : (!decide (k < i)) = true := by simp; omega
        have hg : decide (0 < cmp xs[i] x) = false := hlo i xs[i] hc (by simp)
        have hE : (laid x k xs (i + 1)).map enc = (laid x k xs i).map enc ++ [enc xs[i]] := by
          have h1 : laid x k xs (i + 1) = xs.take (i + 1) := if_neg (by omega)
          have h2 : laid x k xs i = xs.take i := if_neg (by omega)
          rw [h1, h2, htake, List.map_append]; rfl
        repeat (first
          | refine r_callv rfl (ho xs[i] x) ?_ | refine r_appRow (fs := [60]) rfl rfl rfl rfl rfl rfl (he _) hl1 (by decide) (Or.inl rfl) ?_ | refine r_mv_p rfl ?_ | refine r_doA rfl ?_
          | refine r_addA rfl rfl ?_ | refine r_loadA rfl ?_ | refine r_loadB rfl rfl ?_ | refine r_pickT rfl rfl rfl ?_ | refine r_sem rfl rfl rfl rfl ?_ | refine r_nil ?_
          | refine r_iadA rfl rfl ?_ | refine r_bsl1 rfl (by assumption) rfl ?_ | refine r_mv_rowA rfl rfl ?_ | refine run_seq ?_ | refine run_reg ?_ | refine run_regd rfl ?_
          | refine run_block ?_ | refine run_skip ?_ | refine fin_seq ?_ | refine fin_blk ?_ | refine run_condF rfl ?_)
        refine fin_loop (run_weak (weak_S ?_ ?_) (ih (i + 1) hlt (by omega)))
        · exact ⟨rfl, rfl, rfl, by rw [hE, List.length_append]; rfl, tb rfl (hd.trans (decide_eq_false (show ¬ k < i + 1 by omega)).symm), rfl, trivial⟩
        · exact ⟨by rw [hE]; rfl, rfl, trivial⟩
    · have hin : i = xs.length := by simp at h2; omega
      have htake : xs.take i = xs := by rw [hin]; simp
      rcases Nat.lt_or_ge k i with hc | hc
      · have hd : decide (k < i) = true := decide_eq_true hc
        have hd' : (!decide (k < i)) = false := by simp [hc]
        have hE : putL cmp x xs = laid x k xs i := by rw [hL, laid, if_pos hc, htake]
        rw [hE]
        repeat (first
          | refine r_mv_p rfl ?_ | refine r_sem rfl rfl rfl rfl ?_ | refine r_nil ?_ | refine r_mv_rowA rfl rfl ?_ | refine run_seq ?_ | refine run_reg ?_ | refine run_skip ?_
          | refine run_exit ?_ | refine run_ret ?_ | refine fin_seq ?_ | refine fin_seq_e ?_ | refine fin_blk_e ?_ | refine fin_loop_e ?_ | refine run_condF rfl ?_)
        exact fin_row (by rfl) (by rfl) (by rfl) (by rfl)
      · have hd : decide (k < i) = false := decide_eq_false (by omega)
        have hd' : (!decide (k < i)) = true := by simp; omega
        have hki : k = xs.length := by omega
        have hE : (putL cmp x xs).map enc = (laid x k xs i).map enc ++ [enc x] := by
          have h1 : laid x k xs i = xs.take i := if_neg (Nat.not_lt.2 hc)
          rw [hL, h1, htake, hki, List.drop_length, List.take_length, List.map_append]; rfl
        have hl0 : (((laid x k xs i).map enc).length + [enc x].length) * 80 ≤ 140737488355328 := by
          have h1 : laid x k xs i = xs.take i := if_neg (Nat.not_lt.2 hc)
          rw [h1, htake, List.length_map]; exact hbig
        have he : ∀ z ∈ [enc x], z.length = 8 := by intro z hz; simp at hz; subst hz; exact hxl
        rw [hE]
        repeat (first
          | refine r_appRow (fs := [66]) rfl rfl rfl rfl rfl rfl he hl0 (by decide) (Or.inr rfl) ?_ | refine r_mv_p rfl ?_ | refine r_loadB rfl rfl ?_ | refine r_sem rfl rfl rfl rfl ?_
          | refine r_nil ?_ | refine r_bsl1 rfl (by assumption) rfl ?_ | refine r_mv_rowA rfl rfl ?_ | refine run_seq ?_ | refine run_reg ?_ | refine run_exit ?_ | refine run_ret ?_
          | refine fin_seq ?_ | refine fin_seq_e ?_ | refine fin_blk_e ?_ | refine fin_loop_e ?_ | refine run_condT rfl ?_)
        exact fin_row (by rfl) List.length_append.symm (by rfl) (by rfl)
theorem le41 {i n : Nat} (h : i < n) (hb : (n + 1) * 64 ≤ 140737488355328) : (i + 1 + 1) * 64 ≤ 140737488355328 := Nat.le_trans (Nat.mul_le_mul_right 64 (by omega)) hb
set_option maxHeartbeats 4000000 in
theorem refPut98 {α : Type} (enc : α → List PV) (hen : ∀ x, (enc x).length = 5) (o : FuncId) (cmp : α → α → Int) (ho : ∀ a b, Ret Tryz.prog o [.agg (enc a), .agg (enc b)] (.v (.int .i64 (cmp a b)))) (x : α) (xs : List α) (sp : List (List PV)) (hbig : (xs.length + 1) * 64 ≤ 140737488355328) :
    Ret Tryz.prog 98 [.sl (xs.map enc) sp, .agg (enc x), .clo o []] (.sl ((putL cmp x xs).map enc) []) := by
  refine RetN.ret (ty := 41) (es := 5) ?_
  refine row98 rfl fun hbd => ?_
  have hxl := hen x
  have hxs : ∀ z ∈ xs.map enc, z.length = 5 := by intro z hz; obtain ⟨y, _, rfl⟩ := List.mem_map.1 hz; exact hen y
  have hlen63 : xs.length ≤ 9223372036854775806 := by omega
  unfold c98
  repeat (first
    | refine r_mv_p rfl ?_ | refine r_nil ?_ | refine r_box rfl rfl rfl ?_ | refine r_mv_nil rfl ?_ | refine run_seq ?_ | refine run_reg ?_ | refine run_block ?_ | refine fin_seq ?_)
  refine run_weak (weak_S ?_ ?_) (run_inv (fun i : Nat => S [(0, .p (.sl (xs.map enc) sp)), (2, .p (.clo o [])), (4, .own 4 0), (7, .nil), (8, .p (.v (.int .i64 (i : Nat))))] [(4, some (.box (enc x) false))])
    (fun i => i ≤ xs.length ∧ ∀ j y, j < i → xs[j]? = some y → eqQ cmp x y = false) (fun i => xs.length - i) ?_ 0 ⟨Nat.zero_le _, fun j y hj => by omega⟩)
  · exact ⟨rfl, rfl, rfl, rfl, rfl, trivial⟩
  · exact ⟨rfl, trivial⟩
  rintro i ⟨hi, hno⟩ ih
  repeat (first
    | refine r_mv_p rfl ?_ | refine r_sem rfl rfl rfl rfl ?_ | refine r_nil ?_ | refine run_seq ?_ | refine run_reg ?_ | refine fin_seq ?_)
  refine run_cond rfl (fun h => ?_) (fun h => ?_)
  · have hlt : i < xs.length := by simpa using h
    have hx : (xs.map enc)[i]? = some (enc xs[i]) := by simp [hlt]
    have hel := hen xs[i]
    have hl : (xs.map enc).length * 64 ≤ 140737488355328 := by rw [List.length_map]; omega
    have hltm : i < (xs.map enc).length := by rw [List.length_map]; exact hlt
    repeat (first
      | refine r_callv rfl (ho xs[i] x) ?_ | refine r_mv_p rfl ?_ | refine r_loadA rfl ?_ | refine r_loadB rfl rfl ?_ | refine r_sem rfl rfl rfl rfl ?_ | refine r_nil ?_
      | refine r_iadA rfl rfl ?_ | refine run_seq ?_ | refine run_regd rfl ?_ | refine run_block ?_ | refine run_skip ?_ | refine fin_seq ?_)
    refine run_cond rfl (fun h2 => ?_) (fun h2 => ?_)
    · rw [put_at hlt (show eqQ cmp x xs[i] = true from h2) hno]
      repeat (first
        | refine r_appNil (fs := []) rfl rfl rfl rfl hxs hl rfl ?_ | refine r_store_rp rfl rfl hx rfl rfl (And.intro hxl (Nat.le_refl 5)) ?_ | refine r_mv_p rfl ?_ | refine r_loadB rfl rfl ?_
        | refine r_nil ?_ | refine r_mv_nil rfl ?_ | refine r_mv_rowA rfl rfl ?_
        | refine r_iad_row rfl rfl (by first | rfl | assumption | omega | (simp; done) | (simp; omega)) rfl (by first | rfl | assumption | omega | (simp; done) | (simp; omega)) ?_
        | refine run_seq ?_ | refine run_reg ?_ | refine run_ret ?_ | refine fin_seq ?_ | refine fin_seq_r ?_ | refine fin_blk_r ?_ | refine fin_loop_r ?_)
      refine fin_row (by rfl) (by simp) (by rfl) ?_
      rw [show splice (enc xs[i]) 0 (enc x) = enc x by simp [splice, hel, hxl], List.map_set]; rfl
    · repeat (first
        | refine r_mv_p rfl ?_ | refine r_addA rfl rfl ?_ | refine r_nil ?_ | refine run_reg ?_ | refine run_skip ?_ | refine fin_seq ?_ | refine fin_blk ?_)
      refine fin_loop (run_weak (weak_S ?_ ?_) (ih (i + 1) ⟨hlt, fun j y hj hy => ?_⟩ (by omega)))
      · exact ⟨rfl, rfl, rfl, rfl, rfl, trivial⟩
      · exact ⟨rfl, trivial⟩
      · rcases Nat.lt_or_ge j i with hj' | hj'
        · exact hno j y hj' hy
        · obtain rfl : j = i := by omega
          obtain ⟨_, rfl⟩ := List.getElem?_eq_some_iff.1 hy
          exact h2
  · have hin : i = xs.length := by simp at h; omega
    clear ih
    have hfalse : findB (eqQ cmp x) xs = false := findB_none.2 fun y hy => by
      obtain ⟨j, hj, rfl⟩ := List.mem_iff_getElem.1 hy
      exact hno j xs[j] (by omega) (by simp)
    clear hno
    obtain ⟨k, hk, hkn, hlo, hhi⟩ := putI_spec (gtQ cmp x) xs
    have hL : putL cmp x xs = xs.take k ++ x :: xs.drop k := by rw [putL, if_neg (by simp [hfalse]), hk]; rfl
    repeat (first
      | refine r_mv_p rfl ?_ | refine r_nil ?_ | refine run_seq ?_ | refine run_reg ?_ | refine run_block ?_ | refine run_exit ?_ | refine fin_seq ?_ | refine fin_seq_e ?_
      | refine fin_blk_e ?_ | refine fin_loop_e ?_)
    refine run_weak (weak_nilRow 7 61 41 5 rfl rfl) (run_weak (weak_S ?_ ?_) (run_inv (fun i : Nat => S [(0, .p (.sl (xs.map enc) sp)), (2, .p (.clo o [])), (4, .own 4 0), (7, .row 61 ((laid x k xs i).map enc).length), (9, .p (.v (.bool (decide (k < i))))), (10, .p (.v (.int .i64 (i : Nat))))] [(61, some (.row 41 5 ((laid x k xs i).map enc) false)), (4, some (.box (enc x) false))])
      (fun i => i ≤ xs.length) (fun i => xs.length - i) ?_ 0 (Nat.zero_le _)))
    · exact ⟨rfl, rfl, rfl, rfl, rfl, rfl, trivial⟩
    · exact ⟨rfl, rfl, trivial⟩
    clear hin h hi i
    intro i hi ih
    repeat (first
      | refine r_mv_p rfl ?_ | refine r_sem rfl rfl rfl rfl ?_ | refine r_nil ?_ | refine run_seq ?_ | refine run_reg ?_ | refine fin_seq ?_)
    refine run_cond rfl (fun h2 => ?_) (fun h2 => ?_)
    · have hlt : i < xs.length := by simpa using h2
      have hx : (xs.map enc)[i]? = some (enc xs[i]) := by simp [hlt]
      have hel := hen xs[i]
      have htake : xs.take (i + 1) = xs.take i ++ [xs[i]] := by simp
      have he : ∀ y : α, ∀ z ∈ [enc y], z.length = 5 := by intro y z hz; simp at hz; subst hz; exact hen y
      have hll := laid_length x k xs i hkn hi
      have hl1 : (((laid x k xs i).map enc).length + [enc xs[i]].length) * 64 ≤ 140737488355328 := by simp only [List.length_map, List.length_cons, List.length_nil]; omega
      rcases Nat.lt_trichotomy k i with hc | hc | hc
      · have hd : decide (k < i) = true := decide_eq_true hc
        have hd' : (!decide (k < i)) = false := by simp [hc]
        have hE : (laid x k xs (i + 1)).map enc = (laid x k xs i).map enc ++ [enc xs[i]] := by
          rw [laid, laid, if_pos hc, if_pos (by omega), htake, List.drop_append_of_le_length (by simp; omega)]; simp
        repeat (first
          | refine r_appRow (fs := [60]) rfl rfl rfl rfl rfl rfl (he _) hl1 (by decide) (Or.inl rfl) ?_ | refine r_mv_p rfl ?_ | refine r_skipA rfl ?_ | refine r_addA rfl rfl ?_
          | refine r_loadA rfl ?_ | refine r_pickF rfl rfl rfl ?_ | refine r_sem rfl rfl rfl rfl ?_ | refine r_nil ?_ | refine r_iadA rfl rfl ?_ | refine r_bsl1 rfl (by assumption) rfl ?_
          | refine r_mv_rowA rfl rfl ?_ | refine run_seq ?_ | refine run_reg ?_ | refine run_regd rfl ?_ | refine run_block ?_ | refine run_skip ?_ | refine fin_seq ?_ | refine fin_blk ?_
          | refine run_condF rfl ?_)
        refine fin_loop (run_weak (weak_S ?_ ?_) (ih (i + 1) hlt (by omega)))
        · exact ⟨rfl, rfl, rfl, by rw [hE, List.length_append]; rfl, tb rfl (hd.trans (decide_eq_true (show k < i + 1 by omega)).symm), rfl, trivial⟩
        · exact ⟨by rw [hE]; rfl, rfl, trivial⟩
      · have hd : decide (k < i) = false := decide_eq_false (by omega)
        have hd' : (!decide (k < i)) = true := by simp; omega
        have hg : decide (0 < cmp xs[i] x) = true := hhi _ (by subst hc; simp)
        have hl0 : (((laid x k xs i).map enc).length + [enc x].length) * 64 ≤ 140737488355328 := by simp only [List.length_map, List.length_cons, List.length_nil]; omega
        have hlen : (laid x k xs i).length = i := by rw [laid, if_neg (by omega)]; simp; omega
        have hl2 : ((((laid x k xs i).map enc) ++ [enc x]).length + [enc xs[i]].length) * 64 ≤ 140737488355328 := by
          clear hl0 hl1 hll
          rw [List.length_append, List.length_map, hlen]
          exact le41 hlt hbig
        have hE : (laid x k xs (i + 1)).map enc = ((laid x k xs i).map enc ++ [enc x]) ++ [enc xs[i]] := by
          have h1 : laid x k xs (i + 1) = xs.take k ++ x :: (xs.take (i + 1)).drop k := if_pos (by omega)
          have h2 : laid x k xs i = xs.take i := if_neg (by omega)
          have h3 : (xs.take i).drop i = [] := by simp
          have h4 : (xs.take i ++ [xs[i]]).drop i = [xs[i]] := by rw [List.drop_append_of_le_length (by simp; omega), h3]; rfl
          rw [h1, h2, htake, hc, h4, List.map_append, List.append_assoc]; rfl
        repeat (first
          | refine r_callv rfl (ho xs[i] x) ?_ | refine r_appRow (fs := [53]) rfl rfl rfl rfl rfl rfl (he _) hl0 (by decide) (Or.inr rfl) ?_
          | refine r_appRow (fs := [60]) rfl rfl List.length_append.symm rfl rfl rfl (he _) hl2 (by decide) (Or.inr rfl) ?_ | refine r_mv_p rfl ?_ | refine r_doA rfl ?_
          | refine r_addA rfl rfl ?_ | refine r_loadA rfl ?_ | refine r_loadB rfl rfl ?_ | refine r_pickT rfl rfl rfl ?_ | refine r_sem rfl rfl rfl rfl ?_ | refine r_nil ?_
          | refine r_iadA rfl rfl ?_ | refine r_bsl1 rfl (by assumption) rfl ?_ | refine r_mv_rowA rfl rfl ?_ | refine run_seq ?_ | refine run_reg ?_ | refine run_regd rfl ?_
          | refine run_block ?_ | refine run_skip ?_ | refine fin_seq ?_ | refine fin_blk ?_ | refine run_condT rfl ?_)
        refine fin_loop (run_weak (weak_S ?_ ?_) (ih (i + 1) hlt (by omega)))
        · exact ⟨rfl, rfl, rfl, by rw [hE]; simp only [List.length_append]; rfl, tb rfl (decide_eq_true (show k < i + 1 by omega)).symm, rfl, trivial⟩
        · exact ⟨by rw [hE]; rfl, rfl, trivial⟩
      · have hd : decide (k < i) = false := decide_eq_false (by omega)
        have hd' : (!decide (k < i)) = true := by simp; omega
        have hg : decide (0 < cmp xs[i] x) = false := hlo i xs[i] hc (by simp)
        have hE : (laid x k xs (i + 1)).map enc = (laid x k xs i).map enc ++ [enc xs[i]] := by
          have h1 : laid x k xs (i + 1) = xs.take (i + 1) := if_neg (by omega)
          have h2 : laid x k xs i = xs.take i := if_neg (by omega)
          rw [h1, h2, htake, List.map_append]; rfl
        repeat (first
          | refine r_callv rfl (ho xs[i] x) ?_ | refine r_appRow (fs := [60]) rfl rfl rfl rfl rfl rfl (he _) hl1 (by decide) (Or.inl rfl) ?_ | refine r_mv_p rfl ?_ | refine r_doA rfl ?_
          | refine r_addA rfl rfl ?_ | refine r_loadA rfl ?_ | refine r_loadB rfl rfl ?_ | refine r_pickT rfl rfl rfl ?_ | refine r_sem rfl rfl rfl rfl ?_ | refine r_nil ?_
          | refine r_iadA rfl rfl ?_ | refine r_bsl1 rfl (by assumption) rfl ?_ | refine r_mv_rowA rfl rfl ?_ | refine run_seq ?_ | refine run_reg ?_ | refine run_regd rfl ?_
          | refine run_block ?_ | refine run_skip ?_ | refine fin_seq ?_ | refine fin_blk ?_ | refine run_condF rfl ?_)
        refine fin_loop (run_weak (weak_S ?_ ?_) (ih (i + 1) hlt (by omega)))
        · exact ⟨rfl, rfl, rfl, by rw [hE, List.length_append]; rfl, tb rfl (hd.trans (decide_eq_false (show ¬ k < i + 1 by omega)).symm), rfl, trivial⟩
        · exact ⟨by rw [hE]; rfl, rfl, trivial⟩
    · have hin : i = xs.length := by simp at h2; omega
      have htake : xs.take i = xs := by rw [hin]; simp
      rcases Nat.lt_or_ge k i with hc | hc
      · have hd : decide (k < i) = true := decide_eq_true hc
        have hd' : (!decide (k < i)) = false := by simp [hc]
        have hE : putL cmp x xs = laid x k xs i := by rw [hL, laid, if_pos hc, htake]
        rw [hE]
        repeat (first
          | refine r_mv_p rfl ?_ | refine r_sem rfl rfl rfl rfl ?_ | refine r_nil ?_ | refine r_mv_rowA rfl rfl ?_ | refine run_seq ?_ | refine run_reg ?_ | refine run_skip ?_
          | refine run_exit ?_ | refine run_ret ?_ | refine fin_seq ?_ | refine fin_seq_e ?_ | refine fin_blk_e ?_ | refine fin_loop_e ?_ | refine run_condF rfl ?_)
        exact fin_row (by rfl) (by rfl) (by rfl) (by rfl)
      · have hd : decide (k < i) = false := decide_eq_false (by omega)
        have hd' : (!decide (k < i)) = true := by simp; omega
        have hki : k = xs.length := by omega
        have hE : (putL cmp x xs).map enc = (laid x k xs i).map enc ++ [enc x] := by
          have h1 : laid x k xs i = xs.take i := if_neg (Nat.not_lt.2 hc)
          rw [hL, h1, htake, hki, List.drop_length, List.take_length, List.map_append]; rfl
        have hl0 : (((laid x k xs i).map enc).length + [enc x].length) * 64 ≤ 140737488355328 := by
          have h1 : laid x k xs i = xs.take i := if_neg (Nat.not_lt.2 hc)
          rw [h1, htake, List.length_map]; exact hbig
        have he : ∀ z ∈ [enc x], z.length = 5 := by intro z hz; simp at hz; subst hz; exact hxl
        rw [hE]
        repeat (first
          | refine r_appRow (fs := [66]) rfl rfl rfl rfl rfl rfl he hl0 (by decide) (Or.inr rfl) ?_ | refine r_mv_p rfl ?_ | refine r_loadB rfl rfl ?_ | refine r_sem rfl rfl rfl rfl ?_
          | refine r_nil ?_ | refine r_bsl1 rfl (by assumption) rfl ?_ | refine r_mv_rowA rfl rfl ?_ | refine run_seq ?_ | refine run_reg ?_ | refine run_exit ?_ | refine run_ret ?_
          | refine fin_seq ?_ | refine fin_seq_e ?_ | refine fin_blk_e ?_ | refine fin_loop_e ?_ | refine run_condT rfl ?_)
        exact fin_row (by rfl) List.length_append.symm (by rfl) (by rfl)
theorem le59 {i n : Nat} (h : i < n) (hb : (n + 1) * 72 ≤ 140737488355328) : (i + 1 + 1) * 72 ≤ 140737488355328 := Nat.le_trans (Nat.mul_le_mul_right 72 (by omega)) hb
set_option maxHeartbeats 4000000 in
theorem refPut111 {α : Type} (enc : α → List PV) (hen : ∀ x, (enc x).length = 6) (o : FuncId) (cmp : α → α → Int) (ho : ∀ a b, Ret Tryz.prog o [.agg (enc a), .agg (enc b)] (.v (.int .i64 (cmp a b)))) (x : α) (xs : List α) (sp : List (List PV)) (hbig : (xs.length + 1) * 72 ≤ 140737488355328) :
    Ret Tryz.prog 111 [.sl (xs.map enc) sp, .agg (enc x), .clo o []] (.sl ((putL cmp x xs).map enc) []) := by
  refine RetN.ret (ty := 59) (es := 6) ?_
  refine row111 rfl fun hbd => ?_
  have hxl := hen x
  have hxs : ∀ z ∈ xs.map enc, z.length = 6 := by intro z hz; obtain ⟨y, _, rfl⟩ := List.mem_map.1 hz; exact hen y
  have hlen63 : xs.length ≤ 9223372036854775806 := by omega
  unfold c111
  repeat (first
    | refine r_mv_p rfl ?_ | refine r_nil ?_ | refine r_box rfl rfl rfl ?_ | refine r_mv_nil rfl ?_ | refine run_seq ?_ | refine run_reg ?_ | refine run_block ?_ | refine fin_seq ?_)
  refine run_weak (weak_S ?_ ?_) (run_inv (fun i : Nat => S [(0, .p (.sl (xs.map enc) sp)), (2, .p (.clo o [])), (4, .own 4 0), (7, .nil), (8, .p (.v (.int .i64 (i : Nat))))] [(4, some (.box (enc x) false))])
    (fun i => i ≤ xs.length ∧ ∀ j y, j < i → xs[j]? = some y → eqQ cmp x y = false) (fun i => xs.length - i) ?_ 0 ⟨Nat.zero_le _, fun j y hj => by omega⟩)
  · exact ⟨rfl, rfl, rfl, rfl, rfl, trivial⟩
  · exact ⟨rfl, trivial⟩
  rintro i ⟨hi, hno⟩ ih
  repeat (first
    | refine r_mv_p rfl ?_ | refine r_sem rfl rfl rfl rfl ?_ | refine r_nil ?_ | refine run_seq ?_ | refine run_reg ?_ | refine fin_seq ?_)
  refine run_cond rfl (fun h => ?_) (fun h => ?_)
  · have hlt : i < xs.length := by simpa using h
    have hx : (xs.map enc)[i]? = some (enc xs[i]) := by simp [hlt]
    have hel := hen xs[i]
    have hl : (xs.map enc).length * 72 ≤ 140737488355328 := by rw [List.length_map]; omega
    have hltm : i < (xs.map enc).length := by rw [List.length_map]; exact hlt
    repeat (first
      | refine r_callv rfl (ho xs[i] x) ?_ | refine r_mv_p rfl ?_ | refine r_loadA rfl ?_ | refine r_loadB rfl rfl ?_ | refine r_sem rfl rfl rfl rfl ?_ | refine r_nil ?_
      | refine r_iadA rfl rfl ?_ | refine run_seq ?_ | refine run_regd rfl ?_ | refine run_block ?_ | refine run_skip ?_ | refine fin_seq ?_)
    refine run_cond rfl (fun h2 => ?_) (fun h2 => ?_)
    · rw [put_at hlt (show eqQ cmp x xs[i] = true from h2) hno]
      repeat (first
        | refine r_appNil (fs := []) rfl rfl rfl rfl hxs hl rfl ?_ | refine r_store_rp rfl rfl hx rfl rfl (And.intro hxl (Nat.le_refl 6)) ?_ | refine r_mv_p rfl ?_ | refine r_loadB rfl rfl ?_
        | refine r_nil ?_ | refine r_mv_nil rfl ?_ | refine r_mv_rowA rfl rfl ?_
        | refine r_iad_row rfl rfl (by first | rfl | assumption | omega | (simp; done) | (simp; omega)) rfl (by first | rfl | assumption | omega | (simp; done) | (simp; omega)) ?_
        | refine run_seq ?_ | refine run_reg ?_ | refine run_ret ?_ | refine fin_seq ?_ | refine fin_seq_r ?_ | refine fin_blk_r ?_ | refine fin_loop_r ?_)
      refine fin_row (by rfl) (by simp) (by rfl) ?_
      rw [show splice (enc xs[i]) 0 (enc x) = enc x by simp [splice, hel, hxl], List.map_set]; rfl
    · repeat (first
        | refine r_mv_p rfl ?_ | refine r_addA rfl rfl ?_ | refine r_nil ?_ | refine run_reg ?_ | refine run_skip ?_ | refine fin_seq ?_ | refine fin_blk ?_)
      refine fin_loop (run_weak (weak_S ?_ ?_) (ih (i + 1) ⟨hlt, fun j y hj hy => ?_⟩ (by omega)))
      · exact ⟨rfl, rfl, rfl, rfl, rfl, trivial⟩
      · exact ⟨rfl, trivial⟩
      · rcases Nat.lt_or_ge j i with hj' | hj'
        · exact hno j y hj' hy
        · obtain rfl : j = i := by omega
          obtain ⟨_, rfl⟩ := List.getElem?_eq_some_iff.1 hy
          exact h2
  · have hin : i = xs.length := by simp at h; omega
    clear ih
    have hfalse : findB (eqQ cmp x) xs = false := findB_none.2 fun y hy => by
      obtain ⟨j, hj, rfl⟩ := List.mem_iff_getElem.1 hy
      exact hno j xs[j] (by omega) (by simp)
    clear hno
    obtain ⟨k, hk, hkn, hlo, hhi⟩ := putI_spec (gtQ cmp x) xs
    have hL : putL cmp x xs = xs.take k ++ x :: xs.drop k := by rw [putL, if_neg (by simp [hfalse]), hk]; rfl
    repeat (first
      | refine r_mv_p rfl ?_ | refine r_nil ?_ | refine run_seq ?_ | refine run_reg ?_ | refine run_block ?_ | refine run_exit ?_ | refine fin_seq ?_ | refine fin_seq_e ?_
      | refine fin_blk_e ?_ | refine fin_loop_e ?_)
    refine run_weak (weak_nilRow 7 61 59 6 rfl rfl) (run_weak (weak_S ?_ ?_) (run_inv (fun i : Nat => S [(0, .p (.sl (xs.map enc) sp)), (2, .p (.clo o [])), (4, .own 4 0), (7, .row 61 ((laid x k xs i).map enc).length), (9, .p (.v (.bool (decide (k < i))))), (10, .p (.v (.int .i64 (i : Nat))))] [(61, some (.row 59 6 ((laid x k xs i).map enc) false)), (4, some (.box (enc x) false))])
      (fun i => i ≤ xs.length) (fun i => xs.length - i) ?_ 0 (Nat.zero_le _)))
    · exact ⟨rfl, rfl, rfl, rfl, rfl, rfl, trivial⟩
    · exact ⟨rfl, rfl, trivial⟩
    clear hin h hi i
    intro i hi ih
    repeat (first
      | refine r_mv_p rfl ?_ | refine r_sem rfl rfl rfl rfl ?_ | refine r_nil ?_ | refine run_seq ?_ | refine run_reg ?_ | refine fin_seq ?_)
    refine run_cond rfl (fun h2 => ?_) (fun h2 => ?_)
    · have hlt : i < xs.length := by simpa using h2
      have hx : (xs.map enc)[i]? = some (enc xs[i]) := by simp [hlt]
      have hel := hen xs[i]
      have htake : xs.take (i + 1) = xs.take i ++ [xs[i]] := by simp
      have he : ∀ y : α, ∀ z ∈ [enc y], z.length = 6 := by intro y z hz; simp at hz; subst hz; exact hen y
      have hll := laid_length x k xs i hkn hi
      have hl1 : (((laid x k xs i).map enc).length + [enc xs[i]].length) * 72 ≤ 140737488355328 := by simp only [List.length_map, List.length_cons, List.length_nil]; omega
      rcases Nat.lt_trichotomy k i with hc | hc | hc
      · have hd : decide (k < i) = true := decide_eq_true hc
        have hd' : (!decide (k < i)) = false := by simp [hc]
        have hE : (laid x k xs (i + 1)).map enc = (laid x k xs i).map enc ++ [enc xs[i]] := by
          rw [laid, laid, if_pos hc, if_pos (by omega), htake, List.drop_append_of_le_length (by simp; omega)]; simp
        repeat (first
          | refine r_appRow (fs := [60]) rfl rfl rfl rfl rfl rfl (he _) hl1 (by decide) (Or.inl rfl) ?_ | refine r_mv_p rfl ?_ | refine r_skipA rfl ?_ | refine r_addA rfl rfl ?_
          | refine r_loadA rfl ?_ | refine r_pickF rfl rfl rfl ?_ | refine r_sem rfl rfl rfl rfl ?_ | refine r_nil ?_ | refine r_iadA rfl rfl ?_ | refine r_bsl1 rfl (by assumption) rfl ?_
          | refine r_mv_rowA rfl rfl ?_ | refine run_seq ?_ | refine run_reg ?_ | refine run_regd rfl ?_ | refine run_block ?_ | refine run_skip ?_ | refine fin_seq ?_ | refine fin_blk ?_
          | refine run_condF rfl ?_)
        refine fin_loop (run_weak (weak_S ?_ ?_) (ih (i + 1) hlt (by omega)))
        · exact ⟨rfl, rfl, rfl, by rw [hE, List.length_append]; rfl, tb rfl (hd.trans (decide_eq_true (show k < i + 1 by omega)).symm), rfl, trivial⟩
        · exact ⟨by rw [hE]; rfl, rfl, trivial⟩
      · have hd : decide (k < i) = false := decide_eq_false (by omega)
        have hd' : (!decide (k < i)) = true := by simp; omega
        have hg : decide (0 < cmp xs[i] x) = true := hhi _ (by subst hc; simp)
        have hl0 : (((laid x k xs i).map enc).length + [enc x].length) * 72 ≤ 140737488355328 := by simp only [List.length_map, List.length_cons, List.length_nil]; omega
        have hlen : (laid x k xs i).length = i := by rw [laid, if_neg (by omega)]; simp; omega
        have hl2 : ((((laid x k xs i).map enc) ++ [enc x]).length + [enc xs[i]].length) * 72 ≤ 140737488355328 := by
          clear hl0 hl1 hll
          rw [List.length_append, List.length_map, hlen]
          exact le59 hlt hbig
        have hE : (laid x k xs (i + 1)).map enc = ((laid x k xs i).map enc ++ [enc x]) ++ [enc xs[i]] := by
          have h1 : laid x k xs (i + 1) = xs.take k ++ x :: (xs.take (i + 1)).drop k := if_pos (by omega)
          have h2 : laid x k xs i = xs.take i := if_neg (by omega)
          have h3 : (xs.take i).drop i = [] := by simp
          have h4 : (xs.take i ++ [xs[i]]).drop i = [xs[i]] := by rw [List.drop_append_of_le_length (by simp; omega), h3]; rfl
          rw [h1, h2, htake, hc, h4, List.map_append, List.append_assoc]; rfl
        repeat (first
          | refine r_callv rfl (ho xs[i] x) ?_ | refine r_appRow (fs := [53]) rfl rfl rfl rfl rfl rfl (he _) hl0 (by decide) (Or.inr rfl) ?_
          | refine r_appRow (fs := [60]) rfl rfl List.length_append.symm rfl rfl rfl (he _) hl2 (by decide) (Or.inr rfl) ?_ | refine r_mv_p rfl ?_ | refine r_doA rfl ?_
          | refine r_addA rfl rfl ?_ | refine r_loadA rfl ?_ | refine r_loadB rfl rfl ?_ | refine r_pickT rfl rfl rfl ?_ | refine r_sem rfl rfl rfl rfl ?_ | refine r_nil ?_
          | refine r_iadA rfl rfl ?_ | refine r_bsl1 rfl (by assumption) rfl ?_ | refine r_mv_rowA rfl rfl ?_ | refine run_seq ?_ | refine run_reg ?_ | refine run_regd rfl ?_
          | refine run_block ?_ | refine run_skip ?_ | refine fin_seq ?_ | refine fin_blk ?_ | refine run_condT rfl ?_)
        refine fin_loop (run_weak (weak_S ?_ ?_) (ih (i + 1) hlt (by omega)))
        · exact ⟨rfl, rfl, rfl, by rw [hE]; simp only [List.length_append]; rfl, tb rfl (decide_eq_true (show k < i + 1 by omega)).symm, rfl, trivial⟩
        · exact ⟨by rw [hE]; rfl, rfl, trivial⟩
      · have hd : decide (k < i) = false := decide_eq_false (by omega)
        have hd' : (!decide (k < i)) = true := by simp; omega
        have hg : decide (0 < cmp xs[i] x) = false := hlo i xs[i] hc (by simp)
        have hE : (laid x k xs (i + 1)).map enc = (laid x k xs i).map enc ++ [enc xs[i]] := by
          have h1 : laid x k xs (i + 1) = xs.take (i + 1) := if_neg (by omega)
          have h2 : laid x k xs i = xs.take i := if_neg (by omega)
          rw [h1, h2, htake, List.map_append]; rfl
        repeat (first
          | refine r_callv rfl (ho xs[i] x) ?_ | refine r_appRow (fs := [60]) rfl rfl rfl rfl rfl rfl (he _) hl1 (by decide) (Or.inl rfl) ?_ | refine r_mv_p rfl ?_ | refine r_doA rfl ?_
          | refine r_addA rfl rfl ?_ | refine r_loadA rfl ?_ | refine r_loadB rfl rfl ?_ | refine r_pickT rfl rfl rfl ?_ | refine r_sem rfl rfl rfl rfl ?_ | refine r_nil ?_
          | refine r_iadA rfl rfl ?_ | refine r_bsl1 rfl (by assumption) rfl ?_ | refine r_mv_rowA rfl rfl ?_ | refine run_seq ?_ | refine run_reg ?_ | refine run_regd rfl ?_
          | refine run_block ?_ | refine run_skip ?_ | refine fin_seq ?_ | refine fin_blk ?_ | refine run_condF rfl ?_)
        refine fin_loop (run_weak (weak_S ?_ ?_) (ih (i + 1) hlt (by omega)))
        · exact ⟨rfl, rfl, rfl, by rw [hE, List.length_append]; rfl, tb rfl (hd.trans (decide_eq_false (show ¬ k < i + 1 by omega)).symm), rfl, trivial⟩
        · exact ⟨by rw [hE]; rfl, rfl, trivial⟩
    · have hin : i = xs.length := by simp at h2; omega
      have htake : xs.take i = xs := by rw [hin]; simp
      rcases Nat.lt_or_ge k i with hc | hc
      · have hd : decide (k < i) = true := decide_eq_true hc
        have hd' : (!decide (k < i)) = false := by simp [hc]
        have hE : putL cmp x xs = laid x k xs i := by rw [hL, laid, if_pos hc, htake]
        rw [hE]
        repeat (first
          | refine r_mv_p rfl ?_ | refine r_sem rfl rfl rfl rfl ?_ | refine r_nil ?_ | refine r_mv_rowA rfl rfl ?_ | refine run_seq ?_ | refine run_reg ?_ | refine run_skip ?_
          | refine run_exit ?_ | refine run_ret ?_ | refine fin_seq ?_ | refine fin_seq_e ?_ | refine fin_blk_e ?_ | refine fin_loop_e ?_ | refine run_condF rfl ?_)
        exact fin_row (by rfl) (by rfl) (by rfl) (by rfl)
      · have hd : decide (k < i) = false := decide_eq_false (by omega)
        have hd' : (!decide (k < i)) = true := by simp; omega
        have hki : k = xs.length := by omega
        have hE : (putL cmp x xs).map enc = (laid x k xs i).map enc ++ [enc x] := by
          have h1 : laid x k xs i = xs.take i := if_neg (Nat.not_lt.2 hc)
          rw [hL, h1, htake, hki, List.drop_length, List.take_length, List.map_append]; rfl
        have hl0 : (((laid x k xs i).map enc).length + [enc x].length) * 72 ≤ 140737488355328 := by
          have h1 : laid x k xs i = xs.take i := if_neg (Nat.not_lt.2 hc)
          rw [h1, htake, List.length_map]; exact hbig
        have he : ∀ z ∈ [enc x], z.length = 6 := by intro z hz; simp at hz; subst hz; exact hxl
        rw [hE]
        repeat (first
          | refine r_appRow (fs := [66]) rfl rfl rfl rfl rfl rfl he hl0 (by decide) (Or.inr rfl) ?_ | refine r_mv_p rfl ?_ | refine r_loadB rfl rfl ?_ | refine r_sem rfl rfl rfl rfl ?_
          | refine r_nil ?_ | refine r_bsl1 rfl (by assumption) rfl ?_ | refine r_mv_rowA rfl rfl ?_ | refine run_seq ?_ | refine run_reg ?_ | refine run_exit ?_ | refine run_ret ?_
          | refine fin_seq ?_ | refine fin_seq_e ?_ | refine fin_blk_e ?_ | refine fin_loop_e ?_ | refine run_condT rfl ?_)
        exact fin_row (by rfl) List.length_append.symm (by rfl) (by rfl)
theorem le69 {i n : Nat} (h : i < n) (hb : (n + 1) * 64 ≤ 140737488355328) : (i + 1 + 1) * 64 ≤ 140737488355328 := Nat.le_trans (Nat.mul_le_mul_right 64 (by omega)) hb
set_option maxHeartbeats 4000000 in
theorem refPut112 {α : Type} (enc : α → List PV) (hen : ∀ x, (enc x).length = 6) (o : FuncId) (cmp : α → α → Int) (ho : ∀ a b, Ret Tryz.prog o [.agg (enc a), .agg (enc b)] (.v (.int .i64 (cmp a b)))) (x : α) (xs : List α) (sp : List (List PV)) (hbig : (xs.length + 1) * 64 ≤ 140737488355328) :
    Ret Tryz.prog 112 [.sl (xs.map enc) sp, .agg (enc x), .clo o []] (.sl ((putL cmp x xs).map enc) []) := by
  refine RetN.ret (ty := 69) (es := 6) ?_
  refine row112 rfl fun hbd => ?_
  have hxl := hen x
  have hxs : ∀ z ∈ xs.map enc, z.length = 6 := by intro z hz; obtain ⟨y, _, rfl⟩ := List.mem_map.1 hz; exact hen y
  have hlen63 : xs.length ≤ 9223372036854775806 := by omega
  unfold c112
  repeat (first
    | refine r_mv_p rfl ?_ | refine r_nil ?_ | refine r_box rfl rfl rfl ?_ | refine r_mv_nil rfl ?_ | refine run_seq ?_ | refine run_reg ?_ | refine run_block ?_ | refine fin_seq ?_)
  refine run_weak (weak_S ?_ ?_) (run_inv (fun i : Nat => S [(0, .p (.sl (xs.map enc) sp)), (2, .p (.clo o [])), (4, .own 4 0), (7, .nil), (8, .p (.v (.int .i64 (i : Nat))))] [(4, some (.box (enc x) false))])
    (fun i => i ≤ xs.length ∧ ∀ j y, j < i → xs[j]? = some y → eqQ cmp x y = false) (fun i => xs.length - i) ?_ 0 ⟨Nat.zero_le _, fun j y hj => by omega⟩)
  · exact ⟨rfl, rfl, rfl, rfl, rfl, trivial⟩
  · exact ⟨rfl, trivial⟩
  rintro i ⟨hi, hno⟩ ih
  repeat (first
    | refine r_mv_p rfl ?_ | refine r_sem rfl rfl rfl rfl ?_ | refine r_nil ?_ | refine run_seq ?_ | refine run_reg ?_ | refine fin_seq ?_)
  refine run_cond rfl (fun h => ?_) (fun h => ?_)
  · have hlt : i < xs.length := by simpa using h
    have hx : (xs.map enc)[i]? = some (enc xs[i]) := by simp [hlt]
    have hel := hen xs[i]
    have hl : (xs.map enc).length * 64 ≤ 140737488355328 := by rw [List.length_map]; omega
    have hltm : i < (xs.map enc).length := by rw [List.length_map]; exact hlt
    repeat (first
      | refine r_callv rfl (ho xs[i] x) ?_ | refine r_mv_p rfl ?_ | refine r_loadA rfl ?_ | refine r_loadB rfl rfl ?_ | refine r_sem rfl rfl rfl rfl ?_ | refine r_nil ?_
      | refine r_iadA rfl rfl ?_ | refine run_seq ?_ | refine run_regd rfl ?_ | refine run_block ?_ | refine run_skip ?_ | refine fin_seq ?_)
    refine run_cond rfl (fun h2 => ?_) (fun h2 => ?_)
    · rw [put_at hlt (show eqQ cmp x xs[i] = true from h2) hno]
      repeat (first
        | refine r_appNil (fs := []) rfl rfl rfl rfl hxs hl rfl ?_ | refine r_store_rp rfl rfl hx rfl rfl (And.intro hxl (Nat.le_refl 6)) ?_ | refine r_mv_p rfl ?_ | refine r_loadB rfl rfl ?_
        | refine r_nil ?_ | refine r_mv_nil rfl ?_ | refine r_mv_rowA rfl rfl ?_
        | refine r_iad_row rfl rfl (by first | rfl | assumption | omega | (simp; done) | (simp; omega)) rfl (by first | rfl | assumption | omega | (simp; done) | (simp; omega)) ?_
        | refine run_seq ?_ | refine run_reg ?_ | refine run_ret ?_ | refine fin_seq ?_ | refine fin_seq_r ?_ | refine fin_blk_r ?_ | refine fin_loop_r ?_)
      refine fin_row (by rfl) (by simp) (by rfl) ?_
      rw [show splice (enc xs[i]) 0 (enc x) = enc x by simp [splice, hel, hxl], List.map_set]; rfl
    · repeat (first
        | refine r_mv_p rfl ?_ | refine r_addA rfl rfl ?_ | refine r_nil ?_ | refine run_reg ?_ | refine run_skip ?_ | refine fin_seq ?_ | refine fin_blk ?_)
      refine fin_loop (run_weak (weak_S ?_ ?_) (ih (i + 1) ⟨hlt, fun j y hj hy => ?_⟩ (by omega)))
      · exact ⟨rfl, rfl, rfl, rfl, rfl, trivial⟩
      · exact ⟨rfl, trivial⟩
      · rcases Nat.lt_or_ge j i with hj' | hj'
        · exact hno j y hj' hy
        · obtain rfl : j = i := by omega
          obtain ⟨_, rfl⟩ := List.getElem?_eq_some_iff.1 hy
          exact h2
  · have hin : i = xs.length := by simp at h; omega
    clear ih
    have hfalse : findB (eqQ cmp x) xs = false := findB_none.2 fun y hy => by
      obtain ⟨j, hj, rfl⟩ := List.mem_iff_getElem.1 hy
      exact hno j xs[j] (by omega) (by simp)
    clear hno
    obtain ⟨k, hk, hkn, hlo, hhi⟩ := putI_spec (gtQ cmp x) xs
    have hL : putL cmp x xs = xs.take k ++ x :: xs.drop k := by rw [putL, if_neg (by simp [hfalse]), hk]; rfl
    repeat (first
      | refine r_mv_p rfl ?_ | refine r_nil ?_ | refine run_seq ?_ | refine run_reg ?_ | refine run_block ?_ | refine run_exit ?_ | refine fin_seq ?_ | refine fin_seq_e ?_
      | refine fin_blk_e ?_ | refine fin_loop_e ?_)
    refine run_weak (weak_nilRow 7 61 69 6 rfl rfl) (run_weak (weak_S ?_ ?_) (run_inv (fun i : Nat => S [(0, .p (.sl (xs.map enc) sp)), (2, .p (.clo o [])), (4, .own 4 0), (7, .row 61 ((laid x k xs i).map enc).length), (9, .p (.v (.bool (decide (k < i))))), (10, .p (.v (.int .i64 (i : Nat))))] [(61, some (.row 69 6 ((laid x k xs i).map enc) false)), (4, some (.box (enc x) false))])
      (fun i => i ≤ xs.length) (fun i => xs.length - i) ?_ 0 (Nat.zero_le _)))
    · exact ⟨rfl, rfl, rfl, rfl, rfl, rfl, trivial⟩
    · exact ⟨rfl, rfl, trivial⟩
    clear hin h hi i
    intro i hi ih
    repeat (first
      | refine r_mv_p rfl ?_ | refine r_sem rfl rfl rfl rfl ?_ | refine r_nil ?_ | refine run_seq ?_ | refine run_reg ?_ | refine fin_seq ?_)
    refine run_cond rfl (fun h2 => ?_) (fun h2 => ?_)
    · have hlt : i < xs.length := by simpa using h2
      have hx : (xs.map enc)[i]? = some (enc xs[i]) := by simp [hlt]
      have hel := hen xs[i]
      have htake : xs.take (i + 1) = xs.take i ++ [xs[i]] := by simp
      have he : ∀ y : α, ∀ z ∈ [enc y], z.length = 6 := by intro y z hz; simp at hz; subst hz; exact hen y
      have hll := laid_length x k xs i hkn hi
      have hl1 : (((laid x k xs i).map enc).length + [enc xs[i]].length) * 64 ≤ 140737488355328 := by simp only [List.length_map, List.length_cons, List.length_nil]; omega
      rcases Nat.lt_trichotomy k i with hc | hc | hc
      · have hd : decide (k < i) = true := decide_eq_true hc
        have hd' : (!decide (k < i)) = false := by simp [hc]
        have hE : (laid x k xs (i + 1)).map enc = (laid x k xs i).map enc ++ [enc xs[i]] := by
          rw [laid, laid, if_pos hc, if_pos (by omega), htake, List.drop_append_of_le_length (by simp; omega)]; simp
        repeat (first
          | refine r_appRow (fs := [60]) rfl rfl rfl rfl rfl rfl (he _) hl1 (by decide) (Or.inl rfl) ?_ | refine r_mv_p rfl ?_ | refine r_skipA rfl ?_ | refine r_addA rfl rfl ?_
          | refine r_loadA rfl ?_ | refine r_pickF rfl rfl rfl ?_ | refine r_sem rfl rfl rfl rfl ?_ | refine r_nil ?_ | refine r_iadA rfl rfl ?_ | refine r_bsl1 rfl (by assumption) rfl ?_
          | refine r_mv_rowA rfl rfl ?_ | refine run_seq ?_ | refine run_reg ?_ | refine run_regd rfl ?_ | refine run_block ?_ | refine run_skip ?_ | refine fin_seq ?_ | refine fin_blk ?_
          | refine run_condF rfl ?_)
        refine fin_loop (run_weak (weak_S ?_ ?_) (ih (i + 1) hlt (by omega)))
        · exact ⟨rfl, rfl, rfl, by rw [hE, List.length_append]; rfl, tb rfl (hd.trans (decide_eq_true (show k < i + 1 by omega)).symm), rfl, trivial⟩
        · exact ⟨by rw [hE]; rfl, rfl, trivial⟩
      · have hd : decide (k < i) = false := decide_eq_false (by omega)
        have hd' : (!decide (k < i)) = true := by simp; omega
        have hg : decide (0 < cmp xs[i] x) = true := hhi _ (by subst hc; simp)
        have hl0 : (((laid x k xs i).map enc).length + [enc x].length) * 64 ≤ 140737488355328 := by simp only [List.length_map, List.length_cons, List.length_nil]; omega
        have hlen : (laid x k xs i).length = i := by rw [laid, if_neg (by omega)]; simp; omega
        have hl2 : ((((laid x k xs i).map enc) ++ [enc x]).length + [enc xs[i]].length) * 64 ≤ 140737488355328 := by
          clear hl0 hl1 hll
          rw [List.length_append, List.length_map, hlen]
          exact le69 hlt hbig
        have hE : (laid x k xs (i + 1)).map enc = ((laid x k xs i).map enc ++ [enc x]) ++ [enc xs[i]] := by
          have h1 : laid x k xs (i + 1) = xs.take k ++ x :: (xs.take (i + 1)).drop k := if_pos (by omega)
          have h2 : laid x k xs i = xs.take i := if_neg (by omega)
          have h3 : (xs.take i).drop i = [] := by simp
          have h4 : (xs.take i ++ [xs[i]]).drop i = [xs[i]] := by rw [List.drop_append_of_le_length (by simp; omega), h3]; rfl
          rw [h1, h2, htake, hc, h4, List.map_append, List.append_assoc]; rfl
        repeat (first
          | refine r_callv rfl (ho xs[i] x) ?_ | refine r_appRow (fs := [53]) rfl rfl rfl rfl rfl rfl (he _) hl0 (by decide) (Or.inr rfl) ?_
          | refine r_appRow (fs := [60]) rfl rfl List.length_append.symm rfl rfl rfl (he _) hl2 (by decide) (Or.inr rfl) ?_ | refine r_mv_p rfl ?_ | refine r_doA rfl ?_
          | refine r_addA rfl rfl ?_ | refine r_loadA rfl ?_ | refine r_loadB rfl rfl ?_ | refine r_pickT rfl rfl rfl ?_ | refine r_sem rfl rfl rfl rfl ?_ | refine r_nil ?_
          | refine r_iadA rfl rfl ?_ | refine r_bsl1 rfl (by assumption) rfl ?_ | refine r_mv_rowA rfl rfl ?_ | refine run_seq ?_ | refine run_reg ?_ | refine run_regd rfl ?_
          | refine run_block ?_ | refine run_skip ?_ | refine fin_seq ?_ | refine fin_blk ?_ | refine run_condT rfl ?_)
        refine fin_loop (run_weak (weak_S ?_ ?_) (ih (i + 1) hlt (by omega)))
        · exact ⟨rfl, rfl, rfl, by rw [hE]; simp only [List.length_append]; rfl, tb rfl (decide_eq_true (show k < i + 1 by omega)).symm, rfl, trivial⟩
        · exact ⟨by rw [hE]; rfl, rfl, trivial⟩
      · have hd : decide (k < i) = false := decide_eq_false (by omega)
        have hd' : (!decide (k < i)) = true := by simp; omega
        have hg : decide (0 < cmp xs[i] x) = false := hlo i xs[i] hc (by simp)
        have hE : (laid x k xs (i + 1)).map enc = (laid x k xs i).map enc ++ [enc xs[i]] := by
          have h1 : laid x k xs (i + 1) = xs.take (i + 1) := if_neg (by omega)
          have h2 : laid x k xs i = xs.take i := if_neg (by omega)
          rw [h1, h2, htake, List.map_append]; rfl
        repeat (first
          | refine r_callv rfl (ho xs[i] x) ?_ | refine r_appRow (fs := [60]) rfl rfl rfl rfl rfl rfl (he _) hl1 (by decide) (Or.inl rfl) ?_ | refine r_mv_p rfl ?_ | refine r_doA rfl ?_
          | refine r_addA rfl rfl ?_ | refine r_loadA rfl ?_ | refine r_loadB rfl rfl ?_ | refine r_pickT rfl rfl rfl ?_ | refine r_sem rfl rfl rfl rfl ?_ | refine r_nil ?_
          | refine r_iadA rfl rfl ?_ | refine r_bsl1 rfl (by assumption) rfl ?_ | refine r_mv_rowA rfl rfl ?_ | refine run_seq ?_ | refine run_reg ?_ | refine run_regd rfl ?_
          | refine run_block ?_ | refine run_skip ?_ | refine fin_seq ?_ | refine fin_blk ?_ | refine run_condF rfl ?_)
        refine fin_loop (run_weak (weak_S ?_ ?_) (ih (i + 1) hlt (by omega)))
        · exact ⟨rfl, rfl, rfl, by rw [hE, List.length_append]; rfl, tb rfl (hd.trans (decide_eq_false (show ¬ k < i + 1 by omega)).symm), rfl, trivial⟩
        · exact ⟨by rw [hE]; rfl, rfl, trivial⟩
    · have hin : i = xs.length := by simp at h2; omega
      have htake : xs.take i = xs := by rw [hin]; simp
      rcases Nat.lt_or_ge k i with hc | hc
      · have hd : decide (k < i) = true := decide_eq_true hc
        have hd' : (!decide (k < i)) = false := by simp [hc]
        have hE : putL cmp x xs = laid x k xs i := by rw [hL, laid, if_pos hc, htake]
        rw [hE]
        repeat (first
          | refine r_mv_p rfl ?_ | refine r_sem rfl rfl rfl rfl ?_ | refine r_nil ?_ | refine r_mv_rowA rfl rfl ?_ | refine run_seq ?_ | refine run_reg ?_ | refine run_skip ?_
          | refine run_exit ?_ | refine run_ret ?_ | refine fin_seq ?_ | refine fin_seq_e ?_ | refine fin_blk_e ?_ | refine fin_loop_e ?_ | refine run_condF rfl ?_)
        exact fin_row (by rfl) (by rfl) (by rfl) (by rfl)
      · have hd : decide (k < i) = false := decide_eq_false (by omega)
        have hd' : (!decide (k < i)) = true := by simp; omega
        have hki : k = xs.length := by omega
        have hE : (putL cmp x xs).map enc = (laid x k xs i).map enc ++ [enc x] := by
          have h1 : laid x k xs i = xs.take i := if_neg (Nat.not_lt.2 hc)
          rw [hL, h1, htake, hki, List.drop_length, List.take_length, List.map_append]; rfl
        have hl0 : (((laid x k xs i).map enc).length + [enc x].length) * 64 ≤ 140737488355328 := by
          have h1 : laid x k xs i = xs.take i := if_neg (Nat.not_lt.2 hc)
          rw [h1, htake, List.length_map]; exact hbig
        have he : ∀ z ∈ [enc x], z.length = 6 := by intro z hz; simp at hz; subst hz; exact hxl
        rw [hE]
        repeat (first
          | refine r_appRow (fs := [66]) rfl rfl rfl rfl rfl rfl he hl0 (by decide) (Or.inr rfl) ?_ | refine r_mv_p rfl ?_ | refine r_loadB rfl rfl ?_ | refine r_sem rfl rfl rfl rfl ?_
          | refine r_nil ?_ | refine r_bsl1 rfl (by assumption) rfl ?_ | refine r_mv_rowA rfl rfl ?_ | refine run_seq ?_ | refine run_reg ?_ | refine run_exit ?_ | refine run_ret ?_
          | refine fin_seq ?_ | refine fin_seq_e ?_ | refine fin_blk_e ?_ | refine fin_loop_e ?_ | refine run_condT rfl ?_)
        exact fin_row (by rfl) List.length_append.symm (by rfl) (by rfl)
end Go.Fw
