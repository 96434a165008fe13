/-
  How things stand, by the document, and how it puts them.
-/
import Derived.Test.YtdmackpiohkanaaHT
set_option linter.unusedVariables false
set_option linter.unusedSimpArgs false
set_option maxRecDepth 10000
namespace Go.Fw
open Go.Proofs

/-! ### Orders -/
def one (s : Str) : List PV := [.v (.string s)]
def cmpT : List Str → List Str → Int
  | a :: as', b :: bs => if slt a b = true then -1 else if a = b then cmpT as' bs else 1
  | _, _ => 0
theorem texts170 (xs ys : List Str) (s1 s2 : List (List PV)) (hl : xs.length = ys.length) : Ret Try.prog 170 [.sl (xs.map one) s1, .sl (ys.map one) s2] (.v (.int .i64 (cmpT xs ys))) := by
  refine ret170 rfl fun hbd => ?_
  have hb : xs.length ≤ 9223372036854775807 := by
    have := hbd _ (List.mem_cons_self)
    simp only [PV.bd, PV.bd1, List.length_append, List.length_map, maxLen] at this
    omega
  unfold c170
  repeat (first
    | refine r_mv_p rfl ?_ | refine r_nil ?_ | refine run_seq ?_ | refine run_reg ?_ | refine run_block ?_ | refine fin_seq ?_)
  refine run_weak (weak_S ?_ ?_) (run_inv (fun i : Nat => S [(0, .p (.sl (xs.map one) s1)), (1, .p (.sl (ys.map one) s2)), (4, .p (.v (.int .i64 0))), (5, .p (.v (.int .i64 (i : Nat))))] [])
    (fun i => i ≤ xs.length ∧ cmpT xs ys = cmpT (xs.drop i) (ys.drop i)) (fun i => xs.length - i) ?_ 0 ⟨Nat.zero_le _, rfl⟩)
  · exact ⟨rfl, rfl, rfl, rfl, trivial⟩
  · trivial
  intro i hi ih
  obtain ⟨hi, hfst⟩ := hi
  repeat (first
    | refine r_mv_p rfl ?_ | refine r_sem rfl rfl rfl rfl ?_ | refine r_nil ?_ | refine run_seq ?_ | refine run_reg ?_ | refine fin_seq ?_)
  refine run_cond rfl (fun h => ?_) (fun h => ?_)
  · have hlt : i < xs.length := by simpa using h
    have hlt2 : i < ys.length := by omega
    have hx : (xs.map one)[i]? = some (one xs[i]) := by simp [hlt]
    have hy : (ys.map one)[i]? = some (one ys[i]) := by simp [hlt2]
    have hd1 : xs.drop i = xs[i] :: xs.drop (i + 1) := List.drop_eq_getElem_cons hlt
    have hd2 : ys.drop i = ys[i] :: ys.drop (i + 1) := List.drop_eq_getElem_cons hlt2
    repeat (first
      | refine r_mv_p rfl ?_ | refine r_sem rfl rfl rfl rfl ?_ | refine r_nil ?_ | refine r_iadA rfl rfl ?_ | refine run_seq ?_ | refine run_regd rfl ?_ | refine run_block ?_
      | refine run_skip ?_ | refine fin_seq ?_)
    refine run_cond rfl (fun h2 => ?_) (fun h2 => ?_)
    · repeat (first
        | refine r_mv_p rfl ?_ | refine r_nil ?_ | refine run_seq ?_ | refine run_reg ?_ | refine run_ret ?_ | refine fin_seq ?_ | refine fin_seq_r ?_ | refine fin_blk_r ?_
        | refine fin_loop_r ?_)
      exact fin_out rfl (by rw [hfst, hd1, hd2]; simp [cmpT, h2])
    · repeat (first
        | refine r_mv_p rfl ?_ | refine r_sem rfl rfl rfl rfl ?_ | refine r_nil ?_ | refine r_iadA rfl rfl ?_ | refine run_seq ?_ | refine run_regd rfl ?_ | refine run_skip ?_
        | refine fin_seq ?_)
      refine run_cond rfl (fun h3 => ?_) (fun h3 => ?_)
      · repeat (first
          | refine r_mv_p rfl ?_ | refine r_nil ?_ | refine run_seq ?_ | refine run_reg ?_ | refine run_ret ?_ | refine fin_seq ?_ | refine fin_seq_r ?_ | refine fin_blk_r ?_
          | refine fin_loop_r ?_)
        exact fin_out rfl (by rw [hfst, hd1, hd2]; rw [h2] at h3; simp at h3; simp [cmpT, h2, h3])
      · repeat (first
          | refine r_mv_p rfl ?_ | refine r_addA rfl rfl ?_ | refine r_nil ?_ | refine run_reg ?_ | refine run_skip ?_ | refine fin_seq ?_ | refine fin_blk ?_)
        refine fin_loop (run_weak (weak_S ?_ ?_) (ih (i + 1) ⟨hlt, ?_⟩ (by omega)))
        · exact ⟨rfl, rfl, rfl, rfl, trivial⟩
        · trivial
        · rw [h2] at h3
          simp at h3
          rw [hfst, hd1, hd2]
          show (if slt xs[i] ys[i] = true then -1 else if xs[i] = ys[i] then _ else 1) = _
          rw [h2, if_neg Bool.false_ne_true, if_pos h3]
  · have hlt : i = xs.length := by simp at h; omega
    repeat (first
      | refine r_mv_p rfl ?_ | refine r_nil ?_ | refine run_seq ?_ | refine run_reg ?_ | refine run_exit ?_ | refine run_ret ?_ | refine fin_seq ?_ | refine fin_seq_e ?_
      | refine fin_blk_e ?_ | refine fin_loop_e ?_)
    exact fin_out rfl (by rw [hfst, hlt]; simp [cmpT])
theorem cmpT_one (a b : Str) : cmpT [a] [b] = cmpS a b := by
  unfold cmpT cmpS
  cases h : slt a b with
  | true => rfl
  | false =>
    by_cases e : a = b
    · subst e; simp [cmpT, slt_irrefl]
    · cases h2 : slt b a with
      | true => simp [e]
      | false => exact absurd (slt_total h h2) e
theorem cmpT_two (a b c d : Str) : cmpT [a, c] [b, d] = orI [cmpS a b, cmpS c d] := by
  have h1 := cmpT_one c d
  show (if slt a b = true then -1 else if a = b then cmpT [c] [d] else 1) = _
  rw [h1]
  unfold cmpS
  cases h : slt a b with
  | true => rfl
  | false =>
    by_cases e : a = b
    · subst e
      rw [slt_irrefl]
      simp only [Bool.false_eq_true, if_false, if_true, orI]
      split <;> split <;> simp_all [orI]
    · cases h2 : slt b a with
      | true => simp [e, orI]
      | false => exact absurd (slt_total h h2) e
theorem rorder138 (a b : Item) : Ret Try.prog 138 [.agg a.enc, .agg b.enc] (.v (.int .i64 (itemCmp a b))) := by
  refine ret138 rfl fun hbd => ?_
  have h := texts170 [a.code] [b.code] [] [] rfl
  rw [cmpT_one] at h
  unfold c138
  repeat (first
    | refine r_callF rfl rfl rfl (h) ?_ | refine r_mv_p rfl ?_ | refine r_fad rfl rfl ?_ | refine r_sem rfl rfl rfl rfl ?_ | refine r_nil ?_ | refine r_box rfl rfl rfl ?_
    | refine r_bsl rfl rfl rfl rfl rfl rfl ?_ | refine run_seq ?_ | refine run_reg ?_ | refine run_ret ?_ | refine fin_seq ?_)
  exact fin_out rfl rfl
theorem rorder155 (a b : Bin) : Ret Try.prog 155 [.agg a.enc, .agg b.enc] (.v (.int .i64 (binCmp a b))) := by
  refine ret155 rfl fun hbd => ?_
  have h := texts170 [a.code] [b.code] [] [] rfl
  rw [cmpT_one] at h
  unfold c155
  repeat (first
    | refine r_callF rfl rfl rfl (h) ?_ | refine r_mv_p rfl ?_ | refine r_fad rfl rfl ?_ | refine r_sem rfl rfl rfl rfl ?_ | refine r_nil ?_ | refine r_box rfl rfl rfl ?_
    | refine r_bsl rfl rfl rfl rfl rfl rfl ?_ | refine run_seq ?_ | refine run_reg ?_ | refine run_ret ?_ | refine fin_seq ?_)
  exact fin_out rfl rfl
theorem rorder163 (a b : Zone) : Ret Try.prog 163 [.agg a.enc, .agg b.enc] (.v (.int .i64 (zoneCmp a b))) := by
  refine ret163 rfl fun hbd => ?_
  have h := texts170 [a.code] [b.code] [] [] rfl
  rw [cmpT_one] at h
  unfold c163
  repeat (first
    | refine r_callF rfl rfl rfl (h) ?_ | refine r_mv_p rfl ?_ | refine r_fad rfl rfl ?_ | refine r_sem rfl rfl rfl rfl ?_ | refine r_nil ?_ | refine r_box rfl rfl rfl ?_
    | refine r_bsl rfl rfl rfl rfl rfl rfl ?_ | refine run_seq ?_ | refine run_reg ?_ | refine run_ret ?_ | refine fin_seq ?_)
  exact fin_out rfl rfl
theorem rorder147 (a b : Lot) : Ret Try.prog 147 [.agg a.enc, .agg b.enc] (.v (.int .i64 (lotCmp a b))) := by
  refine ret147 rfl fun hbd => ?_
  have h := texts170 [a.item, a.code] [b.item, b.code] [] [] rfl
  rw [cmpT_two] at h
  unfold c147
  repeat (first
    | refine r_callF rfl rfl rfl (h) ?_ | refine r_mv_p rfl ?_ | refine r_fad rfl rfl ?_ | refine r_sem rfl rfl rfl rfl ?_ | refine r_nil ?_ | refine r_box rfl rfl rfl ?_
    | refine r_bsl rfl rfl rfl rfl rfl rfl ?_ | refine run_seq ?_ | refine run_reg ?_ | refine run_ret ?_ | refine fin_seq ?_)
  exact fin_out rfl rfl
theorem order149 (a b : Bin) : Ret Try.prog 149 [.agg a.enc, .agg b.enc] (.v (.int .i64 (binCmp a b))) := by
  refine ret149 rfl fun hbd => ?_
  unfold c149
  repeat (first
    | refine r_call rfl (compare_ok _ _) ?_ | refine r_mv_p rfl ?_ | refine r_fad rfl rfl ?_ | refine r_sem rfl rfl rfl rfl ?_ | refine r_nil ?_ | refine r_box rfl rfl rfl ?_
    | refine run_seq ?_ | refine run_reg ?_ | refine run_ret ?_ | refine fin_seq ?_)
  exact fin_out rfl rfl
theorem rows121 : Ret Try.prog 121 [] (.agg [.clo 149 []]) := by
  refine ret121 rfl fun hbd => ?_
  unfold c121
  repeat (first
    | refine r_sem rfl rfl rfl rfl ?_ | refine r_nil ?_ | refine r_storeAll rfl rfl rfl rfl rfl rfl ?_ | refine r_alloc rfl ?_ | refine run_seq ?_ | refine run_reg ?_ | refine run_ret ?_
    | refine fin_seq ?_)
  exact fin_out rfl rfl
theorem order157 (a b : Zone) : Ret Try.prog 157 [.agg a.enc, .agg b.enc] (.v (.int .i64 (zoneCmp a b))) := by
  refine ret157 rfl fun hbd => ?_
  unfold c157
  repeat (first
    | refine r_call rfl (compare_ok _ _) ?_ | refine r_mv_p rfl ?_ | refine r_fad rfl rfl ?_ | refine r_sem rfl rfl rfl rfl ?_ | refine r_nil ?_ | refine r_box rfl rfl rfl ?_
    | refine run_seq ?_ | refine run_reg ?_ | refine run_ret ?_ | refine fin_seq ?_)
  exact fin_out rfl rfl
theorem rows125 : Ret Try.prog 125 [] (.agg [.clo 157 []]) := by
  refine ret125 rfl fun hbd => ?_
  unfold c125
  repeat (first
    | refine r_sem rfl rfl rfl rfl ?_ | refine r_nil ?_ | refine r_storeAll rfl rfl rfl rfl rfl rfl ?_ | refine r_alloc rfl ?_ | refine run_seq ?_ | refine run_reg ?_ | refine run_ret ?_
    | refine fin_seq ?_)
  exact fin_out rfl rfl

/-! ### The document's put -/
def laid {α : Type} (x : α) (k : Nat) (xs : List α) (i : Nat) : List α := if k < i then xs.take k ++ x :: (xs.take i).drop k else xs.take i
theorem laid_length {α : Type} (x : α) (k : Nat) (xs : List α) (i : Nat) (hk : k ≤ xs.length) (hi : i ≤ xs.length) : (laid x k xs i).length ≤ i + 1 := by
  unfold laid; split
  · simp; omega
  · simp; omega
theorem put_at {α : Type} {cmp : α → α → Int} {x : α} {xs : List α} {i : Nat} (hi : i < xs.length) (h1 : eqQ cmp x xs[i] = true) (h2 : ∀ j y, j < i → xs[j]? = some y → eqQ cmp x y = false) : putL cmp x xs = xs.set i x := by
  have hf : findB (eqQ cmp x) xs = true := by
    cases h : findB (eqQ cmp x) xs with
    | true => rfl
    | false => rw [findB_none.1 h _ (List.getElem_mem hi)] at h1; cases h1
  obtain ⟨k, z, hk, hz, hq, hlo⟩ := findB_first hf
  have : k = i := by
    rcases Nat.lt_trichotomy k i with h | h | h
    · rw [h2 k z h hz] at hq; cases hq
    · exact h
    · rw [hlo i xs[i] h (by simp)] at h1; cases h1
  rw [putL, if_pos hf, hk, this]; rfl
theorem le46 {i n : Nat} (h : i < n) (hb : (n + 1) * 136 ≤ 140737488355328) : (i + 1 + 1) * 136 ≤ 140737488355328 := Nat.le_trans (Nat.mul_le_mul_right 136 (by omega)) hb
set_option maxHeartbeats 4000000 in
theorem refPut137 {α : Type} (enc : α → List PV) (hen : ∀ x, (enc x).length = 14) (o : FuncId) (cmp : α → α → Int) (ho : ∀ a b, Ret Try.prog o [.agg (enc a), .agg (enc b)] (.v (.int .i64 (cmp a b)))) (x : α) (xs : List α) (sp : List (List PV)) (hbig : (xs.length + 1) * 136 ≤ 140737488355328) :
    Ret Try.prog 137 [.sl (xs.map enc) sp, .agg (enc x), .clo o []] (.sl ((putL cmp x xs).map enc) []) := by
  refine RetN.ret (ty := 46) (es := 14) ?_
  refine row137 rfl fun hbd => ?_
  have hxl := hen x
  have hxs : ∀ z ∈ xs.map enc, z.length = 14 := by intro z hz; obtain ⟨y, _, rfl⟩ := List.mem_map.1 hz; exact hen y
  have hlen63 : xs.length ≤ 9223372036854775806 := by omega
  unfold c137
  repeat (first
    | refine r_mv_p rfl ?_ | refine r_nil ?_ | refine r_box rfl rfl rfl ?_ | refine r_mv_nil rfl ?_ | refine run_seq ?_ | refine run_reg ?_ | refine run_block ?_ | refine fin_seq ?_)
  refine run_weak (weak_S ?_ ?_) (run_inv (fun i : Nat => S [(0, .p (.sl (xs.map enc) sp)), (2, .p (.clo o [])), (4, .own 4 0), (7, .nil), (8, .p (.v (.int .i64 (i : Nat))))] [(4, some (.box (enc x) false))])
    (fun i => i ≤ xs.length ∧ ∀ j y, j < i → xs[j]? = some y → eqQ cmp x y = false) (fun i => xs.length - i) ?_ 0 ⟨Nat.zero_le _, fun j y hj => by omega⟩)
  · exact ⟨rfl, rfl, rfl, rfl, rfl, trivial⟩
  · exact ⟨rfl, trivial⟩
  rintro i ⟨hi, hno⟩ ih
  repeat (first
    | refine r_mv_p rfl ?_ | refine r_sem rfl rfl rfl rfl ?_ | refine r_nil ?_ | refine run_seq ?_ | refine run_reg ?_ | refine fin_seq ?_)
  refine run_cond rfl (fun h => ?_) (fun h => ?_)
  · have hlt : i < xs.length := by simpa using h
    have hx : (xs.map enc)[i]? = some (enc xs[i]) := by simp [hlt]
    have hel := hen xs[i]
    have hl : (xs.map enc).length * 136 ≤ 140737488355328 := by rw [List.length_map]; omega
    have hltm : i < (xs.map enc).length := by rw [List.length_map]; exact hlt
    repeat (first
      | refine r_callv rfl (ho xs[i] x) ?_ | refine r_mv_p rfl ?_ | refine r_loadA rfl ?_ | refine r_loadB rfl rfl ?_ | refine r_sem rfl rfl rfl rfl ?_ | refine r_nil ?_
      | refine r_iadA rfl rfl ?_ | refine run_seq ?_ | refine run_regd rfl ?_ | refine run_block ?_ | refine run_skip ?_ | refine fin_seq ?_)
    refine run_cond rfl (fun h2 => ?_) (fun h2 => ?_)
    · rw [put_at hlt (show eqQ cmp x xs[i] = true from h2) hno]
      repeat (first
        | refine r_appNil (fs := []) rfl rfl rfl rfl hxs hl rfl ?_ | refine r_store_rp rfl rfl hx rfl rfl (And.intro hxl (Nat.le_refl 14)) ?_ | refine r_mv_p rfl ?_
        | refine r_loadB rfl rfl ?_ | refine r_nil ?_ | refine r_mv_nil rfl ?_ | refine r_mv_rowA rfl rfl ?_
        | refine r_iad_row rfl rfl (by first | rfl | assumption | omega | (simp; done) | (simp; omega)) rfl (by first | rfl | assumption | omega | (simp; done) | (simp; omega)) ?_
        | refine run_seq ?_ | refine run_reg ?_ | refine run_ret ?_ | refine fin_seq ?_ | refine fin_seq_r ?_ | refine fin_blk_r ?_ | refine fin_loop_r ?_)
      refine fin_row (by rfl) (by simp) (by rfl) ?_
      rw [show splice (enc xs[i]) 0 (enc x) = enc x by simp [splice, hel, hxl], List.map_set]; rfl
    · repeat (first
        | refine r_mv_p rfl ?_ | refine r_addA rfl rfl ?_ | refine r_nil ?_ | refine run_reg ?_ | refine run_skip ?_ | refine fin_seq ?_ | refine fin_blk ?_)
      refine fin_loop (run_weak (weak_S ?_ ?_) (ih (i + 1) ⟨hlt, fun j y hj hy => ?_⟩ (by omega)))
      · exact ⟨rfl, rfl, rfl, rfl, rfl, trivial⟩
      · exact ⟨rfl, trivial⟩
      · rcases Nat.lt_or_ge j i with hj' | hj'
        · exact hno j y hj' hy
        · obtain rfl : j = i := by omega
          obtain ⟨_, rfl⟩ := List.getElem?_eq_some_iff.1 hy
          exact h2
  · have hin : i = xs.length := by simp at h; omega
    clear ih
    have hfalse : findB (eqQ cmp x) xs = false := findB_none.2 fun y hy => by
      obtain ⟨j, hj, rfl⟩ := List.mem_iff_getElem.1 hy
      exact hno j xs[j] (by omega) (by simp)
    clear hno
    obtain ⟨k, hk, hkn, hlo, hhi⟩ := putI_spec (gtQ cmp x) xs
    have hL : putL cmp x xs = xs.take k ++ x :: xs.drop k := by rw [putL, if_neg (by simp [hfalse]), hk]; rfl
    repeat (first
      | refine r_mv_p rfl ?_ | refine r_nil ?_ | refine run_seq ?_ | refine run_reg ?_ | refine run_block ?_ | refine run_exit ?_ | refine fin_seq ?_ | refine fin_seq_e ?_
      | refine fin_blk_e ?_ | refine fin_loop_e ?_)
    refine run_weak (weak_nilRow 7 61 46 14 rfl rfl) (run_weak (weak_S ?_ ?_) (run_inv (fun i : Nat => S [(0, .p (.sl (xs.map enc) sp)), (2, .p (.clo o [])), (4, .own 4 0), (7, .row 61 ((laid x k xs i).map enc).length), (9, .p (.v (.bool (decide (k < i))))), (10, .p (.v (.int .i64 (i : Nat))))] [(61, some (.row 46 14 ((laid x k xs i).map enc) false)), (4, some (.box (enc x) false))])
      (fun i => i ≤ xs.length) (fun i => xs.length - i) ?_ 0 (Nat.zero_le _)))
    · exact ⟨rfl, rfl, rfl, rfl, rfl, rfl, trivial⟩
    · exact ⟨rfl, rfl, trivial⟩
    clear hin h hi i
    intro i hi ih
    repeat (first
      | refine r_mv_p rfl ?_ | refine r_sem rfl rfl rfl rfl ?_ | refine r_nil ?_ | refine run_seq ?_ | refine run_reg ?_ | refine fin_seq ?_)
    refine run_cond rfl (fun h2 => ?_) (fun h2 => ?_)
    · have hlt : i < xs.length := by simpa using h2
      have hx : (xs.map enc)[i]? = some (enc xs[i]) := by simp [hlt]
      have hel := hen xs[i]
      have htake : xs.take (i + 1) = xs.take i ++ [xs[i]] := by simp
      have he : ∀ y : α, ∀ z ∈ [enc y], z.length = 14 := by intro y z hz; simp at hz; subst hz; exact hen y
      have hll := laid_length x k xs i hkn hi
      have hl1 : (((laid x k xs i).map enc).length + [enc xs[i]].length) * 136 ≤ 140737488355328 := by simp only [List.length_map, List.length_cons, List.length_nil]; omega
      rcases Nat.lt_trichotomy k i with hc | hc | hc
      · have hd : decide (k < i) = true := decide_eq_true hc
        have hd' : (!decide (k < i)) = false := by simp [hc]
        have hE : (laid x k xs (i + 1)).map enc = (laid x k xs i).map enc ++ [enc xs[i]] := by
          rw [laid, laid, if_pos hc, if_pos (by omega), htake, List.drop_append_of_le_length (by simp; omega)]; simp
        repeat (first
          | refine r_appRow (fs := [60]) rfl rfl rfl rfl rfl rfl (he _) hl1 (by decide) (Or.inl rfl) ?_ | refine r_mv_p rfl ?_ | refine r_skipA rfl ?_ | refine r_addA rfl rfl ?_
          | refine r_loadA rfl ?_ | refine r_pickF rfl rfl rfl ?_ | refine r_sem rfl rfl rfl rfl ?_ | refine r_nil ?_ | refine r_iadA rfl rfl ?_ | refine r_bsl1 rfl (by assumption) rfl ?_
          | refine r_mv_rowA rfl rfl ?_ | refine run_seq ?_ | refine run_reg ?_ | refine run_regd rfl ?_ | refine run_block ?_ | refine run_skip ?_ | refine fin_seq ?_ | refine fin_blk ?_
          | refine run_condF rfl ?_)
        refine fin_loop (run_weak (weak_S ?_ ?_) (ih (i + 1) hlt (by omega)))
        · exact ⟨rfl, rfl, rfl, by rw [hE, List.length_append]; rfl, tb rfl (hd.trans (decide_eq_true (show k < i + 1 by omega)).symm), rfl, trivial⟩
        · exact ⟨by rw [hE]; rfl, rfl, trivial⟩
      · have hd : decide (k < i) = false := decide_eq_false (by omega)
        have hd' : (!decide (k < i)) = true := by simp; omega
        have hg : decide (0 < cmp xs[i] x) = true := hhi _ (by subst hc; simp)
        have hl0 : (((laid x k xs i).map enc).length + [enc x].length) * 136 ≤ 140737488355328 := by simp only [List.length_map, List.length_cons, List.length_nil]; omega
        have hlen : (laid x k xs i).length = i := by rw [laid, if_neg (by omega)]; simp; omega
        have hl2 : ((((laid x k xs i).map enc) ++ [enc x]).length + [enc xs[i]].length) * 136 ≤ 140737488355328 := by
          clear hl0 hl1 hll
          rw [List.length_append, List.length_map, hlen]
          exact le46 hlt hbig
        have hE : (laid x k xs (i + 1)).map enc = ((laid x k xs i).map enc ++ [enc x]) ++ [enc xs[i]] := by
          have h1 : laid x k xs (i + 1) = xs.take k ++ x :: (xs.take (i + 1)).drop k := if_pos (by omega)
          have h2 : laid x k xs i = xs.take i := if_neg (by omega)
          have h3 : (xs.take i).drop i = [] := by simp
          have h4 : (xs.take i ++ [xs[i]]).drop i = [xs[i]] := by rw [List.drop_append_of_le_length (by simp; omega), h3]; rfl
          rw [h1, h2, htake, hc, h4, List.map_append, List.append_assoc]; rfl
        repeat (first
          | refine r_callv rfl (ho xs[i] x) ?_ | refine r_appRow (fs := [53]) rfl rfl rfl rfl rfl rfl (he _) hl0 (by decide) (Or.inr rfl) ?_
          | refine r_appRow (fs := [60]) rfl rfl List.length_append.symm rfl rfl rfl (he _) hl2 (by decide) (Or.inr rfl) ?_ | refine r_mv_p rfl ?_ | refine r_doA rfl ?_
          | refine r_addA rfl rfl ?_ | refine r_loadA rfl ?_ | refine r_loadB rfl rfl ?_ | refine r_pickT rfl rfl rfl ?_ | refine r_sem rfl rfl rfl rfl ?_ | refine r_nil ?_
          | refine r_iadA rfl rfl ?_ | refine r_bsl1 rfl (by assumption) rfl ?_ | refine r_mv_rowA rfl rfl ?_ | refine run_seq ?_ | refine run_reg ?_ | refine run_regd rfl ?_
          | refine run_block ?_ | refine run_skip ?_ | refine fin_seq ?_ | refine fin_blk ?_ | refine run_condT rfl ?_)
        refine fin_loop (run_weak (weak_S ?_ ?_) (ih (i + 1) hlt (by omega)))
        · exact ⟨rfl, rfl, rfl, by rw [hE]; simp only [List.length_append]; rfl, tb rfl (decide_eq_true (show k < i + 1 by omega)).symm, rfl, trivial⟩
        · exact ⟨by rw [hE]; rfl, rfl, trivial⟩
      · have hd : decide (k < i) = false := decide_eq_false (by omega)
        have hd' : (!decide (k < i)) = true := by simp; omega
        have hg : decide (0 < cmp xs[i] x) = false := hlo i xs[i] hc (by simp)
        have hE : (laid x k xs (i + 1)).map enc = (laid x k xs i).map enc ++ [enc xs[i]] := by
          have h1 : laid x k xs (i + 1) = xs.take (i + 1) := if_neg (by omega)
          have h2 : laid x k xs i = xs.take i := if_neg (by omega)
          rw [h1, h2, htake, List.map_append]; rfl
        repeat (first
          | refine r_callv rfl (ho xs[i] x) ?_ | refine r_appRow (fs := [60]) rfl rfl rfl rfl rfl rfl (he _) hl1 (by decide) (Or.inl rfl) ?_ | refine r_mv_p rfl ?_ | refine r_doA rfl ?_
          | refine r_addA rfl rfl ?_ | refine r_loadA rfl ?_ | refine r_loadB rfl rfl ?_ | refine r_pickT rfl rfl rfl ?_ | refine r_sem rfl rfl rfl rfl ?_ | refine r_nil ?_
          | refine r_iadA rfl rfl ?_ | refine r_bsl1 rfl (by assumption) rfl ?_ | refine r_mv_rowA rfl rfl ?_ | refine run_seq ?_ | refine run_reg ?_ | refine run_regd rfl ?_
          | refine run_block ?_ | refine run_skip ?_ | refine fin_seq ?_ | refine fin_blk ?_ | refine run_condF rfl ?_)
        refine fin_loop (run_weak (weak_S ?_ ?_) (ih (i + 1) hlt (by omega)))
        · exact ⟨rfl, rfl, rfl, by rw [hE, List.length_append]; rfl, tb rfl (hd.trans (decide_eq_false (show ¬ k < i + 1 by omega)).symm), rfl, trivial⟩
        · exact ⟨by rw [hE]; rfl, rfl, trivial⟩
    · have hin : i = xs.length := by simp at h2; omega
      have htake : xs.take i = xs := by rw [hin]; simp
      rcases Nat.lt_or_ge k i with hc | hc
      · have hd : decide (k < i) = true := decide_eq_true hc
        have hd' : (!decide (k < i)) = false := by simp [hc]
        have hE : putL cmp x xs = laid x k xs i := by rw [hL, laid, if_pos hc, htake]
        rw [hE]
        repeat (first
          | refine r_mv_p rfl ?_ | refine r_sem rfl rfl rfl rfl ?_ | refine r_nil ?_ | refine r_mv_rowA rfl rfl ?_ | refine run_seq ?_ | refine run_reg ?_ | refine run_skip ?_
          | refine run_exit ?_ | refine run_ret ?_ | refine fin_seq ?_ | refine fin_seq_e ?_ | refine fin_blk_e ?_ | refine fin_loop_e ?_ | refine run_condF rfl ?_)
        exact fin_row (by rfl) (by rfl) (by rfl) (by rfl)
      · have hd : decide (k < i) = false := decide_eq_false (by omega)
        have hd' : (!decide (k < i)) = true := by simp; omega
        have hki : k = xs.length := by omega
        have hE : (putL cmp x xs).map enc = (laid x k xs i).map enc ++ [enc x] := by
          have h1 : laid x k xs i = xs.take i := if_neg (Nat.not_lt.2 hc)
          rw [hL, h1, htake, hki, List.drop_length, List.take_length, List.map_append]; rfl
        have hl0 : (((laid x k xs i).map enc).length + [enc x].length) * 136 ≤ 140737488355328 := by
          have h1 : laid x k xs i = xs.take i := if_neg (Nat.not_lt.2 hc)
          rw [h1, htake, List.length_map]; exact hbig
        have he : ∀ z ∈ [enc x], z.length = 14 := by intro z hz; simp at hz; subst hz; exact hxl
        rw [hE]
        repeat (first
          | refine r_appRow (fs := [66]) rfl rfl rfl rfl rfl rfl he hl0 (by decide) (Or.inr rfl) ?_ | refine r_mv_p rfl ?_ | refine r_loadB rfl rfl ?_ | refine r_sem rfl rfl rfl rfl ?_
          | refine r_nil ?_ | refine r_bsl1 rfl (by assumption) rfl ?_ | refine r_mv_rowA rfl rfl ?_ | refine run_seq ?_ | refine run_reg ?_ | refine run_exit ?_ | refine run_ret ?_
          | refine fin_seq ?_ | refine fin_seq_e ?_ | refine fin_blk_e ?_ | refine fin_loop_e ?_ | refine run_condT rfl ?_)
        exact fin_row (by rfl) List.length_append.symm (by rfl) (by rfl)
theorem le54 {i n : Nat} (h : i < n) (hb : (n + 1) * 40 ≤ 140737488355328) : (i + 1 + 1) * 40 ≤ 140737488355328 := Nat.le_trans (Nat.mul_le_mul_right 40 (by omega)) hb
set_option maxHeartbeats 4000000 in
theorem refPut146 {α : Type} (enc : α → List PV) (hen : ∀ x, (enc x).length = 3) (o : FuncId) (cmp : α → α → Int) (ho : ∀ a b, Ret Try.prog o [.agg (enc a), .agg (enc b)] (.v (.int .i64 (cmp a b)))) (x : α) (xs : List α) (sp : List (List PV)) (hbig : (xs.length + 1) * 40 ≤ 140737488355328) :
    Ret Try.prog 146 [.sl (xs.map enc) sp, .agg (enc x), .clo o []] (.sl ((putL cmp x xs).map enc) []) := by
  refine RetN.ret (ty := 54) (es := 3) ?_
  refine row146 rfl fun hbd => ?_
  have hxl := hen x
  have hxs : ∀ z ∈ xs.map enc, z.length = 3 := by intro z hz; obtain ⟨y, _, rfl⟩ := List.mem_map.1 hz; exact hen y
  have hlen63 : xs.length ≤ 9223372036854775806 := by omega
  unfold c146
  repeat (first
    | refine r_mv_p rfl ?_ | refine r_nil ?_ | refine r_box rfl rfl rfl ?_ | refine r_mv_nil rfl ?_ | refine run_seq ?_ | refine run_reg ?_ | refine run_block ?_ | refine fin_seq ?_)
  refine run_weak (weak_S ?_ ?_) (run_inv (fun i : Nat => S [(0, .p (.sl (xs.map enc) sp)), (2, .p (.clo o [])), (4, .own 4 0), (7, .nil), (8, .p (.v (.int .i64 (i : Nat))))] [(4, some (.box (enc x) false))])
    (fun i => i ≤ xs.length ∧ ∀ j y, j < i → xs[j]? = some y → eqQ cmp x y = false) (fun i => xs.length - i) ?_ 0 ⟨Nat.zero_le _, fun j y hj => by omega⟩)
  · exact ⟨rfl, rfl, rfl, rfl, rfl, trivial⟩
  · exact ⟨rfl, trivial⟩
  rintro i ⟨hi, hno⟩ ih
  repeat (first
    | refine r_mv_p rfl ?_ | refine r_sem rfl rfl rfl rfl ?_ | refine r_nil ?_ | refine run_seq ?_ | refine run_reg ?_ | refine fin_seq ?_)
  refine run_cond rfl (fun h => ?_) (fun h => ?_)
  · have hlt : i < xs.length := by simpa using h
    have hx : (xs.map enc)[i]? = some (enc xs[i]) := by simp [hlt]
    have hel := hen xs[i]
    have hl : (xs.map enc).length * 40 ≤ 140737488355328 := by rw [List.length_map]; omega
    have hltm : i < (xs.map enc).length := by rw [List.length_map]; exact hlt
    repeat (first
      | refine r_callv rfl (ho xs[i] x) ?_ | refine r_mv_p rfl ?_ | refine r_loadA rfl ?_ | refine r_loadB rfl rfl ?_ | refine r_sem rfl rfl rfl rfl ?_ | refine r_nil ?_
      | refine r_iadA rfl rfl ?_ | refine run_seq ?_ | refine run_regd rfl ?_ | refine run_block ?_ | refine run_skip ?_ | refine fin_seq ?_)
    refine run_cond rfl (fun h2 => ?_) (fun h2 => ?_)
    · rw [put_at hlt (show eqQ cmp x xs[i] = true from h2) hno]
      repeat (first
        | refine r_appNil (fs := []) rfl rfl rfl rfl hxs hl rfl ?_ | refine r_store_rp rfl rfl hx rfl rfl (And.intro hxl (Nat.le_refl 3)) ?_ | refine r_mv_p rfl ?_ | refine r_loadB rfl rfl ?_
        | refine r_nil ?_ | refine r_mv_nil rfl ?_ | refine r_mv_rowA rfl rfl ?_
        | refine r_iad_row rfl rfl (by first | rfl | assumption | omega | (simp; done) | (simp; omega)) rfl (by first | rfl | assumption | omega | (simp; done) | (simp; omega)) ?_
        | refine run_seq ?_ | refine run_reg ?_ | refine run_ret ?_ | refine fin_seq ?_ | refine fin_seq_r ?_ | refine fin_blk_r ?_ | refine fin_loop_r ?_)
      refine fin_row (by rfl) (by simp) (by rfl) ?_
      rw [show splice (enc xs[i]) 0 (enc x) = enc x by simp [splice, hel, hxl], List.map_set]; rfl
    · repeat (first
        | refine r_mv_p rfl ?_ | refine r_addA rfl rfl ?_ | refine r_nil ?_ | refine run_reg ?_ | refine run_skip ?_ | refine fin_seq ?_ | refine fin_blk ?_)
      refine fin_loop (run_weak (weak_S ?_ ?_) (ih (i + 1) ⟨hlt, fun j y hj hy => ?_⟩ (by omega)))
      · exact ⟨rfl, rfl, rfl, rfl, rfl, trivial⟩
      · exact ⟨rfl, trivial⟩
      · rcases Nat.lt_or_ge j i with hj' | hj'
        · exact hno j y hj' hy
        · obtain rfl : j = i := by omega
          obtain ⟨_, rfl⟩ := List.getElem?_eq_some_iff.1 hy
          exact h2
  · have hin : i = xs.length := by simp at h; omega
    clear ih
    have hfalse : findB (eqQ cmp x) xs = false := findB_none.2 fun y hy => by
      obtain ⟨j, hj, rfl⟩ := List.mem_iff_getElem.1 hy
      exact hno j xs[j] (by omega) (by simp)
    clear hno
    obtain ⟨k, hk, hkn, hlo, hhi⟩ := putI_spec (gtQ cmp x) xs
    have hL : putL cmp x xs = xs.take k ++ x :: xs.drop k := by rw [putL, if_neg (by simp [hfalse]), hk]; rfl
    repeat (first
      | refine r_mv_p rfl ?_ | refine r_nil ?_ | refine run_seq ?_ | refine run_reg ?_ | refine run_block ?_ | refine run_exit ?_ | refine fin_seq ?_ | refine fin_seq_e ?_
      | refine fin_blk_e ?_ | refine fin_loop_e ?_)
    refine run_weak (weak_nilRow 7 61 54 3 rfl rfl) (run_weak (weak_S ?_ ?_) (run_inv (fun i : Nat => S [(0, .p (.sl (xs.map enc) sp)), (2, .p (.clo o [])), (4, .own 4 0), (7, .row 61 ((laid x k xs i).map enc).length), (9, .p (.v (.bool (decide (k < i))))), (10, .p (.v (.int .i64 (i : Nat))))] [(61, some (.row 54 3 ((laid x k xs i).map enc) false)), (4, some (.box (enc x) false))])
      (fun i => i ≤ xs.length) (fun i => xs.length - i) ?_ 0 (Nat.zero_le _)))
    · exact ⟨rfl, rfl, rfl, rfl, rfl, rfl, trivial⟩
    · exact ⟨rfl, rfl, trivial⟩
    clear hin h hi i
    intro i hi ih
    repeat (first
      | refine r_mv_p rfl ?_ | refine r_sem rfl rfl rfl rfl ?_ | refine r_nil ?_ | refine run_seq ?_ | refine run_reg ?_ | refine fin_seq ?_)
    refine run_cond rfl (fun h2 => ?_) (fun h2 => ?_)
    · have hlt : i < xs.length := by simpa using h2
      have hx : (xs.map enc)[i]? = some (enc xs[i]) := by simp [hlt]
      have hel := hen xs[i]
      have htake : xs.take (i + 1) = xs.take i ++ [xs[i]] := by simp
      have he : ∀ y : α, ∀ z ∈ [enc y], z.length = 3 := by intro y z hz; simp at hz; subst hz; exact hen y
      have hll := laid_length x k xs i hkn hi
      have hl1 : (((laid x k xs i).map enc).length + [enc xs[i]].length) * 40 ≤ 140737488355328 := by simp only [List.length_map, List.length_cons, List.length_nil]; omega
      rcases Nat.lt_trichotomy k i with hc | hc | hc
      · have hd : decide (k < i) = true := decide_eq_true hc
        have hd' : (!decide (k < i)) = false := by simp [hc]
        have hE : (laid x k xs (i + 1)).map enc = (laid x k xs i).map enc ++ [enc xs[i]] := by
          rw [laid, laid, if_pos hc, if_pos (by omega), htake, List.drop_append_of_le_length (by simp; omega)]; simp
        repeat (first
          | refine r_appRow (fs := [60]) rfl rfl rfl rfl rfl rfl (he _) hl1 (by decide) (Or.inl rfl) ?_ | refine r_mv_p rfl ?_ | refine r_skipA rfl ?_ | refine r_addA rfl rfl ?_
          | refine r_loadA rfl ?_ | refine r_pickF rfl rfl rfl ?_ | refine r_sem rfl rfl rfl rfl ?_ | refine r_nil ?_ | refine r_iadA rfl rfl ?_ | refine r_bsl1 rfl (by assumption) rfl ?_
          | refine r_mv_rowA rfl rfl ?_ | refine run_seq ?_ | refine run_reg ?_ | refine run_regd rfl ?_ | refine run_block ?_ | refine run_skip ?_ | refine fin_seq ?_ | refine fin_blk ?_
          | refine run_condF rfl ?_)
        refine fin_loop (run_weak (weak_S ?_ ?_) (ih (i + 1) hlt (by omega)))
        · exact ⟨rfl, rfl, rfl, by rw [hE, List.length_append]; rfl, tb rfl (hd.trans (decide_eq_true (show k < i + 1 by omega)).symm), rfl, trivial⟩
        · exact ⟨by rw [hE]; rfl, rfl, trivial⟩
      · have hd : decide (k < i) = false := decide_eq_false (by omega)
        have hd' : (!decide (k < i)) = true := by simp; omega
        have hg : decide (0 < cmp xs[i] x) = true := hhi _ (by subst hc; simp)
        have hl0 : (((laid x k xs i).map enc).length + [enc x].length) * 40 ≤ 140737488355328 := by simp only [List.length_map, List.length_cons, List.length_nil]; omega
        have hlen : (laid x k xs i).length = i := by rw [laid, if_neg (by omega)]; simp; omega
        have hl2 : ((((laid x k xs i).map enc) ++ [enc x]).length + [enc xs[i]].length) * 40 ≤ 140737488355328 := by
          clear hl0 hl1 hll
          rw [List.length_append, List.length_map, hlen]
          exact le54 hlt hbig
        have hE : (laid x k xs (i + 1)).map enc = ((laid x k xs i).map enc ++ [enc x]) ++ [enc xs[i]] := by
          have h1 : laid x k xs (i + 1) = xs.take k ++ x :: (xs.take (i + 1)).drop k := if_pos (by omega)
          have h2 : laid x k xs i = xs.take i := if_neg (by omega)
          have h3 : (xs.take i).drop i = [] := by simp
          have h4 : (xs.take i ++ [xs[i]]).drop i = [xs[i]] := by rw [List.drop_append_of_le_length (by simp; omega), h3]; rfl
          rw [h1, h2, htake, hc, h4, List.map_append, List.append_assoc]; rfl
        repeat (first
          | refine r_callv rfl (ho xs[i] x) ?_ | refine r_appRow (fs := [53]) rfl rfl rfl rfl rfl rfl (he _) hl0 (by decide) (Or.inr rfl) ?_
          | refine r_appRow (fs := [60]) rfl rfl List.length_append.symm rfl rfl rfl (he _) hl2 (by decide) (Or.inr rfl) ?_ | refine r_mv_p rfl ?_ | refine r_doA rfl ?_
          | refine r_addA rfl rfl ?_ | refine r_loadA rfl ?_ | refine r_loadB rfl rfl ?_ | refine r_pickT rfl rfl rfl ?_ | refine r_sem rfl rfl rfl rfl ?_ | refine r_nil ?_
          | refine r_iadA rfl rfl ?_ | refine r_bsl1 rfl (by assumption) rfl ?_ | refine r_mv_rowA rfl rfl ?_ | refine run_seq ?_ | refine run_reg ?_ | refine run_regd rfl ?_
          | refine run_block ?_ | refine run_skip ?_ | refine fin_seq ?_ | refine fin_blk ?_ | refine run_condT rfl ?_)
        refine fin_loop (run_weak (weak_S ?_ ?_) (ih (i + 1) hlt (by omega)))
        · exact ⟨rfl, rfl, rfl, by rw [hE]; simp only [List.length_append]; rfl, tb rfl (decide_eq_true (show k < i + 1 by omega)).symm, rfl, trivial⟩
        · exact ⟨by rw [hE]; rfl, rfl, trivial⟩
      · have hd : decide (k < i) = false := decide_eq_false (by omega)
        have hd' : (!decide (k < i)) = true := by simp; omega
        have hg : decide (0 < cmp xs[i] x) = false := hlo i xs[i] hc (by simp)
        have hE : (laid x k xs (i + 1)).map enc = (laid x k xs i).map enc ++ [enc xs[i]] := by
          have h1 : laid x k xs (i + 1) = xs.take (i + 1) := if_neg (by omega)
          have h2 : laid x k xs i = xs.take i := if_neg (by omega)
          rw [h1, h2, htake, List.map_append]; rfl
        repeat (first
          | refine r_callv rfl (ho xs[i] x) ?_ | refine r_appRow (fs := [60]) rfl rfl rfl rfl rfl rfl (he _) hl1 (by decide) (Or.inl rfl) ?_ | refine r_mv_p rfl ?_ | refine r_doA rfl ?_
          | refine r_addA rfl rfl ?_ | refine r_loadA rfl ?_ | refine r_loadB rfl rfl ?_ | refine r_pickT rfl rfl rfl ?_ | refine r_sem rfl rfl rfl rfl ?_ | refine r_nil ?_
          | refine r_iadA rfl rfl ?_ | refine r_bsl1 rfl (by assumption) rfl ?_ | refine r_mv_rowA rfl rfl ?_ | refine run_seq ?_ | refine run_reg ?_ | refine run_regd rfl ?_
          | refine run_block ?_ | refine run_skip ?_ | refine fin_seq ?_ | refine fin_blk ?_ | refine run_condF rfl ?_)
        refine fin_loop (run_weak (weak_S ?_ ?_) (ih (i + 1) hlt (by omega)))
        · exact ⟨rfl, rfl, rfl, by rw [hE, List.length_append]; rfl, tb rfl (hd.trans (decide_eq_false (show ¬ k < i + 1 by omega)).symm), rfl, trivial⟩
        · exact ⟨by rw [hE]; rfl, rfl, trivial⟩
    · have hin : i = xs.length := by simp at h2; omega
      have htake : xs.take i = xs := by rw [hin]; simp
      rcases Nat.lt_or_ge k i with hc | hc
      · have hd : decide (k < i) = true := decide_eq_true hc
        have hd' : (!decide (k < i)) = false := by simp [hc]
        have hE : putL cmp x xs = laid x k xs i := by rw [hL, laid, if_pos hc, htake]
        rw [hE]
        repeat (first
          | refine r_mv_p rfl ?_ | refine r_sem rfl rfl rfl rfl ?_ | refine r_nil ?_ | refine r_mv_rowA rfl rfl ?_ | refine run_seq ?_ | refine run_reg ?_ | refine run_skip ?_
          | refine run_exit ?_ | refine run_ret ?_ | refine fin_seq ?_ | refine fin_seq_e ?_ | refine fin_blk_e ?_ | refine fin_loop_e ?_ | refine run_condF rfl ?_)
        exact fin_row (by rfl) (by rfl) (by rfl) (by rfl)
      · have hd : decide (k < i) = false := decide_eq_false (by omega)
        have hd' : (!decide (k < i)) = true := by simp; omega
        have hki : k = xs.length := by omega
        have hE : (putL cmp x xs).map enc = (laid x k xs i).map enc ++ [enc x] := by
          have h1 : laid x k xs i = xs.take i := if_neg (Nat.not_lt.2 hc)
          rw [hL, h1, htake, hki, List.drop_length, List.take_length, List.map_append]; rfl
        have hl0 : (((laid x k xs i).map enc).length + [enc x].length) * 40 ≤ 140737488355328 := by
          have h1 : laid x k xs i = xs.take i := if_neg (Nat.not_lt.2 hc)
          rw [h1, htake, List.length_map]; exact hbig
        have he : ∀ z ∈ [enc x], z.length = 3 := by intro z hz; simp at hz; subst hz; exact hxl
        rw [hE]
        repeat (first
          | refine r_appRow (fs := [66]) rfl rfl rfl rfl rfl rfl he hl0 (by decide) (Or.inr rfl) ?_ | refine r_mv_p rfl ?_ | refine r_loadB rfl rfl ?_ | refine r_sem rfl rfl rfl rfl ?_
          | refine r_nil ?_ | refine r_bsl1 rfl (by assumption) rfl ?_ | refine r_mv_rowA rfl rfl ?_ | refine run_seq ?_ | refine run_reg ?_ | refine run_exit ?_ | refine run_ret ?_
          | refine fin_seq ?_ | refine fin_seq_e ?_ | refine fin_blk_e ?_ | refine fin_loop_e ?_ | refine run_condT rfl ?_)
        exact fin_row (by rfl) List.length_append.symm (by rfl) (by rfl)
theorem le82 {i n : Nat} (h : i < n) (hb : (n + 1) * 80 ≤ 140737488355328) : (i + 1 + 1) * 80 ≤ 140737488355328 := Nat.le_trans (Nat.mul_le_mul_right 80 (by omega)) hb
set_option maxHeartbeats 4000000 in
theorem refPut154 {α : Type} (enc : α → List PV) (hen : ∀ x, (enc x).length = 8) (o : FuncId) (cmp : α → α → Int) (ho : ∀ a b, Ret Try.prog o [.agg (enc a), .agg (enc b)] (.v (.int .i64 (cmp a b)))) (x : α) (xs : List α) (sp : List (List PV)) (hbig : (xs.length + 1) * 80 ≤ 140737488355328) :
    Ret Try.prog 154 [.sl (xs.map enc) sp, .agg (enc x), .clo o []] (.sl ((putL cmp x xs).map enc) []) := by
  refine RetN.ret (ty := 82) (es := 8) ?_
  refine row154 rfl fun hbd => ?_
  have hxl := hen x
  have hxs : ∀ z ∈ xs.map enc, z.length = 8 := by intro z hz; obtain ⟨y, _, rfl⟩ := List.mem_map.1 hz; exact hen y
  have hlen63 : xs.length ≤ 9223372036854775806 := by omega
  unfold c154
  repeat (first
    | refine r_mv_p rfl ?_ | refine r_nil ?_ | refine r_box rfl rfl rfl ?_ | refine r_mv_nil rfl ?_ | refine run_seq ?_ | refine run_reg ?_ | refine run_block ?_ | refine fin_seq ?_)
  refine run_weak (weak_S ?_ ?_) (run_inv (fun i : Nat => S [(0, .p (.sl (xs.map enc) sp)), (2, .p (.clo o [])), (4, .own 4 0), (7, .nil), (8, .p (.v (.int .i64 (i : Nat))))] [(4, some (.box (enc x) false))])
    (fun i => i ≤ xs.length ∧ ∀ j y, j < i → xs[j]? = some y → eqQ cmp x y = false) (fun i => xs.length - i) ?_ 0 ⟨Nat.zero_le _, fun j y hj => by omega⟩)
  · exact ⟨rfl, rfl, rfl, rfl, rfl, trivial⟩
  · exact ⟨rfl, trivial⟩
  rintro i ⟨hi, hno⟩ ih
  repeat (first
    | refine r_mv_p rfl ?_ | refine r_sem rfl rfl rfl rfl ?_ | refine r_nil ?_ | refine run_seq ?_ | refine run_reg ?_ | refine fin_seq ?_)
  refine run_cond rfl (fun h => ?_) (fun h => ?_)
  · have hlt : i < xs.length := by simpa using h
    have hx : (xs.map enc)[i]? = some (enc xs[i]) := by simp [hlt]
    have hel := hen xs[i]
    have hl : (xs.map enc).length * 80 ≤ 140737488355328 := by rw [List.length_map]; omega
    have hltm : i < (xs.map enc).length := by rw [List.length_map]; exact hlt
    repeat (first
      | refine r_callv rfl (ho xs[i] x) ?_ | refine r_mv_p rfl ?_ | refine r_loadA rfl ?_ | refine r_loadB rfl rfl ?_ | refine r_sem rfl rfl rfl rfl ?_ | refine r_nil ?_
      | refine r_iadA rfl rfl ?_ | refine run_seq ?_ | refine run_regd rfl ?_ | refine run_block ?_ | refine run_skip ?_ | refine fin_seq ?_)
    refine run_cond rfl (fun h2 => ?_) (fun h2 => ?_)
    · rw [put_at hlt (show eqQ cmp x xs[i] = true from h2) hno]
      repeat (first
        | refine r_appNil (fs := []) rfl rfl rfl rfl hxs hl rfl ?_ | refine r_store_rp rfl rfl hx rfl rfl (And.intro hxl (Nat.le_refl 8)) ?_ | refine r_mv_p rfl ?_ | refine r_loadB rfl rfl ?_
        | refine r_nil ?_ | refine r_mv_nil rfl ?_ | refine r_mv_rowA rfl rfl ?_
        | refine r_iad_row rfl rfl (by first | rfl | assumption | omega | (simp; done) | (simp; omega)) rfl (by first | rfl | assumption | omega | (simp; done) | (simp; omega)) ?_
        | refine run_seq ?_ | refine run_reg ?_ | refine run_ret ?_ | refine fin_seq ?_ | refine fin_seq_r ?_ | refine fin_blk_r ?_ | refine fin_loop_r ?_)
      refine fin_row (by rfl) (by simp) (by rfl) ?_
      rw [show splice (enc xs[i]) 0 (enc x) = enc x by simp [splice, hel, hxl], List.map_set]; rfl
    · repeat (first
        | refine r_mv_p rfl ?_ | refine r_addA rfl rfl ?_ | refine r_nil ?_ | refine run_reg ?_ | refine run_skip ?_ | refine fin_seq ?_ | refine fin_blk ?_)
      refine fin_loop (run_weak (weak_S ?_ ?_) (ih (i + 1) ⟨hlt, fun j y hj hy => ?_⟩ (by omega)))
      · exact ⟨rfl, rfl, rfl, rfl, rfl, trivial⟩
      · exact ⟨rfl, trivial⟩
      · rcases Nat.lt_or_ge j i with hj' | hj'
        · exact hno j y hj' hy
        · obtain rfl : j = i := by omega
          obtain ⟨_, rfl⟩ := List.getElem?_eq_some_iff.1 hy
          exact h2
  · have hin : i = xs.length := by simp at h; omega
    clear ih
    have hfalse : findB (eqQ cmp x) xs = false := findB_none.2 fun y hy => by
      obtain ⟨j, hj, rfl⟩ := List.mem_iff_getElem.1 hy
      exact hno j xs[j] (by omega) (by simp)
    clear hno
    obtain ⟨k, hk, hkn, hlo, hhi⟩ := putI_spec (gtQ cmp x) xs
    have hL : putL cmp x xs = xs.take k ++ x :: xs.drop k := by rw [putL, if_neg (by simp [hfalse]), hk]; rfl
    repeat (first
      | refine r_mv_p rfl ?_ | refine r_nil ?_ | refine run_seq ?_ | refine run_reg ?_ | refine run_block ?_ | refine run_exit ?_ | refine fin_seq ?_ | refine fin_seq_e ?_
      | refine fin_blk_e ?_ | refine fin_loop_e ?_)
    refine run_weak (weak_nilRow 7 61 82 8 rfl rfl) (run_weak (weak_S ?_ ?_) (run_inv (fun i : Nat => S [(0, .p (.sl (xs.map enc) sp)), (2, .p (.clo o [])), (4, .own 4 0), (7, .row 61 ((laid x k xs i).map enc).length), (9, .p (.v (.bool (decide (k < i))))), (10, .p (.v (.int .i64 (i : Nat))))] [(61, some (.row 82 8 ((laid x k xs i).map enc) false)), (4, some (.box (enc x) false))])
      (fun i => i ≤ xs.length) (fun i => xs.length - i) ?_ 0 (Nat.zero_le _)))
    · exact ⟨rfl, rfl, rfl, rfl, rfl, rfl, trivial⟩
    · exact ⟨rfl, rfl, trivial⟩
    clear hin h hi i
    intro i hi ih
    repeat (first
      | refine r_mv_p rfl ?_ | refine r_sem rfl rfl rfl rfl ?_ | refine r_nil ?_ | refine run_seq ?_ | refine run_reg ?_ | refine fin_seq ?_)
    refine run_cond rfl (fun h2 => ?_) (fun h2 => ?_)
    · have hlt : i < xs.length := by simpa using h2
      have hx : (xs.map enc)[i]? = some (enc xs[i]) := by simp [hlt]
      have hel := hen xs[i]
      have htake : xs.take (i + 1) = xs.take i ++ [xs[i]] := by simp
      have he : ∀ y : α, ∀ z ∈ [enc y], z.length = 8 := by intro y z hz; simp at hz; subst hz; exact hen y
      have hll := laid_length x k xs i hkn hi
      have hl1 : (((laid x k xs i).map enc).length + [enc xs[i]].length) * 80 ≤ 140737488355328 := by simp only [List.length_map, List.length_cons, List.length_nil]; omega
      rcases Nat.lt_trichotomy k i with hc | hc | hc
      · have hd : decide (k < i) = true := decide_eq_true hc
        have hd' : (!decide (k < i)) = false := by simp [hc]
        have hE : (laid x k xs (i + 1)).map enc = (laid x k xs i).map enc ++ [enc xs[i]] := by
          rw [laid, laid, if_pos hc, if_pos (by omega), htake, List.drop_append_of_le_length (by simp; omega)]; simp
        repeat (first
          | refine r_appRow (fs := [60]) rfl rfl rfl rfl rfl rfl (he _) hl1 (by decide) (Or.inl rfl) ?_ | refine r_mv_p rfl ?_ | refine r_skipA rfl ?_ | refine r_addA rfl rfl ?_
          | refine r_loadA rfl ?_ | refine r_pickF rfl rfl rfl ?_ | refine r_sem rfl rfl rfl rfl ?_ | refine r_nil ?_ | refine r_iadA rfl rfl ?_ | refine r_bsl1 rfl (by assumption) rfl ?_
          | refine r_mv_rowA rfl rfl ?_ | refine run_seq ?_ | refine run_reg ?_ | refine run_regd rfl ?_ | refine run_block ?_ | refine run_skip ?_ | refine fin_seq ?_ | refine fin_blk ?_
          | refine run_condF rfl ?_)
        refine fin_loop (run_weak (weak_S ?_ ?_) (ih (i + 1) hlt (by omega)))
        · exact ⟨rfl, rfl, rfl, by rw [hE, List.length_append]; rfl, tb rfl (hd.trans (decide_eq_true (show k < i + 1 by omega)).symm), rfl, trivial⟩
        · exact ⟨by rw [hE]; rfl, rfl, trivial⟩
      · have hd : decide (k < i) = false := decide_eq_false (by omega)
        have hd' : (!decide (k < i)) = true := by simp; omega
        have hg : decide (0 < cmp xs[i] x) = true := hhi _ (by subst hc; simp)
        have hl0 : (((laid x k xs i).map enc).length + [enc x].length) * 80 ≤ 140737488355328 := by simp only [List.length_map, List.length_cons, List.length_nil]; omega
        have hlen : (laid x k xs i).length = i := by rw [laid, if_neg (by omega)]; simp; omega
        have hl2 : ((((laid x k xs i).map enc) ++ [enc x]).length + [enc xs[i]].length) * 80 ≤ 140737488355328 := by
          clear hl0 hl1 hll
          rw [List.length_append, List.length_map, hlen]
          exact le82 hlt hbig
        have hE : (laid x k xs (i + 1)).map enc = ((laid x k xs i).map enc ++ [enc x]) ++ [enc xs[i]] := by
          have h1 : laid x k xs (i + 1) = xs.take k ++ x :: (xs.take (i + 1)).drop k := if_pos (by omega)
          have h2 : laid x k xs i = xs.take i := if_neg (by omega)
          have h3 : (xs.take i).drop i = [] := by simp
          have h4 : (xs.take i ++ [xs[i]]).drop i = [xs[i]] := by rw [List.drop_append_of_le_length (by simp; omega), h3]; rfl
          rw [h1, h2, htake, hc, h4, List.map_append, List.append_assoc]; rfl
        repeat (first
          | refine r_callv rfl (ho xs[i] x) ?_ | refine r_appRow (fs := [53]) rfl rfl rfl rfl rfl rfl (he _) hl0 (by decide) (Or.inr rfl) ?_
          | refine r_appRow (fs := [60]) rfl rfl List.length_append.symm rfl rfl rfl (he _) hl2 (by decide) (Or.inr rfl) ?_ | refine r_mv_p rfl ?_ | refine r_doA rfl ?_
          | refine r_addA rfl rfl ?_ | refine r_loadA rfl ?_ | refine r_loadB rfl rfl ?_ | refine r_pickT rfl rfl rfl ?_ | refine r_sem rfl rfl rfl rfl ?_ | refine r_nil ?_
          | refine r_iadA rfl rfl ?_ | refine r_bsl1 rfl (by assumption) rfl ?_ | refine r_mv_rowA rfl rfl ?_ | refine run_seq ?_ | refine run_reg ?_ | refine run_regd rfl ?_
          | refine run_block ?_ | refine run_skip ?_ | refine fin_seq ?_ | refine fin_blk ?_ | refine run_condT rfl ?_)
        refine fin_loop (run_weak (weak_S ?_ ?_) (ih (i + 1) hlt (by omega)))
        · exact ⟨rfl, rfl, rfl, by rw [hE]; simp only [List.length_append]; rfl, tb rfl (decide_eq_true (show k < i + 1 by omega)).symm, rfl, trivial⟩
        · exact ⟨by rw [hE]; rfl, rfl, trivial⟩
      · have hd : decide (k < i) = false := decide_eq_false (by omega)
        have hd' : (!decide (k < i)) = true := by simp; omega
        have hg : decide (0 < cmp xs[i] x) = false := hlo i xs[i] hc (by simp)
        have hE : (laid x k xs (i + 1)).map enc = (laid x k xs i).map enc ++ [enc xs[i]] := by
          have h1 : laid x k xs (i + 1) = xs.take (i + 1) := if_neg (by omega)
          have h2 : laid x k xs i = xs.take i := if_neg (by omega)
          rw [h1, h2, htake, List.map_append]; rfl
        repeat (first
          | refine r_callv rfl (ho xs[i] x) ?_ | refine r_appRow (fs := [60]) rfl rfl rfl rfl rfl rfl (he _) hl1 (by decide) (Or.inl rfl) ?_ | refine r_mv_p rfl ?_ | refine r_doA rfl ?_
          | refine r_addA rfl rfl ?_ | refine r_loadA rfl ?_ | refine r_loadB rfl rfl ?_ | refine r_pickT rfl rfl rfl ?_ | refine r_sem rfl rfl rfl rfl ?_ | refine r_nil ?_
          | refine r_iadA rfl rfl ?_ | refine r_bsl1 rfl (by assumption) rfl ?_ | refine r_mv_rowA rfl rfl ?_ | refine run_seq ?_ | refine run_reg ?_ | refine run_regd rfl ?_
          | refine run_block ?_ | refine run_skip ?_ | refine fin_seq ?_ | refine fin_blk ?_ | refine run_condF rfl ?_)
        refine fin_loop (run_weak (weak_S ?_ ?_) (ih (i + 1) hlt (by omega)))
        · exact ⟨rfl, rfl, rfl, by rw [hE, List.length_append]; rfl, tb rfl (hd.trans (decide_eq_false (show ¬ k < i + 1 by omega)).symm), rfl, trivial⟩
        · exact ⟨by rw [hE]; rfl, rfl, trivial⟩
    · have hin : i = xs.length := by simp at h2; omega
      have htake : xs.take i = xs := by rw [hin]; simp
      rcases Nat.lt_or_ge k i with hc | hc
      · have hd : decide (k < i) = true := decide_eq_true hc
        have hd' : (!decide (k < i)) = false := by simp [hc]
        have hE : putL cmp x xs = laid x k xs i := by rw [hL, laid, if_pos hc, htake]
        rw [hE]
        repeat (first
          | refine r_mv_p rfl ?_ | refine r_sem rfl rfl rfl rfl ?_ | refine r_nil ?_ | refine r_mv_rowA rfl rfl ?_ | refine run_seq ?_ | refine run_reg ?_ | refine run_skip ?_
          | refine run_exit ?_ | refine run_ret ?_ | refine fin_seq ?_ | refine fin_seq_e ?_ | refine fin_blk_e ?_ | refine fin_loop_e ?_ | refine run_condF rfl ?_)
        exact fin_row (by rfl) (by rfl) (by rfl) (by rfl)
      · have hd : decide (k < i) = false := decide_eq_false (by omega)
        have hd' : (!decide (k < i)) = true := by simp; omega
        have hki : k = xs.length := by omega
        have hE : (putL cmp x xs).map enc = (laid x k xs i).map enc ++ [enc x] := by
          have h1 : laid x k xs i = xs.take i := if_neg (Nat.not_lt.2 hc)
          rw [hL, h1, htake, hki, List.drop_length, List.take_length, List.map_append]; rfl
        have hl0 : (((laid x k xs i).map enc).length + [enc x].length) * 80 ≤ 140737488355328 := by
          have h1 : laid x k xs i = xs.take i := if_neg (Nat.not_lt.2 hc)
          rw [h1, htake, List.length_map]; exact hbig
        have he : ∀ z ∈ [enc x], z.length = 8 := by intro z hz; simp at hz; subst hz; exact hxl
        rw [hE]
        repeat (first
          | refine r_appRow (fs := [66]) rfl rfl rfl rfl rfl rfl he hl0 (by decide) (Or.inr rfl) ?_ | refine r_mv_p rfl ?_ | refine r_loadB rfl rfl ?_ | refine r_sem rfl rfl rfl rfl ?_
          | refine r_nil ?_ | refine r_bsl1 rfl (by assumption) rfl ?_ | refine r_mv_rowA rfl rfl ?_ | refine run_seq ?_ | refine run_reg ?_ | refine run_exit ?_ | refine run_ret ?_
          | refine fin_seq ?_ | refine fin_seq_e ?_ | refine fin_blk_e ?_ | refine fin_loop_e ?_ | refine run_condT rfl ?_)
        exact fin_row (by rfl) List.length_append.symm (by rfl) (by rfl)
theorem le84 {i n : Nat} (h : i < n) (hb : (n + 1) * 32 ≤ 140737488355328) : (i + 1 + 1) * 32 ≤ 140737488355328 := Nat.le_trans (Nat.mul_le_mul_right 32 (by omega)) hb
set_option maxHeartbeats 4000000 in
theorem refPut162 {α : Type} (enc : α → List PV) (hen : ∀ x, (enc x).length = 2) (o : FuncId) (cmp : α → α → Int) (ho : ∀ a b, Ret Try.prog o [.agg (enc a), .agg (enc b)] (.v (.int .i64 (cmp a b)))) (x : α) (xs : List α) (sp : List (List PV)) (hbig : (xs.length + 1) * 32 ≤ 140737488355328) :
    Ret Try.prog 162 [.sl (xs.map enc) sp, .agg (enc x), .clo o []] (.sl ((putL cmp x xs).map enc) []) := by
  refine RetN.ret (ty := 84) (es := 2) ?_
  refine row162 rfl fun hbd => ?_
  have hxl := hen x
  have hxs : ∀ z ∈ xs.map enc, z.length = 2 := by intro z hz; obtain ⟨y, _, rfl⟩ := List.mem_map.1 hz; exact hen y
  have hlen63 : xs.length ≤ 9223372036854775806 := by omega
  unfold c162
  repeat (first
    | refine r_mv_p rfl ?_ | refine r_nil ?_ | refine r_box rfl rfl rfl ?_ | refine r_mv_nil rfl ?_ | refine run_seq ?_ | refine run_reg ?_ | refine run_block ?_ | refine fin_seq ?_)
  refine run_weak (weak_S ?_ ?_) (run_inv (fun i : Nat => S [(0, .p (.sl (xs.map enc) sp)), (2, .p (.clo o [])), (4, .own 4 0), (7, .nil), (8, .p (.v (.int .i64 (i : Nat))))] [(4, some (.box (enc x) false))])
    (fun i => i ≤ xs.length ∧ ∀ j y, j < i → xs[j]? = some y → eqQ cmp x y = false) (fun i => xs.length - i) ?_ 0 ⟨Nat.zero_le _, fun j y hj => by omega⟩)
  · exact ⟨rfl, rfl, rfl, rfl, rfl, trivial⟩
  · exact ⟨rfl, trivial⟩
  rintro i ⟨hi, hno⟩ ih
  repeat (first
    | refine r_mv_p rfl ?_ | refine r_sem rfl rfl rfl rfl ?_ | refine r_nil ?_ | refine run_seq ?_ | refine run_reg ?_ | refine fin_seq ?_)
  refine run_cond rfl (fun h => ?_) (fun h => ?_)
  · have hlt : i < xs.length := by simpa using h
    have hx : (xs.map enc)[i]? = some (enc xs[i]) := by simp [hlt]
    have hel := hen xs[i]
    have hl : (xs.map enc).length * 32 ≤ 140737488355328 := by rw [List.length_map]; omega
    have hltm : i < (xs.map enc).length := by rw [List.length_map]; exact hlt
    repeat (first
      | refine r_callv rfl (ho xs[i] x) ?_ | refine r_mv_p rfl ?_ | refine r_loadA rfl ?_ | refine r_loadB rfl rfl ?_ | refine r_sem rfl rfl rfl rfl ?_ | refine r_nil ?_
      | refine r_iadA rfl rfl ?_ | refine run_seq ?_ | refine run_regd rfl ?_ | refine run_block ?_ | refine run_skip ?_ | refine fin_seq ?_)
    refine run_cond rfl (fun h2 => ?_) (fun h2 => ?_)
    · rw [put_at hlt (show eqQ cmp x xs[i] = true from h2) hno]
      repeat (first
        | refine r_appNil (fs := []) rfl rfl rfl rfl hxs hl rfl ?_ | refine r_store_rp rfl rfl hx rfl rfl (And.intro hxl (Nat.le_refl 2)) ?_ | refine r_mv_p rfl ?_ | refine r_loadB rfl rfl ?_
        | refine r_nil ?_ | refine r_mv_nil rfl ?_ | refine r_mv_rowA rfl rfl ?_
        | refine r_iad_row rfl rfl (by first | rfl | assumption | omega | (simp; done) | (simp; omega)) rfl (by first | rfl | assumption | omega | (simp; done) | (simp; omega)) ?_
        | refine run_seq ?_ | refine run_reg ?_ | refine run_ret ?_ | refine fin_seq ?_ | refine fin_seq_r ?_ | refine fin_blk_r ?_ | refine fin_loop_r ?_)
      refine fin_row (by rfl) (by simp) (by rfl) ?_
      rw [show splice (enc xs[i]) 0 (enc x) = enc x by simp [splice, hel, hxl], List.map_set]; rfl
    · repeat (first
        | refine r_mv_p rfl ?_ | refine r_addA rfl rfl ?_ | refine r_nil ?_ | refine run_reg ?_ | refine run_skip ?_ | refine fin_seq ?_ | refine fin_blk ?_)
      refine fin_loop (run_weak (weak_S ?_ ?_) (ih (i + 1) ⟨hlt, fun j y hj hy => ?_⟩ (by omega)))
      · exact ⟨rfl, rfl, rfl, rfl, rfl, trivial⟩
      · exact ⟨rfl, trivial⟩
      · rcases Nat.lt_or_ge j i with hj' | hj'
        · exact hno j y hj' hy
        · obtain rfl : j = i := by omega
          obtain ⟨_, rfl⟩ := List.getElem?_eq_some_iff.1 hy
          exact h2
  · have hin : i = xs.length := by simp at h; omega
    clear ih
    have hfalse : findB (eqQ cmp x) xs = false := findB_none.2 fun y hy => by
      obtain ⟨j, hj, rfl⟩ := List.mem_iff_getElem.1 hy
      exact hno j xs[j] (by omega) (by simp)
    clear hno
    obtain ⟨k, hk, hkn, hlo, hhi⟩ := putI_spec (gtQ cmp x) xs
    have hL : putL cmp x xs = xs.take k ++ x :: xs.drop k := by rw [putL, if_neg (by simp [hfalse]), hk]; rfl
    repeat (first
      | refine r_mv_p rfl ?_ | refine r_nil ?_ | refine run_seq ?_ | refine run_reg ?_ | refine run_block ?_ | refine run_exit ?_ | refine fin_seq ?_ | refine fin_seq_e ?_
      | refine fin_blk_e ?_ | refine fin_loop_e ?_)
    refine run_weak (weak_nilRow 7 61 84 2 rfl rfl) (run_weak (weak_S ?_ ?_) (run_inv (fun i : Nat => S [(0, .p (.sl (xs.map enc) sp)), (2, .p (.clo o [])), (4, .own 4 0), (7, .row 61 ((laid x k xs i).map enc).length), (9, .p (.v (.bool (decide (k < i))))), (10, .p (.v (.int .i64 (i : Nat))))] [(61, some (.row 84 2 ((laid x k xs i).map enc) false)), (4, some (.box (enc x) false))])
      (fun i => i ≤ xs.length) (fun i => xs.length - i) ?_ 0 (Nat.zero_le _)))
    · exact ⟨rfl, rfl, rfl, rfl, rfl, rfl, trivial⟩
    · exact ⟨rfl, rfl, trivial⟩
    clear hin h hi i
    intro i hi ih
    repeat (first
      | refine r_mv_p rfl ?_ | refine r_sem rfl rfl rfl rfl ?_ | refine r_nil ?_ | refine run_seq ?_ | refine run_reg ?_ | refine fin_seq ?_)
    refine run_cond rfl (fun h2 => ?_) (fun h2 => ?_)
    · have hlt : i < xs.length := by simpa using h2
      have hx : (xs.map enc)[i]? = some (enc xs[i]) := by simp [hlt]
      have hel := hen xs[i]
      have htake : xs.take (i + 1) = xs.take i ++ [xs[i]] := by simp
      have he : ∀ y : α, ∀ z ∈ [enc y], z.length = 2 := by intro y z hz; simp at hz; subst hz; exact hen y
      have hll := laid_length x k xs i hkn hi
      have hl1 : (((laid x k xs i).map enc).length + [enc xs[i]].length) * 32 ≤ 140737488355328 := by simp only [List.length_map, List.length_cons, List.length_nil]; omega
      rcases Nat.lt_trichotomy k i with hc | hc | hc
      · have hd : decide (k < i) = true := decide_eq_true hc
        have hd' : (!decide (k < i)) = false := by simp [hc]
        have hE : (laid x k xs (i + 1)).map enc = (laid x k xs i).map enc ++ [enc xs[i]] := by
          rw [laid, laid, if_pos hc, if_pos (by omega), htake, List.drop_append_of_le_length (by simp; omega)]; simp
        repeat (first
          | refine r_appRow (fs := [60]) rfl rfl rfl rfl rfl rfl (he _) hl1 (by decide) (Or.inl rfl) ?_ | refine r_mv_p rfl ?_ | refine r_skipA rfl ?_ | refine r_addA rfl rfl ?_
          | refine r_loadA rfl ?_ | refine r_pickF rfl rfl rfl ?_ | refine r_sem rfl rfl rfl rfl ?_ | refine r_nil ?_ | refine r_iadA rfl rfl ?_ | refine r_bsl1 rfl (by assumption) rfl ?_
          | refine r_mv_rowA rfl rfl ?_ | refine run_seq ?_ | refine run_reg ?_ | refine run_regd rfl ?_ | refine run_block ?_ | refine run_skip ?_ | refine fin_seq ?_ | refine fin_blk ?_
          | refine run_condF rfl ?_)
        refine fin_loop (run_weak (weak_S ?_ ?_) (ih (i + 1) hlt (by omega)))
        · exact ⟨rfl, rfl, rfl, by rw [hE, List.length_append]; rfl, tb rfl (hd.trans (decide_eq_true (show k < i + 1 by omega)).symm), rfl, trivial⟩
        · exact ⟨by rw [hE]; rfl, rfl, trivial⟩
      · have hd : decide (k < i) = false := decide_eq_false (by omega)
        have hd' : (!decide (k < i)) = true := by simp; omega
        have hg : decide (0 < cmp xs[i] x) = true := hhi _ (by subst hc; simp)
        have hl0 : (((laid x k xs i).map enc).length + [enc x].length) * 32 ≤ 140737488355328 := by simp only [List.length_map, List.length_cons, List.length_nil]; omega
        have hlen : (laid x k xs i).length = i := by rw [laid, if_neg (by omega)]; simp; omega
        have hl2 : ((((laid x k xs i).map enc) ++ [enc x]).length + [enc xs[i]].length) * 32 ≤ 140737488355328 := by
          clear hl0 hl1 hll
          rw [List.length_append, List.length_map, hlen]
          exact le84 hlt hbig
        have hE : (laid x k xs (i + 1)).map enc = ((laid x k xs i).map enc ++ [enc x]) ++ [enc xs[i]] := by
          have h1 : laid x k xs (i + 1) = xs.take k ++ x :: (xs.take (i + 1)).drop k := if_pos (by omega)
          have h2 : laid x k xs i = xs.take i := if_neg (by omega)
          have h3 : (xs.take i).drop i = [] := by simp
          have h4 : (xs.take i ++ [xs[i]]).drop i = [xs[i]] := by rw [List.drop_append_of_le_length (by simp; omega), h3]; rfl
          rw [h1, h2, htake, hc, h4, List.map_append, List.append_assoc]; rfl
        repeat (first
          | refine r_callv rfl (ho xs[i] x) ?_ | refine r_appRow (fs := [53]) rfl rfl rfl rfl rfl rfl (he _) hl0 (by decide) (Or.inr rfl) ?_
          | refine r_appRow (fs := [60]) rfl rfl List.length_append.symm rfl rfl rfl (he _) hl2 (by decide) (Or.inr rfl) ?_ | refine r_mv_p rfl ?_ | refine r_doA rfl ?_
          | refine r_addA rfl rfl ?_ | refine r_loadA rfl ?_ | refine r_loadB rfl rfl ?_ | refine r_pickT rfl rfl rfl ?_ | refine r_sem rfl rfl rfl rfl ?_ | refine r_nil ?_
          | refine r_iadA rfl rfl ?_ | refine r_bsl1 rfl (by assumption) rfl ?_ | refine r_mv_rowA rfl rfl ?_ | refine run_seq ?_ | refine run_reg ?_ | refine run_regd rfl ?_
          | refine run_block ?_ | refine run_skip ?_ | refine fin_seq ?_ | refine fin_blk ?_ | refine run_condT rfl ?_)
        refine fin_loop (run_weak (weak_S ?_ ?_) (ih (i + 1) hlt (by omega)))
        · exact ⟨rfl, rfl, rfl, by rw [hE]; simp only [List.length_append]; rfl, tb rfl (decide_eq_true (show k < i + 1 by omega)).symm, rfl, trivial⟩
        · exact ⟨by rw [hE]; rfl, rfl, trivial⟩
      · have hd : decide (k < i) = false := decide_eq_false (by omega)
        have hd' : (!decide (k < i)) = true := by simp; omega
        have hg : decide (0 < cmp xs[i] x) = false := hlo i xs[i] hc (by simp)
        have hE : (laid x k xs (i + 1)).map enc = (laid x k xs i).map enc ++ [enc xs[i]] := by
          have h1 : laid x k xs (i + 1) = xs.take (i + 1) := if_neg (by omega)
          have h2 : laid x k xs i = xs.take i := if_neg (by omega)
          rw [h1, h2, htake, List.map_append]; rfl
        repeat (first
          | refine r_callv rfl (ho xs[i] x) ?_ | refine r_appRow (fs := [60]) rfl rfl rfl rfl rfl rfl (he _) hl1 (by decide) (Or.inl rfl) ?_ | refine r_mv_p rfl ?_ | refine r_doA rfl ?_
          | refine r_addA rfl rfl ?_ | refine r_loadA rfl ?_ | refine r_loadB rfl rfl ?_ | refine r_pickT rfl rfl rfl ?_ | refine r_sem rfl rfl rfl rfl ?_ | refine r_nil ?_
          | refine r_iadA rfl rfl ?_ | refine r_bsl1 rfl (by assumption) rfl ?_ | refine r_mv_rowA rfl rfl ?_ | refine run_seq ?_ | refine run_reg ?_ | refine run_regd rfl ?_
          | refine run_block ?_ | refine run_skip ?_ | refine fin_seq ?_ | refine fin_blk ?_ | refine run_condF rfl ?_)
        refine fin_loop (run_weak (weak_S ?_ ?_) (ih (i + 1) hlt (by omega)))
        · exact ⟨rfl, rfl, rfl, by rw [hE, List.length_append]; rfl, tb rfl (hd.trans (decide_eq_false (show ¬ k < i + 1 by omega)).symm), rfl, trivial⟩
        · exact ⟨by rw [hE]; rfl, rfl, trivial⟩
    · have hin : i = xs.length := by simp at h2; omega
      have htake : xs.take i = xs := by rw [hin]; simp
      rcases Nat.lt_or_ge k i with hc | hc
      · have hd : decide (k < i) = true := decide_eq_true hc
        have hd' : (!decide (k < i)) = false := by simp [hc]
        have hE : putL cmp x xs = laid x k xs i := by rw [hL, laid, if_pos hc, htake]
        rw [hE]
        repeat (first
          | refine r_mv_p rfl ?_ | refine r_sem rfl rfl rfl rfl ?_ | refine r_nil ?_ | refine r_mv_rowA rfl rfl ?_ | refine run_seq ?_ | refine run_reg ?_ | refine run_skip ?_
          | refine run_exit ?_ | refine run_ret ?_ | refine fin_seq ?_ | refine fin_seq_e ?_ | refine fin_blk_e ?_ | refine fin_loop_e ?_ | refine run_condF rfl ?_)
        exact fin_row (by rfl) (by rfl) (by rfl) (by rfl)
      · have hd : decide (k < i) = false := decide_eq_false (by omega)
        have hd' : (!decide (k < i)) = true := by simp; omega
        have hki : k = xs.length := by omega
        have hE : (putL cmp x xs).map enc = (laid x k xs i).map enc ++ [enc x] := by
          have h1 : laid x k xs i = xs.take i := if_neg (Nat.not_lt.2 hc)
          rw [hL, h1, htake, hki, List.drop_length, List.take_length, List.map_append]; rfl
        have hl0 : (((laid x k xs i).map enc).length + [enc x].length) * 32 ≤ 140737488355328 := by
          have h1 : laid x k xs i = xs.take i := if_neg (Nat.not_lt.2 hc)
          rw [h1, htake, List.length_map]; exact hbig
        have he : ∀ z ∈ [enc x], z.length = 2 := by intro z hz; simp at hz; subst hz; exact hxl
        rw [hE]
        repeat (first
          | refine r_appRow (fs := [66]) rfl rfl rfl rfl rfl rfl he hl0 (by decide) (Or.inr rfl) ?_ | refine r_mv_p rfl ?_ | refine r_loadB rfl rfl ?_ | refine r_sem rfl rfl rfl rfl ?_
          | refine r_nil ?_ | refine r_bsl1 rfl (by assumption) rfl ?_ | refine r_mv_rowA rfl rfl ?_ | refine run_seq ?_ | refine run_reg ?_ | refine run_exit ?_ | refine run_ret ?_
          | refine fin_seq ?_ | refine fin_seq_e ?_ | refine fin_blk_e ?_ | refine fin_loop_e ?_ | refine run_condT rfl ?_)
        exact fin_row (by rfl) List.length_append.symm (by rfl) (by rfl)
end Go.Fw
