/-
  Plain laws: lists that rise, with a thing put and without one; maps beside them.
-/
import Derived.Test.YtikgpjnfifnilaaTG
set_option linter.unusedVariables false
set_option linter.unusedSimpArgs false
namespace Go.Fw

def Up (xs : List Pair) : Prop := xs.Pairwise fun a b => slt a.name b.name = true
theorem up_rises {xs : List Pair} (h : Up xs) : risesL xs := by
  intro j hj a b ha hb
  obtain ⟨h1, rfl⟩ := List.getElem?_eq_some_iff.1 ha
  obtain ⟨h2, rfl⟩ := List.getElem?_eq_some_iff.1 hb
  exact List.pairwise_iff_getElem.1 h j (j + 1) h1 h2 (by omega)
theorem up_nil : Up [] := List.Pairwise.nil
theorem up_name {xs : List Pair} (h : Up xs) {a b : Pair} (ha : a ∈ xs) (hb : b ∈ xs) (hn : a.name = b.name) : a = b := by
  obtain ⟨i, hi, rfl⟩ := List.mem_iff_getElem.1 ha
  obtain ⟨j, hj, rfl⟩ := List.mem_iff_getElem.1 hb
  rcases Nat.lt_trichotomy i j with h' | h' | h'
  · have := List.pairwise_iff_getElem.1 h i j hi hj h'
    rw [hn, slt_irrefl] at this; cases this
  · subst h'; rfl
  · have := List.pairwise_iff_getElem.1 h j i hj hi h'
    rw [hn, slt_irrefl] at this; cases this
/-- Lists that rise and hold the same are the same. -/
theorem up_ext : ∀ {xs ys : List Pair}, Up xs → Up ys → (∀ y, y ∈ xs ↔ y ∈ ys) → xs = ys
  | [], [], _, _, _ => rfl
  | [], b :: s, _, _, h => by have := (h b).2 (by simp); cases this
  | a :: r, [], _, _, h => by have := (h a).1 (by simp); cases this
  | a :: r, b :: s, hx, hy, h => by
    obtain ⟨h1, h2⟩ := List.pairwise_cons.1 hx
    obtain ⟨h3, h4⟩ := List.pairwise_cons.1 hy
    have e : a = b := by
      rcases List.mem_cons.1 ((h a).1 (by simp)) with e | ha
      · exact e
      · rcases List.mem_cons.1 ((h b).2 (by simp)) with e | hb
        · exact e.symm
        · have := slt_asymm (h3 a ha); rw [h1 b hb] at this; cases this
    subst e
    congr 1
    refine up_ext h2 h4 fun y => ⟨fun hy' => ?_, fun hy' => ?_⟩
    · rcases List.mem_cons.1 ((h y).1 (by simp [hy'])) with e | e
      · subst e; have := h1 y hy'; rw [slt_irrefl] at this; cases this
      · exact e
    · rcases List.mem_cons.1 ((h y).2 (by simp [hy'])) with e | e
      · subst e; have := h3 y hy'; rw [slt_irrefl] at this; cases this
      · exact e

theorem findB_spec {α : Type} {q : α → Bool} {xs : List α} (h : findB q xs = true) : ∃ (k : Nat) (y : α), findI q xs = k ∧ xs[k]? = some y ∧ q y = true := by
  have h0 : 0 ≤ firstI q xs 0 := by simpa [findB] using h
  obtain ⟨k, x, h1, h2, h3, _⟩ := firstI_pos h0
  exact ⟨k, x, by rw [findI, if_pos h0, h1, Nat.zero_add], h2, h3⟩
theorem findB_none {α : Type} {q : α → Bool} {xs : List α} : findB q xs = false ↔ ∀ y ∈ xs, q y = false := by
  unfold findB
  rw [decide_eq_false_iff_not, ← firstI_neg (i := 0)]
  omega
theorem eqQ_iff {x y : Pair} : eqQ pairCmp x y = true ↔ y.name = x.name := by rw [nmQ_eq]; simp [nmQ]
theorem gtQ_iff {x y : Pair} : gtQ pairCmp x y = true ↔ slt x.name y.name = true := by unfold gtQ pairCmp; rw [decide_eq_true_eq]; exact cmpS_gt

/-- What is in a list with a thing put. -/
theorem put_mem {x : Pair} {xs : List Pair} (h : Up xs) (y : Pair) : y ∈ putL pairCmp x xs ↔ y = x ∨ (y ∈ xs ∧ y.name ≠ x.name) := by
  unfold putL
  split
  · rename_i hf
    obtain ⟨k, z, hk, hz, hq⟩ := findB_spec hf
    have hn : z.name = x.name := eqQ_iff.1 hq
    obtain ⟨hlt, rfl⟩ := List.getElem?_eq_some_iff.1 hz
    rw [hk]
    show y ∈ xs.set k x ↔ _
    constructor
    · intro hy
      obtain ⟨j, hj, hyj⟩ := List.mem_iff_getElem.1 hy
      rw [List.getElem_set] at hyj
      split at hyj
      · exact .inl hyj.symm
      · rename_i hne
        have hj' : j < xs.length := by simpa using hj
        subst hyj
        refine .inr ⟨List.getElem_mem _, fun e => hne ?_⟩
        have := up_name h (List.getElem_mem hj') (List.getElem_mem hlt) (e.trans hn.symm)
        rcases Nat.lt_trichotomy j k with h' | h' | h'
        · have h2 := List.pairwise_iff_getElem.1 h j k hj' hlt h'
          rw [this, slt_irrefl] at h2; cases h2
        · exact h'.symm
        · have h2 := List.pairwise_iff_getElem.1 h k j hlt hj' h'
          rw [this, slt_irrefl] at h2; cases h2
    · rintro (rfl | ⟨hy, hne⟩)
      · exact List.mem_iff_getElem.2 ⟨k, by simpa using hlt, by simp⟩
      · obtain ⟨j, hj, rfl⟩ := List.mem_iff_getElem.1 hy
        refine List.mem_iff_getElem.2 ⟨j, by simpa using hj, ?_⟩
        rw [List.getElem_set, if_neg]
        intro e; subst e; exact hne hn
  · rename_i hf
    have hf' : findB (eqQ pairCmp x) xs = false := by simpa using hf
    have hno : ∀ z ∈ xs, z.name ≠ x.name := fun z hz e => by
      have := findB_none.1 hf' z hz
      rw [eqQ_iff.2 e] at this; cases this
    generalize (putI (gtQ pairCmp x) xs).toNat = k
    constructor
    · intro hy
      rcases List.mem_append.1 hy with hy | hy
      · exact .inr ⟨List.mem_of_mem_take hy, hno y (List.mem_of_mem_take hy)⟩
      · rcases List.mem_cons.1 hy with rfl | hy
        · exact .inl rfl
        · exact .inr ⟨List.mem_of_mem_drop hy, hno y (List.mem_of_mem_drop hy)⟩
    · rintro (rfl | ⟨hy, _⟩)
      · simp
      · rw [← List.take_append_drop k xs] at hy
        rcases List.mem_append.1 hy with hy | hy
        · exact List.mem_append_left _ hy
        · exact List.mem_append_right _ (List.mem_cons_of_mem _ hy)
theorem put_up {x : Pair} {xs : List Pair} (h : Up xs) : Up (putL pairCmp x xs) := by
  unfold putL
  split
  · rename_i hf
    obtain ⟨k, z, hk, hz, hq⟩ := findB_spec hf
    have hn : z.name = x.name := eqQ_iff.1 hq
    obtain ⟨hlt, rfl⟩ := List.getElem?_eq_some_iff.1 hz
    rw [hk]
    show Up (xs.set k x)
    refine List.pairwise_iff_getElem.2 fun i j hi hj hij => ?_
    have hi' : i < xs.length := by simpa using hi
    have hj' : j < xs.length := by simpa using hj
    have hb := List.pairwise_iff_getElem.1 h i j hi' hj' hij
    rw [List.getElem_set, List.getElem_set]
    split <;> split
    · omega
    · rename_i e _; subst e; rw [← hn]; exact hb
    · rename_i _ e; subst e; rw [← hn]; exact hb
    · exact hb
  · rename_i hf
    have hf' : findB (eqQ pairCmp x) xs = false := by simpa using hf
    have hno : ∀ z ∈ xs, z.name ≠ x.name := fun z hz e => by
      have := findB_none.1 hf' z hz
      rw [eqQ_iff.2 e] at this; cases this
    obtain ⟨k, hk, hkn, hlo, hhi⟩ := putI_spec (gtQ pairCmp x) xs
    rw [hk]
    show Up (xs.take k ++ x :: xs.drop k)
    have hlo' : ∀ a ∈ xs.take k, slt a.name x.name = true := fun a ha => by
      obtain ⟨j, hj, rfl⟩ := List.mem_iff_getElem.1 ha
      have hj2 : j < k := by simp at hj; omega
      have hj3 : j < xs.length := by simp at hj; omega
      rw [List.getElem_take]
      have h1 := hlo j xs[j] hj2 (by simp)
      cases h4 : slt xs[j].name x.name with
      | true => rfl
      | false =>
        cases h5 : slt x.name xs[j].name with
        | true => rw [gtQ_iff.2 h5] at h1; cases h1
        | false => exact absurd (slt_total h4 h5) (hno _ (List.getElem_mem hj3))
    have hhi' : ∀ b ∈ xs.drop k, slt x.name b.name = true := fun b hb => by
      obtain ⟨j, hj, rfl⟩ := List.mem_iff_getElem.1 hb
      have hj3 : k + j < xs.length := by simp at hj; omega
      have hk3 : k < xs.length := by omega
      rw [List.getElem_drop]
      have h1 := gtQ_iff.1 (hhi xs[k] (by simp))
      cases j with
      | zero => exact h1
      | succ j => exact slt_trans h1 (List.pairwise_iff_getElem.1 h k (k + (j + 1)) hk3 hj3 (by omega))
    refine List.pairwise_append.2 ⟨h.sublist (List.take_sublist _ _), List.pairwise_cons.2 ⟨hhi', h.sublist (List.drop_sublist _ _)⟩, fun a ha b hb => ?_⟩
    rcases List.mem_cons.1 hb with rfl | hb
    · exact hlo' a ha
    · exact slt_trans (hlo' a ha) (hhi' b hb)
theorem put_len {x : Pair} {xs : List Pair} : (putL pairCmp x xs).length = if findB (eqQ pairCmp x) xs = true then xs.length else xs.length + 1 := by
  unfold putL
  split
  · simp
  · obtain ⟨k, hk, hle⟩ := putI_le (gtQ pairCmp x) xs
    simp [hk]; omega
/-- What is in a list without a thing. -/
theorem drop_mem {x : Pair} {xs : List Pair} (h : Up xs) (y : Pair) : y ∈ dropL pairCmp x xs ↔ y ∈ xs ∧ y.name ≠ x.name := by
  unfold dropL
  split
  · rename_i hf
    obtain ⟨k, z, hk, hz, hq⟩ := findB_spec hf
    have hn : z.name = x.name := eqQ_iff.1 hq
    obtain ⟨hlt, rfl⟩ := List.getElem?_eq_some_iff.1 hz
    rw [hk]
    show y ∈ xs.take k ++ xs.drop (k + 1) ↔ _
    have hne : ∀ j (hj : j < xs.length), j ≠ k → xs[j].name ≠ x.name := fun j hj hjk e => by
      have := up_name h (List.getElem_mem hj) (List.getElem_mem hlt) (e.trans hn.symm)
      rcases Nat.lt_trichotomy j k with h' | h' | h'
      · have h2 := List.pairwise_iff_getElem.1 h j k hj hlt h'
        rw [this, slt_irrefl] at h2; cases h2
      · exact hjk h'
      · have h2 := List.pairwise_iff_getElem.1 h k j hlt hj h'
        rw [this, slt_irrefl] at h2; cases h2
    constructor
    · intro hy
      rcases List.mem_append.1 hy with hy | hy
      · obtain ⟨j, hj, rfl⟩ := List.mem_iff_getElem.1 hy
        have hj2 : j < k := by simp at hj; omega
        rw [List.getElem_take]
        exact ⟨List.getElem_mem _, hne j _ (by omega)⟩
      · obtain ⟨j, hj, rfl⟩ := List.mem_iff_getElem.1 hy
        rw [List.getElem_drop]
        exact ⟨List.getElem_mem _, hne _ _ (by omega)⟩
    · rintro ⟨hy, hny⟩
      obtain ⟨j, hj, rfl⟩ := List.mem_iff_getElem.1 hy
      rcases Nat.lt_trichotomy j k with h' | h' | h'
      · exact List.mem_append_left _ (List.mem_iff_getElem.2 ⟨j, by simp; omega, by simp⟩)
      · subst h'; exact absurd hn hny
      · exact List.mem_append_right _ (List.mem_iff_getElem.2 ⟨j - (k + 1), by simp; omega, by simp [show k + 1 + (j - (k + 1)) = j by omega]⟩)
  · rename_i hf
    have hf' : findB (eqQ pairCmp x) xs = false := by simpa using hf
    refine ⟨fun hy => ⟨hy, fun e => ?_⟩, fun hy => hy.1⟩
    have := findB_none.1 hf' y hy
    rw [eqQ_iff.2 e] at this; cases this
theorem drop_up {x : Pair} {xs : List Pair} (h : Up xs) : Up (dropL pairCmp x xs) := by
  unfold dropL
  split
  · refine h.sublist ?_
    rw [← List.eraseIdx_eq_take_drop_succ]
    exact List.eraseIdx_sublist _ _
  · exact h
theorem drop_len {x : Pair} {xs : List Pair} : (dropL pairCmp x xs).length = if findB (eqQ pairCmp x) xs = true then xs.length - 1 else xs.length := by
  unfold dropL
  split
  · rename_i hf
    obtain ⟨k, hk, hlt⟩ := findB_lt hf
    simp [hk]; omega
  · rfl

/-! ### Maps -/
theorem mfind_mput_same (k : ByteArray) (x : PV) : ∀ es : List (ByteArray × PV), mfind k (mput k x es) = some x
  | [] => by simp [mput, mfind]
  | (j, y) :: r => by
    simp only [mput]
    split
    · simp [mfind]
    · rename_i h; simp [mfind, h, mfind_mput_same k x r]
theorem mfind_mput_other {k j : ByteArray} (h : j ≠ k) (x : PV) : ∀ es : List (ByteArray × PV), mfind j (mput k x es) = mfind j es
  | [] => by simp [mput, mfind, h]
  | (i, y) :: r => by
    simp only [mput]
    split
    · rename_i e; subst e; simp [mfind, h]
    · simp only [mfind, mfind_mput_other h x r]
theorem mput_len (k : ByteArray) (x : PV) : ∀ es : List (ByteArray × PV), (mput k x es).length = if (mfind k es).isSome then es.length else es.length + 1
  | [] => by simp [mput, mfind]
  | (i, y) :: r => by
    simp only [mput, mfind]
    split
    · simp
    · simp only [List.length_cons, mput_len k x r]; split <;> rfl
theorem mput_keys (k : ByteArray) (x : PV) : ∀ es : List (ByteArray × PV), ∀ j, j ∈ (mput k x es).map (·.1) ↔ j = k ∨ j ∈ es.map (·.1)
  | [], j => by simp [mput]
  | (i, y) :: r, j => by
    simp only [mput]
    split
    · rename_i e; subst e; simp
    · simp only [List.map_cons, List.mem_cons, mput_keys k x r j]
      constructor
      · rintro (h | h | h) <;> simp [h]
      · rintro (h | h | h) <;> simp [h]
theorem mput_nodup (k : ByteArray) (x : PV) : ∀ es : List (ByteArray × PV), (es.map (·.1)).Nodup → ((mput k x es).map (·.1)).Nodup
  | [], _ => by simp [mput]
  | (i, y) :: r, h => by
    simp only [List.map_cons, List.nodup_cons] at h
    simp only [mput]
    split
    · rename_i e; subst e; simp only [List.map_cons, List.nodup_cons]; exact h
    · rename_i e
      simp only [List.map_cons, List.nodup_cons]
      refine ⟨fun hm => ?_, mput_nodup k x r h.2⟩
      rcases (mput_keys k x r i).1 hm with e' | e'
      · exact e e'.symm
      · exact h.1 e'
theorem mfind_none {k : ByteArray} : ∀ {es : List (ByteArray × PV)}, k ∉ es.map (·.1) → mfind k es = none
  | [], _ => rfl
  | (i, y) :: r, h => by
    simp only [List.map_cons, List.mem_cons, not_or] at h
    simp [mfind, h.1, mfind_none h.2]
theorem mfind_mcut_same (k : ByteArray) : ∀ es : List (ByteArray × PV), (es.map (·.1)).Nodup → mfind k (mcut k es) = none
  | [], _ => rfl
  | (i, y) :: r, h => by
    simp only [List.map_cons, List.nodup_cons] at h
    simp only [mcut]
    split
    · rename_i e; subst e; exact mfind_none h.1
    · rename_i e; simp [mfind, e, mfind_mcut_same k r h.2]
theorem mfind_mcut_other {k j : ByteArray} (h : j ≠ k) : ∀ es : List (ByteArray × PV), mfind j (mcut k es) = mfind j es
  | [] => rfl
  | (i, y) :: r => by
    simp only [mcut]
    split
    · rename_i e; subst e; simp [mfind, h]
    · simp only [mfind, mfind_mcut_other h r]
theorem mcut_len (k : ByteArray) : ∀ es : List (ByteArray × PV), (mcut k es).length = if (mfind k es).isSome then es.length - 1 else es.length
  | [] => rfl
  | (i, y) :: r => by
    simp only [mcut, mfind]
    split
    · simp
    · simp only [List.length_cons, mcut_len k r]
      split
      · rename_i h
        have : 0 < r.length := by cases r with
          | nil => simp [mfind] at h
          | cons a r => simp
        omega
      · rfl
theorem mcut_sub (k : ByteArray) : ∀ es : List (ByteArray × PV), ((mcut k es).map (·.1)).Sublist (es.map (·.1))
  | [] => .slnil
  | (i, y) :: r => by
    simp only [mcut]
    split
    · exact List.sublist_cons_self _ _
    · exact (mcut_sub k r).cons_cons _
theorem mcut_nodup (k : ByteArray) (es : List (ByteArray × PV)) (h : (es.map (·.1)).Nodup) : ((mcut k es).map (·.1)).Nodup := h.sublist (mcut_sub k es)

/-- A map that says what a list says. -/
structure Tells (es : List (ByteArray × PV)) (xs : List Pair) : Prop where
  up : Up xs
  len : es.length = xs.length
  nodup : (es.map (·.1)).Nodup
  has : ∀ y ∈ xs, mfind y.name es = some (.v (.int .i64 y.n))
  no : ∀ k, (∀ y ∈ xs, y.name ≠ k) → mfind k es = none
theorem Tells.nil : Tells [] [] := ⟨up_nil, rfl, by simp, by simp, fun _ _ => rfl⟩
theorem Tells.found {es : List (ByteArray × PV)} {xs : List Pair} (h : Tells es xs) (x : Pair) : (mfind x.name es).isSome = findB (eqQ pairCmp x) xs := by
  cases hf : findB (eqQ pairCmp x) xs with
  | true =>
    obtain ⟨k, z, hk, hz, hq⟩ := findB_spec hf
    rw [← eqQ_iff.1 hq, h.has z (List.mem_of_getElem? hz)]; rfl
  | false =>
    rw [h.no x.name fun y hy e => by have := findB_none.1 hf y hy; rw [eqQ_iff.2 e] at this; cases this]; rfl
theorem Tells.put {es : List (ByteArray × PV)} {xs : List Pair} (h : Tells es xs) (x : Pair) : Tells (mput x.name (.v (.int .i64 x.n)) es) (putL pairCmp x xs) := by
  refine ⟨put_up h.up, ?_, mput_nodup _ _ _ h.nodup, fun y hy => ?_, fun k hk => ?_⟩
  · rw [mput_len, put_len, h.found, h.len]
  · rcases (put_mem h.up y).1 hy with rfl | ⟨h1, h2⟩
    · exact mfind_mput_same _ _ _
    · rw [mfind_mput_other h2]; exact h.has y h1
  · have hne : k ≠ x.name := fun e => hk x ((put_mem h.up x).2 (.inl rfl)) e.symm
    rw [mfind_mput_other hne]
    exact h.no k fun y hy e => hk y ((put_mem h.up y).2 (.inr ⟨hy, fun e' => hne (e.symm.trans e')⟩)) e
theorem Tells.drop {es : List (ByteArray × PV)} {xs : List Pair} (h : Tells es xs) (x : Pair) : Tells (mcut x.name es) (dropL pairCmp x xs) := by
  refine ⟨drop_up h.up, ?_, mcut_nodup _ _ h.nodup, fun y hy => ?_, fun k hk => ?_⟩
  · rw [mcut_len, drop_len, h.found, h.len]
  · obtain ⟨h1, h2⟩ := (drop_mem h.up y).1 hy
    rw [mfind_mcut_other h2]; exact h.has y h1
  · by_cases hne : k = x.name
    · rw [hne]; exact mfind_mcut_same _ _ h.nodup
    · rw [mfind_mcut_other hne]
      exact h.no k fun y hy e => hk y ((drop_mem h.up y).2 ⟨hy, fun e' => hne (e.symm.trans e')⟩) e
end Go.Fw
