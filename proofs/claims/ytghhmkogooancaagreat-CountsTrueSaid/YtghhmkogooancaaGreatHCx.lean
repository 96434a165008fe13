/-
  Lists in which no name stands twice: what is put, dropped, found, added up.
-/
import Derived.Test.YtghhmkogooancaaGreatHT
import Derived.Test.YtghhmkogooancaaGreatHR
import Derived.Laws.BitsLemmas
set_option linter.unusedVariables false
set_option linter.unusedSimpArgs false
set_option maxRecDepth 10000
set_option linter.unusedSectionVars false
namespace Go.Fw
open Go.Proofs

theorem w64_eq (n : Int) : w64 n = (n + 9223372036854775808) % 18446744073709551616 - 9223372036854775808 := IntKind.wrap_i64 n
/-- Equal but for whole rounds of the machine's numbers. -/
def Cg (a b : Int) : Prop := w64 a = w64 b
theorem Cg.add {a b c d : Int} (h : Cg a b) (h2 : Cg c d) : Cg (a + c) (b + d) := by unfold Cg at *; rw [w64_eq, w64_eq] at *; omega
theorem Cg.sub {a b c d : Int} (h : Cg a b) (h2 : Cg c d) : Cg (a - c) (b - d) := by unfold Cg at *; rw [w64_eq, w64_eq] at *; omega
theorem cg_w (a : Int) : Cg (w64 a) a := by unfold Cg; rw [w64_eq, w64_eq a]; omega
theorem Cg.refl (a : Int) : Cg a a := rfl
theorem Cg.symm {a b : Int} (h : Cg a b) : Cg b a := Eq.symm h
theorem Cg.trans {a b c : Int} (h : Cg a b) (h2 : Cg b c) : Cg a c := Eq.trans h h2

section
variable {α κ : Type} [DecidableEq κ] (key : α → κ)
def Uniq (xs : List α) : Prop := xs.Pairwise fun a b => key a ≠ key b
def rest (c : κ) (xs : List α) : List α := xs.filter fun y => !decide (key y = c)
theorem Uniq.perm {xs ys : List α} (h : Uniq key xs) (hp : xs.Perm ys) : Uniq key ys := (hp.pairwise_iff fun hab => Ne.symm hab).1 h
theorem rest_mem {c : κ} {xs : List α} {y : α} : y ∈ rest key c xs ↔ y ∈ xs ∧ key y ≠ c := by simp [rest, List.mem_filter]
theorem rest_uniq {c : κ} {xs : List α} (h : Uniq key xs) : Uniq key (rest key c xs) := h.filter _
theorem uniq_cons {x : α} {xs : List α} (h : Uniq key xs) : Uniq key (x :: rest key (key x) xs) :=
  List.pairwise_cons.2 ⟨fun y hy => Ne.symm ((rest_mem key).1 hy).2, rest_uniq key h⟩
theorem rest_none {c : κ} {xs : List α} (h : ∀ y ∈ xs, key y ≠ c) : rest key c xs = xs := List.filter_eq_self.2 fun y hy => by simp [h y hy]
theorem rest_split {A B : List α} {z : α} (h : Uniq key (A ++ z :: B)) : rest key (key z) (A ++ z :: B) = A ++ B := by
  obtain ⟨h1, h2, h3⟩ := List.pairwise_append.1 h
  obtain ⟨h4, h5⟩ := List.pairwise_cons.1 h2
  unfold rest
  rw [List.filter_append, List.filter_cons]
  simp only [decide_true, Bool.not_true, Bool.false_eq_true, if_false]
  congr 1
  · exact List.filter_eq_self.2 fun y hy => by simp [h3 y hy z (by simp)]
  · exact List.filter_eq_self.2 fun y hy => by simp [Ne.symm (h4 y hy)]
theorem find_split {c : κ} {xs : List α} {o : α} (h : xs.find? (fun y => decide (key y = c)) = some o) : ∃ A B, xs = A ++ o :: B ∧ key o = c := by
  obtain ⟨h1, A, B, h2, h3⟩ := List.find?_eq_some_iff_append.1 h
  exact ⟨A, B, h2, by simpa using h1⟩
theorem some_perm {c : κ} {xs : List α} {o : α} (hu : Uniq key xs) (h : xs.find? (fun y => decide (key y = c)) = some o) : xs.Perm (o :: rest key c xs) := by
  obtain ⟨A, B, rfl, rfl⟩ := find_split key h
  rw [rest_split key hu]
  exact List.perm_middle
theorem none_rest {c : κ} {xs : List α} (h : xs.find? (fun y => decide (key y = c)) = none) : rest key c xs = xs := rest_none key fun y hy => by simpa using List.find?_eq_none.1 h y hy
theorem find_rest (c d : κ) (xs : List α) : (rest key c xs).find? (fun y => decide (key y = d)) = if d = c then none else xs.find? (fun y => decide (key y = d)) := by
  unfold rest
  rw [List.find?_filter]
  split
  · rename_i e; subst e
    exact List.find?_eq_none.2 fun y hy => by simp
  · rename_i e
    congr 1
    funext y
    by_cases hy : key y = d
    · simp [hy, e]
    · simp [hy]
theorem find_of_mem {xs : List α} {x : α} (hu : Uniq key xs) (hx : x ∈ xs) : xs.find? (fun y => decide (key y = key x)) = some x := by
  cases h : xs.find? (fun y => decide (key y = key x)) with
  | none => exact absurd (decide_eq_true rfl) (List.find?_eq_none.1 h x hx)
  | some o =>
    have hp := some_perm key hu h
    rcases List.mem_cons.1 (hp.mem_iff.1 hx) with rfl | h2
    · rfl
    · exact absurd rfl ((rest_mem key).1 h2).2
variable (cmp : α → α → Int)
theorem put_perm (h0 : ∀ y x, cmp y x = 0 ↔ key y = key x) (x : α) (xs : List α) (hu : Uniq key xs) : (putL cmp x xs).Perm (x :: rest key (key x) xs) := by
  unfold putL
  split
  · rename_i hf
    obtain ⟨k, z, hk, hz, hq, _⟩ := findB_first hf
    have hzx : key z = key x := (h0 z x).1 (by simpa [eqQ] using hq)
    obtain ⟨e1, e2⟩ := set_split hz x
    rw [hk, Int.toNat_natCast, e2, ← hzx]
    have hr : rest key (key z) xs = xs.take k ++ xs.drop (k + 1) := by
      conv => lhs; rw [e1]
      exact rest_split key (by rw [← e1]; exact hu)
    rw [hr]
    exact List.perm_middle
  · rename_i hf
    have hno : ∀ z ∈ xs, key z ≠ key x := fun z hz e => by
      have := findB_none.1 (by simpa using hf) z hz
      rw [eqQ, (h0 z x).2 e] at this; simp at this
    rw [rest_none key hno]
    have : (xs.take (putI (gtQ cmp x) xs).toNat ++ x :: xs.drop (putI (gtQ cmp x) xs).toNat).Perm (x :: (xs.take (putI (gtQ cmp x) xs).toNat ++ xs.drop (putI (gtQ cmp x) xs).toNat)) := List.perm_middle
    rwa [List.take_append_drop] at this
theorem drop_rest (h0 : ∀ y x, cmp y x = 0 ↔ key y = key x) (x : α) (xs : List α) (hu : Uniq key xs) : dropL cmp x xs = rest key (key x) xs := by
  unfold dropL
  split
  · rename_i hf
    obtain ⟨k, z, hk, hz, hq, _⟩ := findB_first hf
    have hzx : key z = key x := (h0 z x).1 (by simpa [eqQ] using hq)
    obtain ⟨e1, _⟩ := set_split hz x
    rw [hk, Int.toNat_natCast, ← hzx]
    conv => rhs; rw [e1]
    exact (rest_split key (by rw [← e1]; exact hu)).symm
  · rename_i hf
    exact (rest_none key fun z hz e => by
      have := findB_none.1 (by simpa using hf) z hz
      rw [eqQ, (h0 z x).2 e] at this; simp at this).symm
end

/-- What is added up of a list. -/
def sumOf {α : Type} (f : α → Int) : List α → Int
  | [] => 0
  | x :: xs => f x + sumOf f xs
theorem sumOf_perm {α : Type} {f : α → Int} {xs ys : List α} (h : xs.Perm ys) : sumOf f xs = sumOf f ys := by
  induction h with
  | nil => rfl
  | cons x _ ih => simp only [sumOf, ih]
  | swap x y l => simp only [sumOf]; omega
  | trans _ _ h1 h2 => exact h1.trans h2
def ofLot (i c : Str) (q : Quant) : Int := if q.item = i ∧ q.lot = c then q.qty else 0
theorem sum_cg (i c : Str) : ∀ (xs : List Quant) (a : Int), Cg (xs.foldl (addQ i c) a) (a + sumOf (ofLot i c) xs)
  | [], a => by simp [sumOf, Cg.refl]
  | q :: xs, a => by
    simp only [List.foldl_cons, sumOf]
    refine (sum_cg i c xs _).trans ?_
    rw [← Int.add_assoc]
    refine Cg.add ?_ (Cg.refl _)
    unfold addQ ofLot
    split
    · exact cg_w _
    · rw [Int.add_zero]; exact Cg.refl _
end Go.Fw
