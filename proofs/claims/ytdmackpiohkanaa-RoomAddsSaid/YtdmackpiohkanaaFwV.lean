/-
  Plain laws: how texts stand, byte by byte.
-/
import Derived.Test.YtdmackpiohkanaaFwU
set_option linter.unusedVariables false
set_option linter.unusedSimpArgs false
namespace Go.Fw
open Go.RowKit

theorem bl_irrefl : ∀ x : List UInt8, Op.bytesLess x x = false
  | [] => rfl
  | a :: x => by simp [Op.bytesLess, bl_irrefl x]
theorem bl_trans : ∀ x y z : List UInt8, Op.bytesLess x y = true → Op.bytesLess y z = true → Op.bytesLess x z = true
  | x, y, [], h1, h2 => by cases y <;> simp [Op.bytesLess] at h2
  | [], y, c :: z, h1, h2 => rfl
  | a :: x, [], c :: z, h1, h2 => by simp [Op.bytesLess] at h1
  | a :: x, b :: y, c :: z, h1, h2 => by
    simp only [Op.bytesLess, Bool.or_eq_true, Bool.and_eq_true, decide_eq_true_eq, beq_iff_eq] at h1 h2 ⊢
    rcases h1 with h1 | ⟨rfl, h1⟩
    · rcases h2 with h2 | ⟨rfl, h2⟩
      · left; exact UInt8.lt_trans h1 h2
      · left; exact h1
    · rcases h2 with h2 | ⟨rfl, h2⟩
      · left; exact h2
      · right; exact ⟨rfl, bl_trans x y z h1 h2⟩
theorem bl_total : ∀ x y : List UInt8, Op.bytesLess x y = false → Op.bytesLess y x = false → x = y
  | [], [], _, _ => rfl
  | [], b :: y, h1, h2 => by simp [Op.bytesLess] at h1
  | a :: x, [], h1, h2 => by simp [Op.bytesLess] at h2
  | a :: x, b :: y, h1, h2 => by
    simp only [Op.bytesLess, Bool.or_eq_false_iff, Bool.and_eq_false_iff, decide_eq_false_iff_not, beq_eq_false_iff_ne] at h1 h2
    have e : a = b := UInt8.le_antisymm (UInt8.not_lt.1 h2.1) (UInt8.not_lt.1 h1.1)
    subst e
    rw [bl_total x y (h1.2.resolve_left (by simp)) (h2.2.resolve_left (by simp))]
theorem toList_inj {a b : ByteArray} (h : a.toList = b.toList) : a = b := by
  have h1 : (a.toList == b.toList) = true := by simp [h]
  rw [toList_beq] at h1
  simpa using h1

theorem slt_irrefl (a : ByteArray) : slt a a = false := bl_irrefl _
theorem slt_trans {a b c : ByteArray} (h : slt a b = true) (k : slt b c = true) : slt a c = true := bl_trans _ _ _ h k
theorem slt_total {a b : ByteArray} (h : slt a b = false) (k : slt b a = false) : a = b := toList_inj (bl_total _ _ h k)
theorem slt_asymm {a b : ByteArray} (h : slt a b = true) : slt b a = false := by
  cases k : slt b a with
  | false => rfl
  | true => have := slt_trans h k; rw [slt_irrefl] at this; cases this
theorem slt_ne {a b : ByteArray} (h : slt a b = true) : a ≠ b := fun e => by subst e; rw [slt_irrefl] at h; cases h

/-- Texts, as Go's cmp.Compare has them. -/
def cmpS (a b : ByteArray) : Int := if slt a b then -1 else if slt b a then 1 else 0
theorem cmpS_eq {a b : ByteArray} : cmpS a b = 0 ↔ a = b := by
  unfold cmpS
  constructor
  · intro h
    cases h1 : slt a b <;> simp [h1] at h
    cases h2 : slt b a <;> simp [h2] at h
    exact slt_total h1 h2
  · intro h; subst h; simp [slt_irrefl]
theorem cmpS_lt {a b : ByteArray} : cmpS a b < 0 ↔ slt a b = true := by
  unfold cmpS
  cases h1 : slt a b <;> cases h2 : slt b a <;> simp
theorem cmpS_gt {a b : ByteArray} : 0 < cmpS a b ↔ slt b a = true := by
  unfold cmpS
  cases h1 : slt a b
  · cases h2 : slt b a <;> simp
  · simp [slt_asymm h1]

/-- The first place of a list at which q holds; -1: none. -/
def firstI {α : Type} (q : α → Bool) : List α → Nat → Int
  | [], _ => -1
  | x :: r, i => if q x then (i : Int) else firstI q r (i + 1)
theorem firstI_neg {α : Type} {q : α → Bool} : ∀ {l : List α} {i : Nat}, firstI q l i < 0 ↔ ∀ x ∈ l, q x = false
  | [], i => by simp [firstI]
  | x :: r, i => by
    simp only [firstI]
    cases h : q x with
    | true => simp [h]
    | false => simp [h, firstI_neg (l := r)]
theorem firstI_pos {α : Type} {q : α → Bool} : ∀ {l : List α} {i : Nat}, 0 ≤ firstI q l i → ∃ k x, firstI q l i = ((i + k : Nat) : Int) ∧ l[k]? = some x ∧ q x = true ∧ ∀ j y, j < k → l[j]? = some y → q y = false
  | [], i, h => by simp [firstI] at h
  | x :: r, i, h => by
    simp only [firstI] at h ⊢
    cases hq : q x with
    | true => exact ⟨0, x, by simp [hq], rfl, hq, fun j y hj => by omega⟩
    | false =>
      simp only [hq, Bool.false_eq_true, if_false] at h ⊢
      obtain ⟨k, y, h1, h2, h3, h4⟩ := firstI_pos h
      refine ⟨k + 1, y, by rw [h1]; congr 1; omega, by simpa using h2, h3, fun j z hj hz => ?_⟩
      cases j with
      | zero => simp at hz; subst hz; exact hq
      | succ j => exact h4 j z (by omega) (by simpa using hz)
end Go.Fw
