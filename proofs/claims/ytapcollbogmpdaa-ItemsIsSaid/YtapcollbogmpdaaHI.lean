/-
  Items: plain facts.
-/
import Derived.Test.YtapcollbogmpdaaHS
set_option linter.unusedVariables false
set_option linter.unusedSimpArgs false
set_option maxRecDepth 10000
namespace Go.Fw
open Go.Proofs

def eachS : Str := ⟨#[101, 97, 99, 104]⟩
abbrev Un := Str × Int
def outU (n : Int) : Bool := decide (n < 2) || decide (1000000 < n)
def sameN (s : Str) (a : Un) : Bool := decide (a.1 = s)
def unitE (u : Un) (ahead : List Un) : Int :=
  if u.1 = ⟨#[]⟩ then (if u.2 = 0 then 0 else 5)
  else if nameE u.1 ≠ 0 then nameE u.1
  else if (decide (u.1 = eachS) || ahead.any (sameN u.1)) = true then 11
  else if outU u.2 = true then 5 else 0
def Item.us (x : Item) : List Un := [(x.u0, x.f0), (x.u1, x.f1), (x.u2, x.f2), (x.u3, x.f3)]
def sizeE (x : Item) : Int := if badM 1000000 x.volume x.weight = true then 5 else if (x.serial && !x.lots) = true then 21 else 0
def Item.check' (x : Item) : Int :=
  orI [nameE x.code, unitE (x.u0, x.f0) [], unitE (x.u1, x.f1) [(x.u0, x.f0)], unitE (x.u2, x.f2) [(x.u0, x.f0), (x.u1, x.f1)], unitE (x.u3, x.f3) [(x.u0, x.f0), (x.u1, x.f1), (x.u2, x.f2)], sizeE x]
def House.addItem (h : House) (x : Item) : House × Int :=
  if x.check' ≠ 0 then (House.zero, x.check')
  else if (h.item? x.code).isSome = true then (House.zero, 11)
  else if 64 ≤ h.items.xs.length then (House.zero, 14)
  else (h.withItem x, 0)
theorem addItem_same {a b : House} (s : SameH a b) (x : Item) : (a.addItem x).2 = (b.addItem x).2 ∧ SameH (a.addItem x).1 (b.addItem x).1 := by
  have hl : a.items.xs.length = b.items.xs.length := by rw [s.items]
  unfold House.addItem
  rw [s.item?, hl]
  split
  · exact ⟨rfl, SameH.refl _⟩
  split
  · exact ⟨rfl, SameH.refl _⟩
  split
  · exact ⟨rfl, SameH.refl _⟩
  exact ⟨rfl, s.withItem x⟩
theorem addItem_ok {h : House} (hx : h.Ok) (x : Item) : (h.addItem x).1.Ok := by
  unfold House.addItem
  split
  · exact House.zero_ok
  split
  · exact House.zero_ok
  split
  · exact House.zero_ok
  exact hx.withItem x

theorem nameE_vals (s : Str) : nameE s = 0 ∨ nameE s = 3 ∨ nameE s = 4 := by
  unfold nameE
  split
  · exact .inr (.inr rfl)
  · split
    · exact .inr (.inl rfl)
    · exact .inl rfl
theorem nameE_zero {s : Str} (h : nameE s = 0) : 1 ≤ s.size ∧ s.size ≤ 12 := by
  unfold nameE at h
  split at h
  · cases h
  rename_i h1
  split at h
  · cases h
  rename_i h2
  refine ⟨?_, by omega⟩
  rcases Nat.eq_zero_or_pos s.size with h0 | h0
  · exfalso
    apply h2
    have : s = ⟨#[]⟩ := ByteArray.ext (Array.eq_empty_of_size_eq_zero h0)
    subst this
    rfl
  · exact h0
theorem unitE_vals (u : Un) (l : List Un) : unitE u l = 0 ∨ unitE u l = 3 ∨ unitE u l = 4 ∨ unitE u l = 5 ∨ unitE u l = 11 := by
  have := nameE_vals u.1
  unfold unitE
  repeat' split
  all_goals omega
theorem sizeE_vals (x : Item) : sizeE x = 0 ∨ sizeE x = 5 ∨ sizeE x = 21 := by
  unfold sizeE
  repeat' split
  all_goals omega
theorem orI_mem : ∀ {l : List Int}, orI l = 0 ∨ orI l ∈ l
  | [] => .inl rfl
  | x :: l => by
    unfold orI
    split
    · rcases orI_mem (l := l) with h | h
      · exact .inl h
      · exact .inr (List.mem_cons_of_mem _ h)
    · exact .inr List.mem_cons_self
theorem orI_zero : ∀ {l : List Int}, orI l = 0 → ∀ x ∈ l, x = 0
  | [], _, x, hx => by cases hx
  | y :: l, h, x, hx => by
    unfold orI at h
    split at h
    · rename_i hy
      rcases List.mem_cons.1 hx with rfl | hx
      · exact hy
      · exact orI_zero h x hx
    · rename_i hy; exact absurd h hy
theorem orI_all {p : Int → Prop} (h0 : p 0) : ∀ {l : List Int}, (∀ x ∈ l, p x) → p (orI l)
  | [], _ => h0
  | x :: l, h => by
    unfold orI
    split
    · exact orI_all h0 fun y hy => h y (List.mem_cons_of_mem _ hy)
    · exact h x List.mem_cons_self
def okE (n : Int) : Prop := n = 0 ∨ n = 3 ∨ n = 4 ∨ n = 5 ∨ n = 11 ∨ n = 21
theorem okE_name (s : Str) : okE (nameE s) := by
  rcases nameE_vals s with h | h | h <;> (unfold okE; rw [h]; decide)
theorem okE_unit (u : Un) (l : List Un) : okE (unitE u l) := by
  rcases unitE_vals u l with h | h | h | h | h <;> (unfold okE; rw [h]; decide)
theorem okE_size (x : Item) : okE (sizeE x) := by
  rcases sizeE_vals x with h | h | h <;> (unfold okE; rw [h]; decide)
theorem check_vals (x : Item) : x.check' = 0 ∨ x.check' = 3 ∨ x.check' = 4 ∨ x.check' = 5 ∨ x.check' = 11 ∨ x.check' = 21 := by
  refine orI_all (p := okE) (.inl rfl) fun n hn => ?_
  simp only [List.mem_cons, List.not_mem_nil, or_false] at hn
  rcases hn with h | h | h | h | h | h <;> rw [h]
  · exact okE_name _
  · exact okE_unit _ _
  · exact okE_unit _ _
  · exact okE_unit _ _
  · exact okE_unit _ _
  · exact okE_size _
/-- A unit that may be. -/
theorem unitE_zero {u : Un} {l : List Un} (h : unitE u l = 0) : (u.1 = ⟨#[]⟩ ∧ u.2 = 0) ∨ (u.1 ≠ ⟨#[]⟩ ∧ u.1.size ≤ 12 ∧ u.1 ≠ eachS ∧ 2 ≤ u.2 ∧ u.2 ≤ 1000000 ∧ ∀ a ∈ l, a.1 ≠ u.1) := by
  unfold unitE at h
  split at h
  · rename_i h1
    split at h
    · rename_i h2; exact .inl ⟨h1, h2⟩
    · cases h
  rename_i h1
  split at h
  · rename_i h2; exact absurd h h2
  rename_i h2
  split at h
  · cases h
  rename_i h3
  split at h
  · cases h
  rename_i h4
  have h2' : nameE u.1 = 0 := Decidable.not_not.1 h2
  simp only [Bool.or_eq_true, decide_eq_true_eq, not_or, List.any_eq_true, sameN, not_exists, not_and] at h3
  simp only [outU, Bool.or_eq_true, decide_eq_true_eq, not_or, Int.not_lt] at h4
  exact .inr ⟨h1, (nameE_zero h2').2, h3.1, h4.1, h4.2, h3.2⟩
theorem check_zero {x : Item} (h : x.check' = 0) : nameE x.code = 0 ∧ unitE (x.u0, x.f0) [] = 0 ∧ unitE (x.u1, x.f1) [(x.u0, x.f0)] = 0 ∧ unitE (x.u2, x.f2) [(x.u0, x.f0), (x.u1, x.f1)] = 0 ∧
    unitE (x.u3, x.f3) [(x.u0, x.f0), (x.u1, x.f1), (x.u2, x.f2)] = 0 ∧ (0 ≤ x.volume ∧ x.volume ≤ 1000000 ∧ 0 ≤ x.weight ∧ x.weight ≤ 1000000) ∧ (x.serial = true → x.lots = true) := by
  have hz := orI_zero h
  refine ⟨hz _ (by simp), hz _ (by simp), hz _ (by simp), hz _ (by simp), hz _ (by simp), ?_⟩
  have h5 : sizeE x = 0 := hz _ (by simp)
  unfold sizeE at h5
  split at h5
  · cases h5
  rename_i h6
  split at h5
  · cases h5
  rename_i h7
  simp only [badM, Bool.or_eq_true, decide_eq_true_eq, not_or, Int.not_lt] at h6
  refine ⟨by omega, fun hs => ?_⟩
  simpa [hs] using h7

/-! ### Items, one behind the other -/
/-- What a house and what was added to it have in common. -/
structure Want (h : House) (es : List (ByteArray × PV)) : Prop where
  len : es.length = h.items.xs.length
  few : h.items.xs.length ≤ 64
  up : UpK Item.code h.items.xs
  find : ∀ c, mfind c es = (h.item? c).map fun x => .agg x.enc
theorem want_zero : Want House.zero [] := ⟨rfl, by simp [House.zero, Ls.nil], List.Pairwise.nil, fun c => rfl⟩
theorem mput_find (k : ByteArray) (p : PV) : ∀ (es : List (ByteArray × PV)) (c : ByteArray), mfind c (mput k p es) = if c = k then some p else mfind c es
  | [], c => rfl
  | (j, y) :: r, c => by
    simp only [mput]
    split
    · rename_i e; subst e
      simp only [mfind]
      split
      · rfl
      · rfl
    · rename_i e
      simp only [mfind]
      rw [mput_find k p r c]
      split
      · rename_i e2; subst e2
        rw [if_neg (fun e3 => e e3.symm)]
      · rfl
theorem mput_length {k : ByteArray} {p : PV} : ∀ {es : List (ByteArray × PV)}, mfind k es = none → (mput k p es).length = es.length + 1
  | [], _ => rfl
  | (j, y) :: r, h => by
    simp only [mfind] at h
    split at h
    · cases h
    · rename_i e
      simp only [mput, if_neg e, List.length_cons]
      rw [mput_length h]
theorem want_add {h g : House} {x : Item} {es : List (ByteArray × PV)} (hw : Want h es) (hr : h.addItem x = (g, 0)) : mfind x.code es = none ∧ es.length < 64 ∧ x.check' = 0 ∧ Want g (mput x.code (.agg x.enc) es) := by
  unfold House.addItem at hr
  split at hr
  · rename_i h1; simp at hr; exact absurd hr.2 h1
  rename_i h1
  split at hr
  · simp at hr
  rename_i h2
  split at hr
  · simp at hr
  rename_i h3
  have hg : g = h.withItem x := by simpa using hr.symm
  subst hg
  have hn : h.item? x.code = none := by simpa using h2
  have hm : mfind x.code es = none := by rw [hw.find, hn]; rfl
  have hl : (h.withItem x).items.xs.length = h.items.xs.length + 1 := by
    show (putL itemCmp x h.items.xs).length = _
    rw [put_len, if_neg]
    rw [findB_find]
    have hq : eqQ itemCmp x = fun y : Item => decide (y.code = x.code) := by
      funext y; rw [Bool.eq_iff_iff]; rw [eqQ_key Item.code itemCmp item0]; simp
    rw [hq]
    rw [show h.items.xs.find? (fun y => decide (y.code = x.code)) = none from hn]; simp
  refine ⟨hm, by rw [hw.len]; omega, Decidable.not_not.1 h1, ⟨by rw [mput_length hm, hl, hw.len], by rw [hl]; omega, put_up Item.code itemCmp (fun _ _ => rfl) hw.up, fun c => ?_⟩⟩
  rw [mput_find, item_with, hw.find]
  by_cases e : c = x.code
  · subst e; simp
  · rw [if_neg e, if_neg (fun e2 => e e2.symm)]
theorem want_not {h g : House} {x : Item} {es : List (ByteArray × PV)} {e : Int} (hw : Want h es) (hr : h.addItem x = (g, e)) (he : e ≠ 0) : ¬ (x.check' = 0 ∧ mfind x.code es = none ∧ es.length < 64) := by
  rintro ⟨h1, h2, h3⟩
  unfold House.addItem at hr
  rw [if_neg (by simp [h1])] at hr
  rw [hw.find] at h2
  rw [if_neg (by simpa using h2), if_neg (by rw [← hw.len]; omega)] at hr
  simp at hr
  exact he hr.2.symm
end Go.Fw
