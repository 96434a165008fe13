/-
  What is found in lists into which things were put: plain facts.
-/
import Derived.Test.YtdmackpiohkanaaHF
set_option linter.unusedVariables false
set_option linter.unusedSimpArgs false
set_option maxRecDepth 10000
namespace Go.Fw
open Go.Proofs

/-- Where a thing is put that is not there. -/
def putI {α : Type} (q : α → Bool) (xs : List α) : Int := if firstI q xs 0 < 0 then xs.length else firstI q xs 0
def eqQ {α : Type} (cmp : α → α → Int) (x y : α) : Bool := decide (cmp y x = 0)
def gtQ {α : Type} (cmp : α → α → Int) (x y : α) : Bool := decide (0 < cmp y x)
def putL {α : Type} (cmp : α → α → Int) (x : α) (xs : List α) : List α :=
  if findB (eqQ cmp x) xs = true then xs.set (findI (eqQ cmp x) xs).toNat x else xs.take (putI (gtQ cmp x) xs).toNat ++ x :: xs.drop (putI (gtQ cmp x) xs).toNat
theorem findB_lt {α : Type} {q : α → Bool} {xs : List α} (h : findB q xs = true) : ∃ k : Nat, findI q xs = k ∧ k < xs.length := by
  have h0 : 0 ≤ firstI q xs 0 := by simpa [findB] using h
  obtain ⟨k, x, h1, h2, _⟩ := firstI_pos h0
  exact ⟨k, by rw [findI, if_pos h0, h1, Nat.zero_add], (List.getElem?_eq_some_iff.1 h2).1⟩
theorem putI_le {α : Type} (q : α → Bool) (xs : List α) : ∃ k : Nat, putI q xs = k ∧ k ≤ xs.length := by
  unfold putI
  split
  · exact ⟨_, rfl, Nat.le_refl _⟩
  · rename_i h
    obtain ⟨k, x, h1, h2, _⟩ := firstI_pos (q := q) (l := xs) (i := 0) (by omega)
    have := (List.getElem?_eq_some_iff.1 h2).1
    exact ⟨k, by rw [h1, Nat.zero_add], by omega⟩
/-- The place of a put, as a number. -/
theorem putI_spec {α : Type} (q : α → Bool) (xs : List α) : ∃ k : Nat, putI q xs = k ∧ k ≤ xs.length ∧ (∀ j y, j < k → xs[j]? = some y → q y = false) ∧ (∀ y, xs[k]? = some y → q y = true) := by
  unfold putI
  split
  · rename_i h
    refine ⟨_, rfl, Nat.le_refl _, fun j y _ hy => (firstI_neg.1 h) y (List.mem_of_getElem? hy), fun y hy => by simp at hy⟩
  · rename_i h
    obtain ⟨k, x, h1, h2, h3, h4⟩ := firstI_pos (q := q) (l := xs) (i := 0) (by omega)
    have := (List.getElem?_eq_some_iff.1 h2).1
    exact ⟨k, by rw [h1, Nat.zero_add], by omega, h4, fun y hy => by rw [h2] at hy; cases hy; exact h3⟩
theorem findB_first {α : Type} {q : α → Bool} {xs : List α} (h : findB q xs = true) : ∃ (k : Nat) (z : α), findI q xs = k ∧ xs[k]? = some z ∧ q z = true ∧ ∀ j y, j < k → xs[j]? = some y → q y = false := by
  have h0 : 0 ≤ firstI q xs 0 := by simpa [findB] using h
  obtain ⟨k, z, h1, h2, h3, h4⟩ := firstI_pos h0
  exact ⟨k, z, by rw [findI, if_pos h0, h1, Nat.zero_add], h2, h3, h4⟩
theorem findB_none {α : Type} {q : α → Bool} {xs : List α} : findB q xs = false ↔ ∀ y ∈ xs, q y = false := by
  unfold findB
  rw [decide_eq_false_iff_not, Int.not_le]
  exact firstI_neg
theorem findB_find {α : Type} {q : α → Bool} {xs : List α} : findB q xs = (xs.find? q).isSome := by
  cases h : findB q xs with
  | true =>
    obtain ⟨k, z, _, h2, h3, _⟩ := findB_first h
    cases hf : xs.find? q with
    | none => exact absurd h3 (List.find?_eq_none.1 hf z (List.mem_of_getElem? h2))
    | some _ => rfl
  | false =>
    have := findB_none.1 h
    rw [List.find?_eq_none.2 fun x hx => by simp [this x hx]]; rfl
theorem set_split {α : Type} {xs : List α} {k : Nat} {z : α} (h : xs[k]? = some z) (x : α) : xs = xs.take k ++ z :: xs.drop (k + 1) ∧ xs.set k x = xs.take k ++ x :: xs.drop (k + 1) := by
  obtain ⟨hlt, rfl⟩ := List.getElem?_eq_some_iff.1 h
  refine ⟨by rw [List.getElem_cons_drop]; simp, ?_⟩
  rw [List.set_eq_take_append_cons_drop, if_pos hlt]

section
variable {α κ : Type} [DecidableEq κ] (key : α → κ) (cmp : α → α → Int)
omit [DecidableEq κ] in
theorem eqQ_key (h0 : ∀ y x, cmp y x = 0 ↔ key y = key x) {x y : α} : eqQ cmp x y = true ↔ key y = key x := by
  unfold eqQ; rw [decide_eq_true_eq]; exact h0 y x
/-- What is found of a list into which a thing was put. -/
theorem find_put (h0 : ∀ y x, cmp y x = 0 ↔ key y = key x) (x : α) (xs : List α) (c : κ) : (putL cmp x xs).find? (fun y => decide (key y = c)) = if key x = c then some x else xs.find? (fun y => decide (key y = c)) := by
  unfold putL
  split
  · rename_i hf
    obtain ⟨k, z, hk, hz, hq, hlo⟩ := findB_first hf
    have hzn : key z = key x := (eqQ_key key cmp h0).1 hq
    obtain ⟨e1, e2⟩ := set_split hz x
    have hlo' : ∀ a ∈ xs.take k, key a ≠ key x := fun a ha e => by
      obtain ⟨j, hj, rfl⟩ := List.mem_iff_getElem.1 ha
      have hj2 : j < k := by simp at hj; omega
      have hj3 : j < xs.length := by simp at hj; omega
      rw [List.getElem_take] at e
      have := hlo j xs[j] hj2 (by simp)
      rw [(eqQ_key key cmp h0).2 e] at this; cases this
    rw [hk]
    show (xs.set k x).find? _ = _
    rw [e2, List.find?_append]
    split
    · rename_i hc
      have : (xs.take k).find? (fun y => decide (key y = c)) = none := List.find?_eq_none.2 fun a ha => by simp; rw [← hc]; exact hlo' a ha
      rw [this]; simp [List.find?_cons, hc]
    · rename_i hc
      have hc2 : ¬ key z = c := by rw [hzn]; exact hc
      conv => rhs; rw [e1, List.find?_append]
      simp [List.find?_cons, hc, hc2]
  · rename_i hf
    have hf' : findB (eqQ cmp x) xs = false := by simpa using hf
    have hno : ∀ z ∈ xs, key z ≠ key x := fun z hz e => by
      have := findB_none.1 hf' z hz
      rw [(eqQ_key key cmp h0).2 e] at this; cases this
    generalize (putI (gtQ cmp x) xs).toNat = k
    rw [List.find?_append]
    split
    · rename_i hc
      have : (xs.take k).find? (fun y => decide (key y = c)) = none := List.find?_eq_none.2 fun a ha => by simp; rw [← hc]; exact hno a (List.mem_of_mem_take ha)
      rw [this]; simp [List.find?_cons, hc]
    · rename_i hc
      conv => rhs; rw [← List.take_append_drop k xs, List.find?_append]
      simp [List.find?_cons, hc]
theorem put_mem (x : α) (xs : List α) : ∀ y ∈ putL cmp x xs, y = x ∨ y ∈ xs := by
  intro y hy
  unfold putL at hy
  split at hy
  · exact (List.mem_or_eq_of_mem_set hy).symm
  · rcases List.mem_append.1 hy with hy | hy
    · exact .inr (List.mem_of_mem_take hy)
    · rcases List.mem_cons.1 hy with rfl | hy
      · exact .inl rfl
      · exact .inr (List.mem_of_mem_drop hy)
theorem put_len (x : α) (xs : List α) : (putL cmp x xs).length = if findB (eqQ cmp x) xs = true then xs.length else xs.length + 1 := by
  unfold putL
  split
  · simp
  · obtain ⟨k, hk, hle⟩ := putI_le (gtQ cmp x) xs
    simp [hk]; omega
theorem put_length (x : α) (xs : List α) : xs.length ≤ (putL cmp x xs).length ∧ (putL cmp x xs).length ≤ xs.length + 1 := by
  rw [put_len]; split <;> omega
/-- A thing that is found is replaced. -/
theorem put_set (h0 : ∀ y x, cmp y x = 0 ↔ key y = key x) (x : α) (xs : List α) (z : α) (h : xs.find? (fun y => decide (key y = key x)) = some z) : ∃ k : Nat, k < xs.length ∧ xs[k]? = some z ∧ putL cmp x xs = xs.set k x ∧ (∀ j y, j < k → xs[j]? = some y → key y ≠ key x) := by
  have hq : eqQ cmp x = fun y => decide (key y = key x) := by
    funext y; rw [Bool.eq_iff_iff]; rw [eqQ_key key cmp h0]; simp
  have hf : findB (eqQ cmp x) xs = true := by rw [findB_find, hq, h]; rfl
  obtain ⟨k, y, hk, hy, h3, h4⟩ := findB_first hf
  have hlt := (List.getElem?_eq_some_iff.1 hy).1
  have hzy : z = y := by
    obtain ⟨e1, _⟩ := set_split hy x
    have h5 : (xs.take k).find? (fun y => decide (key y = key x)) = none := List.find?_eq_none.2 fun a ha => by
      obtain ⟨j, hj, rfl⟩ := List.mem_iff_getElem.1 ha
      have hj2 : j < k := by simp at hj; omega
      have hj3 : j < xs.length := by simp at hj; omega
      rw [List.getElem_take]
      have := h4 j xs[j] hj2 (by simp)
      rw [hq] at this; simpa using this
    rw [hq] at h3
    rw [e1, List.find?_append, h5] at h
    simp only [decide_eq_true_eq] at h3
    simp [List.find?_cons, h3] at h
    exact h.symm
  subst hzy
  refine ⟨k, hlt, hy, by rw [putL, if_pos hf, hk]; rfl, fun j y hj hy e => ?_⟩
  have := h4 j y hj hy
  rw [(eqQ_key key cmp h0).2 e] at this; cases this
end
section
variable {α : Type} (key : α → ByteArray) (cmp : α → α → Int)
def UpK (xs : List α) : Prop := xs.Pairwise fun a b => slt (key a) (key b) = true
theorem put_up (hc : ∀ a b, cmp a b = cmpS (key a) (key b)) {x : α} {xs : List α} (h : UpK key xs) : UpK key (putL cmp x xs) := by
  have h0 : ∀ y x, cmp y x = 0 ↔ key y = key x := fun y x => by rw [hc]; exact cmpS_eq
  have hgt : ∀ y, gtQ cmp x y = true ↔ slt (key x) (key y) = true := fun y => by unfold gtQ; rw [hc, decide_eq_true_eq]; exact cmpS_gt
  unfold putL
  split
  · rename_i hf
    obtain ⟨k, z, hk, hz, hq, _⟩ := findB_first hf
    have hn : key z = key x := (eqQ_key key cmp h0).1 hq
    obtain ⟨hlt, rfl⟩ := List.getElem?_eq_some_iff.1 hz
    rw [hk]
    show UpK key (xs.set k x)
    refine List.pairwise_iff_getElem.2 fun i j hi hj hij => ?_
    have hi' : i < xs.length := by simpa using hi
    have hj' : j < xs.length := by simpa using hj
    have hb := List.pairwise_iff_getElem.1 h i j hi' hj' hij
    rw [List.getElem_set, List.getElem_set]
    split <;> split
    · omega
    · rename_i e _; subst e; rw [← hn]; exact hb
    · rename_i _ e; subst e; rw [← hn]; exact hb
    · exact hb
  · rename_i hf
    have hf' : findB (eqQ cmp x) xs = false := by simpa using hf
    have hno : ∀ z ∈ xs, key z ≠ key x := fun z hz e => by
      have := findB_none.1 hf' z hz
      rw [(eqQ_key key cmp h0).2 e] at this; cases this
    obtain ⟨k, hk, hkn, hlo, hhi⟩ := putI_spec (gtQ cmp x) xs
    rw [hk]
    show UpK key (xs.take k ++ x :: xs.drop k)
    have hlo' : ∀ a ∈ xs.take k, slt (key a) (key x) = true := fun a ha => by
      obtain ⟨j, hj, rfl⟩ := List.mem_iff_getElem.1 ha
      have hj2 : j < k := by simp at hj; omega
      have hj3 : j < xs.length := by simp at hj; omega
      rw [List.getElem_take]
      have h1 := hlo j xs[j] hj2 (by simp)
      cases h4 : slt (key xs[j]) (key x) with
      | true => rfl
      | false =>
        cases h5 : slt (key x) (key xs[j]) with
        | true => rw [(hgt _).2 h5] at h1; cases h1
        | false => exact absurd (slt_total h4 h5) (hno _ (List.getElem_mem hj3))
    have hhi' : ∀ b ∈ xs.drop k, slt (key x) (key b) = true := fun b hb => by
      obtain ⟨j, hj, rfl⟩ := List.mem_iff_getElem.1 hb
      have hj3 : k + j < xs.length := by simp at hj; omega
      have hk3 : k < xs.length := by omega
      rw [List.getElem_drop]
      have h1 := (hgt _).1 (hhi xs[k] (by simp))
      cases j with
      | zero => exact h1
      | succ j => exact slt_trans h1 (List.pairwise_iff_getElem.1 h k (k + (j + 1)) hk3 hj3 (by omega))
    refine List.pairwise_append.2 ⟨h.sublist (List.take_sublist _ _), List.pairwise_cons.2 ⟨hhi', h.sublist (List.drop_sublist _ _)⟩, fun a ha b hb => ?_⟩
    rcases List.mem_cons.1 hb with rfl | hb
    · exact hlo' a ha
    · exact slt_trans (hlo' a ha) (hhi' b hb)
end

/-! ### Houses -/
def zoneCmp (a b : Zone) : Int := cmpS a.code b.code
def binCmp (a b : Bin) : Int := cmpS a.code b.code
theorem item0 (y x : Item) : itemCmp y x = 0 ↔ y.code = x.code := cmpS_eq
theorem zone0 (y x : Zone) : zoneCmp y x = 0 ↔ y.code = x.code := cmpS_eq
theorem bin0 (y x : Bin) : binCmp y x = 0 ↔ y.code = x.code := cmpS_eq
theorem lot0 (y x : Lot) : lotCmp y x = 0 ↔ (y.item, y.code) = (x.item, x.code) := by rw [lotCmp_eq, Prod.mk.injEq]
def Zone.zero : Zone := ⟨⟨#[]⟩, ⟨#[]⟩⟩
def Bin.zero : Bin := ⟨⟨#[]⟩, ⟨#[]⟩, 0, 0, 0, 0, 0, false⟩
def House.zone? (h : House) (c : Str) : Option Zone := h.zones.xs.find? fun y => decide (y.code = c)
def House.bin? (h : House) (c : Str) : Option Bin := h.bins.xs.find? fun y => decide (y.code = c)
def zoneOut (o : Option Zone) : PV := .tup [.agg (o.getD Zone.zero).enc, .v (.bool o.isSome)]
def binOut (o : Option Bin) : PV := .tup [.agg (o.getD Bin.zero).enc, .v (.bool o.isSome)]
def House.withItem (h : House) (x : Item) : House := { h with items := ⟨putL itemCmp x h.items.xs, []⟩ }
def House.withLot (h : House) (x : Lot) : House := { h with lots := ⟨putL lotCmp x h.lots.xs, []⟩ }
def House.withZone (h : House) (x : Zone) : House := { h with zones := ⟨putL zoneCmp x h.zones.xs, []⟩ }
def House.withBin (h : House) (x : Bin) : House := { h with bins := ⟨putL binCmp x h.bins.xs, []⟩ }
theorem item_with (h : House) (x : Item) (c : Str) : (h.withItem x).item? c = if x.code = c then some x else h.item? c := find_put Item.code itemCmp item0 x h.items.xs c
theorem zone_with (h : House) (x : Zone) (c : Str) : (h.withZone x).zone? c = if x.code = c then some x else h.zone? c := find_put Zone.code zoneCmp zone0 x h.zones.xs c
theorem bin_with (h : House) (x : Bin) (c : Str) : (h.withBin x).bin? c = if x.code = c then some x else h.bin? c := find_put Bin.code binCmp bin0 x h.bins.xs c
theorem lotQ (i c : Str) : (fun y : Lot => decide (y.item = i) && decide (y.code = c)) = fun y => decide ((y.item, y.code) = (i, c)) := by
  funext y
  rw [Bool.eq_iff_iff]
  simp
theorem lot_with (h : House) (x : Lot) (i c : Str) : (h.withLot x).lot? i c = if x.item = i ∧ x.code = c then some x else h.lot? i c := by
  have := find_put (fun y : Lot => (y.item, y.code)) lotCmp lot0 x h.lots.xs (i, c)
  simp only [House.lot?, lotQ, House.withLot]
  rw [this]
  simp only [Prod.mk.injEq]
end Go.Fw
