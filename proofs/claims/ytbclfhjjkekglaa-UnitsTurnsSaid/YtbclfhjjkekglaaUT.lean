/-
  Units: what base units are as units, by the document.
-/
import Derived.Test.YtbclfhjjkekglaaUS
import Derived.Test.YtbclfhjjkekglaaIrC
set_option linter.unusedVariables false
set_option linter.unusedSimpArgs false
set_option maxRecDepth 10000
namespace Go.Fw
open Go.Proofs

theorem r_max {P : Program} {Q : Ex → St → Prop} {ks : List Kf} {rs : List RG} {l : List (Nat × T)} {m : List (Nat × Option Own)} {d : Nat} {x y : Opd} {a b : Int} (hx : (S l m).ev x = .p (.v (.int .i64 a))) (hy : (S l m).ev y = .p (.v (.int .i64 b)))
    (h : RunR P Q ks rs (S ((d, .p (.v (.int .i64 (max a b)))) :: l) m)) : RunR P Q ks (⟨some d, .bmax, [x, y], none⟩ :: rs) (S l m) :=
  r_sem («as» := [.p (.v (.int .i64 a)), .p (.v (.int .i64 b))]) rfl (by simp only [St.resL, St.res, hx, hy, lookT]; rfl) rfl rfl h

/-! ### Which unit is taken -/
def vB (u : U) : Bool := (!decide (u.name = ⟨#[]⟩) && !decide (u.name = eachB)) && decide (2 ≤ u.f)
def twQ (u v : U) : Bool := decide (v.name = u.name) && decide (2 ≤ v.f)
/-- A unit counts: it is one, and the first of its name. -/
def cnt (us : List U) (i : Nat) : Bool := match us[i]? with
  | some u => vB u && !(us.take i).any (twQ u)
  | none => false
def cand (us : List U) (used : List Bool) (i : Nat) : Bool := cnt us i && !used.getD i true
def facAt (us : List U) (i : Nat) : Int := match us[i]? with | some u => u.f | none => 0
/-- The place that is taken, of the first ones. -/
def pickA (us : List U) (used : List Bool) : Nat → Int
  | 0 => -1
  | i + 1 => if cand us used i && (decide (pickA us used i < 0) || decide (facAt us (pickA us used i).toNat < facAt us i)) then (i : Int) else pickA us used i
theorem pickA_spec (us : List U) (used : List Bool) : ∀ i, (pickA us used i = -1 ∧ ∀ j < i, cand us used j = false) ∨ (∃ a : Nat, pickA us used i = a ∧ a < i ∧ cand us used a = true ∧ (∀ j < a, cand us used j = true → facAt us j < facAt us a) ∧ (∀ j < i, a < j → cand us used j = true → facAt us j ≤ facAt us a))
  | 0 => .inl ⟨rfl, fun j hj => by omega⟩
  | i + 1 => by
    rcases pickA_spec us used i with ⟨h1, h2⟩ | ⟨a, h1, h2, h3, h4, h5⟩
    · cases hc : cand us used i with
      | true =>
        right
        refine ⟨i, by simp [pickA, hc, h1], by omega, hc, fun j hj h => ?_, fun j hj hij => by omega⟩
        rw [h2 j hj] at h; cases h
      | false =>
        left
        refine ⟨by simp [pickA, hc, h1], fun j hj => ?_⟩
        rcases Nat.lt_or_ge j i with h | h
        · exact h2 j h
        · obtain rfl : j = i := by omega
          exact hc
    · by_cases hc : cand us used i = true ∧ facAt us a < facAt us i
      · right
        refine ⟨i, by simp [pickA, hc.1, h1, hc.2], by omega, hc.1, fun j hj h => ?_, fun j hj hij => by omega⟩
        rcases Nat.lt_trichotomy j a with h' | h' | h'
        · have := h4 j h' h; omega
        · subst h'; exact hc.2
        · have := h5 j hj h' h; omega
      · right
        refine ⟨a, ?_, by omega, h3, h4, fun j hj hij h => ?_⟩
        · rw [pickA, h1]
          have h0 : decide ((a : Int) < 0) = false := decide_eq_false (by omega)
          rw [h0, Bool.false_or, Int.toNat_natCast, if_neg]
          intro hb
          simp only [Bool.and_eq_true, decide_eq_true_eq] at hb
          exact hc hb
        · rcases Nat.lt_or_ge j i with h' | h'
          · exact h5 j h' hij h
          · obtain rfl : j = i := by omega
            exact Int.not_lt.1 fun e => hc ⟨h, e⟩
/-- What is left. -/
def remI (us : List U) (used : List Bool) : List Nat := (List.range us.length).filter (cand us used)
def rem (us : List U) (used : List Bool) : List U := (remI us used).filterMap fun i => us[i]?
theorem filterMap_append' {α β : Type} (f : α → Option β) (a b : List α) : (a ++ b).filterMap f = a.filterMap f ++ b.filterMap f := List.filterMap_append
theorem range_split {n a : Nat} (h : a < n) : List.range n = List.range a ++ a :: (List.range' (a + 1) (n - a - 1)) := by
  rw [List.range_eq_range', List.range_eq_range']
  have e : n = a + (1 + (n - a - 1)) := by omega
  conv => lhs; rw [e, ← List.range'_append_1, Nat.zero_add]
  rw [Nat.add_comm 1, List.range'_succ]
theorem cand_set (us : List U) (used : List Bool) (a j : Nat) (ha : a < used.length) : cand us (used.set a true) j = (cand us used j && !decide (j = a)) := by
  unfold cand
  by_cases h : j = a
  · subst h
    simp [List.getD, ha]
  · have : (used.set a true).getD j true = used.getD j true := by simp [List.getD, List.getElem?_set_ne (Ne.symm h)]
    rw [this]; simp [h]
theorem rem_none {us : List U} {used : List Bool} (h : ∀ j < us.length, cand us used j = false) : rem us used = [] := by
  have : remI us used = [] := List.filter_eq_nil_iff.2 fun j hj => by simp [h j (List.mem_range.1 hj)]
  rw [rem, this]; rfl
theorem rem_take {us : List U} {used : List Bool} {a : Nat} {u : U} (ha : a < us.length) (hl : a < used.length) (hu : us[a]? = some u) (hc : cand us used a = true) (h1 : ∀ j < a, cand us used j = true → facAt us j < facAt us a) (h2 : ∀ j < us.length, a < j → cand us used j = true → facAt us j ≤ facAt us a) :
    srt (rem us used) = u :: srt (rem us (used.set a true)) ∧ (remI us (used.set a true)).length + 1 = (remI us used).length := by
  have hfa : facAt us a = u.f := by simp [facAt, hu]
  obtain ⟨A, hA⟩ : ∃ A, A = (List.range a).filter (cand us used) := ⟨_, rfl⟩
  obtain ⟨B, hB⟩ : ∃ B, B = (List.range' (a + 1) (us.length - a - 1)).filter (cand us used) := ⟨_, rfl⟩
  have e1 : remI us used = A ++ a :: B := by
    rw [remI, range_split ha, List.filter_append, List.filter_cons_of_pos hc, hA, hB]
  have e2 : remI us (used.set a true) = A ++ B := by
    rw [remI, range_split ha, List.filter_append, List.filter_cons_of_neg (by rw [cand_set us used a a hl]; simp), hA, hB]
    congr 1
    · refine List.filter_congr fun j hj => ?_
      rw [cand_set us used a j hl]
      have := List.mem_range.1 hj
      simp [show j ≠ a by omega]
    · refine List.filter_congr fun j hj => ?_
      rw [cand_set us used a j hl]
      have := (List.mem_range'_1.1 hj).1
      simp [show j ≠ a by omega]
  refine ⟨?_, by rw [e1, e2]; simp; omega⟩
  rw [rem, rem, e1, e2, List.filterMap_append, List.filterMap_append, List.filterMap_cons_some hu]
  refine isort_select gtF (fun v hv => ?_) fun v hv => ?_
  · obtain ⟨j, hj, hjv⟩ := List.mem_filterMap.1 hv
    rw [hA] at hj
    obtain ⟨hj1, hj2⟩ := List.mem_filter.1 hj
    have := h1 j (List.mem_range.1 hj1) hj2
    rw [hfa] at this
    simp only [facAt, hjv] at this
    exact decide_eq_true this
  · obtain ⟨j, hj, hjv⟩ := List.mem_filterMap.1 hv
    rw [hB] at hj
    obtain ⟨hj1, hj2⟩ := List.mem_filter.1 hj
    have hjl := (List.getElem?_eq_some_iff.1 hjv).1
    have := h2 j hjl (List.mem_range'_1.1 hj1).1 hj2
    rw [hfa] at this
    simp only [facAt, hjv] at this
    exact decide_eq_false (by omega)
/-- Those that count are those that are known. -/
theorem knownTo_rem : ∀ (us : List U), knownTo us = rem us (List.replicate us.length false) := by
  intro us
  have key : ∀ i, i ≤ us.length → knownTo (us.take i) = ((List.range i).filter (cnt us)).filterMap fun j => us[j]? := by
    intro i
    induction i with
    | zero => intro _; simp [knownTo]
    | succ i ih =>
      intro hi
      have hlt : i < us.length := hi
      rw [knownTo_succ us i hlt, ih (by omega), List.range_succ, List.filter_append, List.filterMap_append]
      rw [← ih (by omega)]
      have hget : us[i]? = some us[i] := List.getElem?_eq_getElem hlt
      have hany : us[i].name ≠ ⟨#[]⟩ → us[i].name ≠ eachB → hasB us[i].name (knownTo (us.take i)) = (us.take i).any (twQ us[i]) := by
        intro hn1 hn2
        have hk := known_find us[i].name (us.take i) []
        simp only [List.find?_nil, Option.none_or, if_neg hn2] at hk
        have e1 : hasB us[i].name (knownTo (us.take i)) = ((knownTo (us.take i)).find? (nmQ us[i].name)).isSome := by
          unfold hasB
          cases hf : (knownTo (us.take i)).find? (nmQ us[i].name) with
          | none =>
            have h3 := List.find?_eq_none.1 hf
            exact decide_eq_false (by rw [Int.not_le, firstI_neg]; intro x hx; simpa using h3 x hx)
          | some v =>
            have h3 := List.find?_some hf
            have h4 := List.mem_of_find?_eq_some hf
            refine decide_eq_true (Int.not_lt.1 fun h5 => ?_)
            rw [firstI_neg.1 h5 v h4] at h3; cases h3
        rw [e1, show (knownTo (us.take i)).find? (nmQ us[i].name) = (us.take i).find? (fcQ us[i].name) from hk]
        rw [Bool.eq_iff_iff, List.find?_isSome, List.any_eq_true]
        constructor
        · rintro ⟨v, hv, h3⟩
          simp only [fcQ, Bool.and_eq_true, decide_eq_true_eq] at h3
          exact ⟨v, hv, by simp [twQ, h3.1.2, h3.2]⟩
        · rintro ⟨v, hv, h3⟩
          simp only [twQ, Bool.and_eq_true, decide_eq_true_eq] at h3
          exact ⟨v, hv, by simp [fcQ, h3.1, h3.2, hn1]⟩
      cases hc : cnt us i with
      | true =>
        rw [List.filter_cons_of_pos hc, List.filter_nil, List.filterMap_cons_some hget, List.filterMap_nil]
        simp only [cnt, hget, vB, Bool.and_eq_true, Bool.not_eq_true', decide_eq_true_eq, decide_eq_false_iff_not] at hc
        obtain ⟨⟨⟨h1, h2⟩, h3⟩, h4⟩ := hc
        unfold kstep
        rw [if_pos]
        rw [decide_eq_false h2, hany h1 h2, h4, decide_eq_false h1, decide_eq_true h3]; rfl
      | false =>
        rw [List.filter_cons_of_neg (by rw [hc]; exact Bool.false_ne_true), List.filter_nil, List.filterMap_nil, List.append_nil]
        rcases kstep_cases (knownTo (us.take i)) us[i] with e | ⟨e, h3, h2, h1, h4⟩
        · exact e
        · exfalso
          rw [hany h1 h2] at h4
          simp only [cnt, hget, vB, h4, decide_eq_false h1, decide_eq_false h2, decide_eq_true h3] at hc
          cases hc
  have := key us.length (Nat.le_refl _)
  rw [List.take_length] at this
  rw [this, rem, remI]
  congr 1
  refine List.filter_congr fun j hj => ?_
  have hjl := List.mem_range.1 hj
  unfold cand
  simp [List.getD, hjl]
end Go.Fw
