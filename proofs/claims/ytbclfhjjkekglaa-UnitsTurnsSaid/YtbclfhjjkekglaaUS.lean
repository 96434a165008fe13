/-
  Units: sorting by factors, the greatest first, takes out the first greatest one, again and again; plain facts.
-/
import Derived.Test.YtbclfhjjkekglaaUE
set_option linter.unusedVariables false
set_option linter.unusedSimpArgs false
set_option maxRecDepth 10000
namespace Go.Fw
open Go.Proofs

section
variable {α : Type} (lt : α → α → Bool)
theorem insJ_cons {x m : α} {q : List α} (h : lt x m = false) : ∀ j, insJ lt x (m :: q) (j + 1) = insJ lt x q j + 1
  | 0 => by simp [insJ, h]
  | j + 1 => by
    have ih := insJ_cons h (q := q) j
    show (match (m :: q)[j + 1]? with | some y => if lt x y = true then insJ lt x (m :: q) (j + 1) else j + 1 + 1 | none => j + 1 + 1) = (match q[j]? with | some y => if lt x y = true then insJ lt x q j else j + 1 | none => j + 1) + 1
    rw [List.getElem?_cons_succ, ih]
    cases hq : q[j]? with
    | none => rfl
    | some y =>
      simp only
      split <;> rfl
theorem insL_cons {x m : α} {q : List α} (h : lt x m = false) : insL lt (m :: q) x = m :: insL lt q x := by
  unfold insL
  rw [List.length_cons, insJ_cons lt h]
  simp
theorem insJ_zero {m : α} {p : List α} (h : ∀ y ∈ p, lt m y = true) : ∀ j, j ≤ p.length → insJ lt m p j = 0
  | 0, _ => rfl
  | j + 1, hj => by
    rw [insJ, List.getElem?_eq_getElem (by omega)]
    simp only
    rw [if_pos (h _ (List.getElem_mem _))]
    exact insJ_zero h j (by omega)
theorem insL_front {m : α} {p : List α} (h : ∀ y ∈ p, lt m y = true) : insL lt p m = m :: p := by
  unfold insL
  rw [insJ_zero lt h _ (Nat.le_refl _)]; rfl
theorem insJ_stay {x : α} {p : List α} (h : ∀ y ∈ p, lt x y = false) : insJ lt x p p.length = p.length := by
  cases hp : p.length with
  | zero => rfl
  | succ n =>
    rw [insJ, List.getElem?_eq_getElem (by omega)]
    simp only
    rw [if_neg (by rw [h _ (List.getElem_mem _)]; exact Bool.false_ne_true)]
theorem insL_back {x : α} {p : List α} (h : ∀ y ∈ p, lt x y = false) : insL lt p x = p ++ [x] := by
  unfold insL
  rw [insJ_stay lt h]; simp
theorem foldl_ins_cons {m : α} : ∀ {B q : List α}, (∀ b ∈ B, lt b m = false) → B.foldl (insL lt) (m :: q) = m :: B.foldl (insL lt) q
  | [], _, _ => rfl
  | b :: B, q, h => by
    rw [List.foldl_cons, List.foldl_cons, insL_cons lt (h b (by simp))]
    exact foldl_ins_cons fun c hc => h c (by simp [hc])
theorem isort_append (A B : List α) : isort lt (A ++ B) = B.foldl (insL lt) (isort lt A) := by rw [isort, List.foldl_append]; rfl
theorem isort_select {A B : List α} {m : α} (hA : ∀ a ∈ A, lt m a = true) (hB : ∀ b ∈ B, lt b m = false) : isort lt (A ++ m :: B) = m :: isort lt (A ++ B) := by
  rw [isort_append, List.foldl_cons, insL_front lt fun y hy => hA y ((isort_perm lt A).mem_iff.1 hy), foldl_ins_cons lt hB, ← isort_append]
theorem isort_last {K : List α} {e : α} (h : ∀ y ∈ K, lt e y = false) : isort lt (K ++ [e]) = isort lt K ++ [e] := by
  rw [isort_append, List.foldl_cons, List.foldl_nil, insL_back lt fun y hy => h y ((isort_perm lt K).mem_iff.1 hy)]
variable (lt' : α → α → Bool)
theorem insJ_same {x : α} {p : List α} (h : ∀ y ∈ p, lt x y = lt' x y) : ∀ j, insJ lt x p j = insJ lt' x p j
  | 0 => rfl
  | j + 1 => by
    rw [insJ, insJ]
    cases hq : p[j]? with
    | none => rfl
    | some y =>
      simp only
      rw [h y (List.mem_of_getElem? hq), insJ_same h j]
theorem foldl_same2 : ∀ {l p : List α}, (∀ x ∈ l, ∀ y, (y ∈ p ∨ y ∈ l) → lt x y = lt' x y) → l.foldl (insL lt) p = l.foldl (insL lt') p
  | [], _, _ => rfl
  | x :: l, p, h => by
    have e : insL lt p x = insL lt' p x := by
      unfold insL
      rw [insJ_same lt lt' fun y hy => h x (by simp) y (.inl hy)]
    rw [List.foldl_cons, List.foldl_cons, e]
    refine foldl_same2 fun a ha y hy => h a (by simp [ha]) y ?_
    rcases hy with hy | hy
    · rcases List.mem_cons.1 ((insL_perm lt' p x).mem_iff.1 hy) with rfl | hy
      · exact .inr (by simp)
      · exact .inl hy
    · exact .inr (by simp [hy])
theorem isort_same {l : List α} (h : ∀ x ∈ l, ∀ y ∈ l, lt x y = lt' x y) : isort lt l = isort lt' l :=
  foldl_same2 lt lt' fun x hx y hy => by
    rcases hy with hy | hy
    · simp at hy
    · exact h x hx y hy
end
def gtF (a b : U) : Bool := decide (b.f < a.f)
def srt (l : List U) : List U := isort gtF l
theorem byF_gt {a b : U} (ha : 1 ≤ a.f ∧ a.f ≤ 9223372036854775807) (hb : 1 ≤ b.f ∧ b.f ≤ 9223372036854775807) : decide (byF a b < 0) = gtF a b := by
  unfold byF gtF
  rw [wrap_id ⟨by omega, by omega⟩, decide_eq_decide]
  omega
/-- All factors are numbers of the machine. -/
def Fits (l : List U) : Prop := ∀ u ∈ l, u.f ≤ 9223372036854775807
theorem knownTo_sub (l : List U) : ∀ u ∈ knownTo l, u ∈ l := by
  have key : ∀ (l out : List U), ∀ u ∈ l.foldl kstep out, u ∈ out ∨ u ∈ l := by
    intro l
    induction l with
    | nil => intro out u hu; exact .inl hu
    | cons x l ih =>
      intro out u hu
      rcases ih _ u hu with h | h
      · rcases kstep_cases out x with e | ⟨e, _⟩
        · rw [e] at h; exact .inl h
        · rw [e] at h
          rcases List.mem_append.1 h with h | h
          · exact .inl h
          · simp at h; exact .inr (by simp [h])
      · exact .inr (by simp [h])
  intro u hu
  rcases key l [] u hu with h | h
  · simp at h
  · exact h
theorem sorted_known {l : List U} (hf : Fits l) : sorted (known l) = srt (knownTo l) ++ [eachU] := by
  have h1 : ∀ u ∈ known l, 1 ≤ u.f ∧ u.f ≤ 9223372036854775807 := fun u hu => ⟨known_f l u hu, by
    rcases List.mem_append.1 hu with hu | hu
    · exact hf u (knownTo_sub l u hu)
    · simp at hu; subst hu; decide⟩
  unfold sorted
  rw [isort_same _ gtF fun x hx y hy => byF_gt (h1 x hx) (h1 y hy), known, isort_last gtF]
  · rfl
  · intro y hy
    have := ((knownTo_good l).1 y hy).1
    unfold gtF
    exact decide_eq_false (by simp only [eachU]; omega)
theorem split_srt {x : It} {b : Int} (hf : Fits x.us) : split x b = (if 1 ≤ ((srt (knownTo x.us)).foldl sstep ([], b)).2 then ((srt (knownTo x.us)).foldl sstep ([], b)).1 ++ [⟨eachB, ((srt (knownTo x.us)).foldl sstep ([], b)).2⟩] else ((srt (knownTo x.us)).foldl sstep ([], b)).1) := by
  unfold split splitF
  rw [sorted_known hf, List.foldl_append, List.foldl_cons, List.foldl_nil]
  generalize (srt (knownTo x.us)).foldl sstep ([], b) = p
  unfold sstep
  simp only [eachU]
  by_cases h : 1 ≤ p.2 <;> simp [h]
end Go.Fw
