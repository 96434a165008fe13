/-
  An operation of the model does what the abstract one does.
-/
import Derived.Test.YtikgpjnfifnilaaFwJ
set_option linter.unusedVariables false
set_option linter.unusedSimpArgs false
namespace Go.Fw
open Go.RowKit

def GoodN (F : Fz) (m : Mp) (B d : Nat) (w : World) (e : Eff) (r : Result Next) : Prop :=
  ∃ v w', r = .ok (.value v) w' ∧ ((e.new = none ∧ w' = w ∧ RepT F m e.v v) ∨
    ∃ x obj c, e.new = some x ∧ w' = w.alloc obj ∧ RepT F (upd m d (some w.heap.size, c)) e.v v ∧ OwnOk F (w.alloc obj) B (some w.heap.size, c) x)

section
variable {P : Program} {B nt d : Nat} {w0 : World} {F0 : Fz} {s : St} {a : Act} {w : World} {F : Fz} {m : Mp} {ns : List Nat}

theorem GoodN.of {e : Eff} {c : Sem Value} (h : Good F m B d w e (c.run P w)) : GoodN F m B d w e ((do pure (Next.value (← c)) : Sem Next).run P w) := by
  obtain ⟨v, w', hr, h⟩ := h
  exact ⟨v, w', by simp [hr], h⟩

theorem exec_good {o : Oper} {k : Kd} {xs : List Operand} (hk : trKd P o.op = some (k, xs)) (hB : B ≤ w.heap.size) (hf : FzIn w F) {as : List RA} (ha : ArgsOk F w m ns as (xs.map a.eval)) {e : Eff} (he : sem k d as = some e)
    (hns : ∀ n ∈ e.frz, n ∈ ns) : GoodN F m B d w e ((execOp a.eval o).run P w) := by
  unfold execOp
  cases hop : o.op <;> rw [hop] at hk <;> simp only
  case move x => cases hk; exact .of (c := pure (a.eval x)) (ex_mv ha he)
  case assign x => cases hk; exact .of (c := pure (a.eval x)) (ex_mv ha he)
  case pick c x y =>
    cases hk
    obtain ⟨b, hb, hr, hn⟩ := ex_pick ha he
    exact ⟨_, w, by simp [hb, asBool], .inl ⟨hn, rfl, hr⟩⟩
  case alloc e => exact .of (ex_alloc hB hf hk he)
  case box t x => cases hk; exact .of (ex_box hB hf ha he hns)
  case build t parts => exact .of (ex_build hf hk ha he hns)
  case buildSlice t n parts => exact .of (ex_bsl hB hf hk ha he hns)
  case load t x => exact .of (ex_load hf hk ha he)
  case store t x y => simp only [trKd] at hk; split at hk <;> cases hk; cases he
  case binOp op t x y yt =>
    simp only [trKd] at hk
    split at hk
    · cases hk; exact .of (ex_bin ha he)
    · cases hk; exact .of (ex_bin ha he)
    · rename_i hu
      split at hk <;> cases hk
      · exact .of (ex_beq (neg := false) rfl hu ha he)
      · exact .of (ex_beq (neg := true) rfl hu ha he)
    · rename_i td _ _ _ hu
      split at hk
      · rename_i hc
        simp only [Bool.and_eq_true, Bool.not_eq_true'] at hc
        simp only [Option.bind_eq_some_iff] at hk
        obtain ⟨ks, hks, hk⟩ := hk
        split at hk <;> cases hk
        · exact .of (ex_eqs (neg := false) rfl hu hc.1 hc.2 hks ha he)
        · exact .of (ex_eqs (neg := true) rfl hu hc.1 hc.2 hks ha he)
      · cases hk
    · cases hk
  case unOp op t x => cases hk; exact .of (ex_un ha he)
  case convert src dst x => exact .of (ex_conv hk ha he)
  case makeFunc fn first caps =>
    cases fn <;> simp only [trKd] at hk <;> first | (cases hk; done) | skip
    split at hk
    · rename_i hfirst
      cases hk
      have : first = #[] := by simpa using hfirst
      subst this
      exact .of (c := Instr.makeFunc _ (#[].map a.eval) (caps.map a.eval)) (by simpa using ex_mkf ha he hns)
    · cases hk
  case slice t x lo hi mx =>
    simp only [trKd] at hk
    split at hk
    · cases hk
    · rename_i hmx
      have : mx = none := by simpa using hmx
      subst this
      split at hk
      · rename_i hu
        split at hk
        · rename_i hi; cases hk; exact .of (ex_slc hu hi ha he hns)
        · cases hk
      · rename_i hu; cases hk; exact .of (ex_sstr hu ha he)
      · rename_i n el hu
        split at hk
        · rename_i hi; cases hk; exact .of (ex_sarr hu hi.1 hi.2 ha he hns)
        · cases hk
      · cases hk
  case fieldAddr t x fi => exact .of (ex_fad hk ha hf he)
  case field t x fi => exact .of (ex_fld hk ha he)
  case indexAddr t x i => exact .of (ex_iad hf hk ha he)
  case index t x i => exact .of (ex_idx hk ha he)
  case extract x i => cases hk; exact .of (ex_ext ha he)
  case makeSlice t l c => exact .of (ex_mks hB hf hk ha he)
  case makeMap t r =>
    cases r <;> simp only [trKd] at hk
    · split at hk <;> cases hk
      exact .of (ex_mkmap hB hf he)
    · cases hk
  case lookup t x i ok =>
    simp only [trKd] at hk
    split at hk
    · rename_i hu
      split at hk
      · rename_i hku
        simp only [Option.map_eq_some_iff] at hk
        obtain ⟨z, hz, hk⟩ := hk
        cases hk
        exact .of (ex_look hu hku hz ha he)
      · cases hk
    · cases hk
  case mapUpdate t x i v =>
    simp only [trKd] at hk
    split at hk
    · split at hk
      · cases hk; cases he
      · cases hk
    · cases hk
  case call c =>
    obtain ⟨callee, args, argTypes⟩ := c
    cases callee with
    | value f =>
      cases f <;> simp only [trKd] at hk
      case func f => split at hk <;> cases hk; cases he
      all_goals (cases hk; cases he)
    | invoke r m => cases hk
    | builtin b =>
      cases b <;> simp only [trKd] at hk <;> first | (cases hk; done) | skip
      case append =>
        split at hk
        · split at hk
          · split at hk
            · split at hk
              · split at hk
                · split at hk
                  · cases hk; cases he
                  · cases hk
                · cases hk
              · cases hk
            · cases hk
          · cases hk
        · cases hk
      case delete =>
        split at hk
        · split at hk
          · split at hk
            · cases hk; cases he
            · cases hk
          · cases hk
        · cases hk
      case max =>
        split at hk
        · rename_i x y h1
          cases hk
          have e1 : args = #[x, y] := by rw [← Array.toArray_toList (xs := args), h1]
          subst e1
          have run1 : ∀ {c : Sem Value} {r : Sem Next}, r = (do pure (Next.value (← c))) → Good F m B d w e (c.run P w) → GoodN F m B d w e (r.run P w) := fun hr h => by rw [hr]; exact .of h
          have hres : ∀ ty, ((do let dd ← resolve a.eval { callee := Callee.builtin Builtin.max, args := #[x, y], argTypes := argTypes } ty; invoke dd.target dd.args) : Sem Next) = (do pure (Next.value (← Builtin.max_ argTypes ty #[a.eval x, a.eval y]))) := fun ty => by
            simp [resolve, invoke, builtin]
          rw [hres]
          exact .of (ex_max ha he)
        · cases hk
      case len =>
        split at hk
        · rename_i x t h1 h2
          have e1 : args = #[x] := by rw [← Array.toArray_toList (xs := args), h1]
          have e2 : argTypes = #[t] := by rw [← Array.toArray_toList (xs := argTypes), h2]
          subst e1; subst e2
          have run1 : ∀ {c : Sem Value} {r : Sem Next}, r = (do pure (Next.value (← c))) → Good F m B d w e (c.run P w) → GoodN F m B d w e (r.run P w) := fun hr h => by rw [hr]; exact .of h
          have hres : ∀ ty, ((do let dd ← resolve a.eval { callee := Callee.builtin Builtin.len, args := #[x], argTypes := #[t] } ty; invoke dd.target dd.args) : Sem Next) = (do pure (Next.value (← Builtin.len_ #[t] ty #[a.eval x]))) := fun ty => by
            simp [resolve, invoke, builtin]
          rw [hres]
          split at hk
          · rename_i hu; cases hk; exact .of (ex_len (c := 1) hu ha he)
          · rename_i el hu; cases hk; exact .of (ex_len (c := 0) ⟨el, hu⟩ ha he)
          · rename_i kt et hu; cases hk; exact .of (ex_len (c := 2) ⟨kt, et, hu⟩ ha he)
          · cases hk
        · cases hk
  all_goals (simp only [trKd] at hk; first | (cases hk; done) | skip)

end
end Go.Fw
