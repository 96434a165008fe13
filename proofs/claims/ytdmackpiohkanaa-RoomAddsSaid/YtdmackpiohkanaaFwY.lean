/-
  Typed cells as values of the abstract machine.
-/
import Derived.Test.YtdmackpiohkanaaFwX
set_option linter.unusedVariables false
set_option linter.unusedSimpArgs false
namespace Go.Fw
open Go.RowKit

/-- All that a world holds, taken as frozen. -/
def wF (w : World) : Fz := fun b o => w.cell? ⟨b, o, none⟩
theorem wF_in (w : World) : FzIn w (wF w) := fun b o y h => h

def PKOk : Ck → PV → Prop
  | .b, p => ∃ b, p = .v (.bool b)
  | .i k, p => ∃ n, p = .v (.int k n) ∧ k.min ≤ n ∧ n ≤ k.max
  | .s, p => ∃ s, p = .v (.string s)
inductive PRowOk : List Ck → List PV → Prop
  | nil : PRowOk [] []
  | cons {k : Ck} {ks : List Ck} {p : PV} {row : List PV} (h : PKOk k p) (t : PRowOk ks row) : PRowOk (k :: ks) (p :: row)
def PCellOk : CT → PV → Prop
  | .k k, p => PKOk k p
  | .sl ks, p => ∃ rows, p = .sl rows [] ∧ ∀ row ∈ rows, PRowOk ks row
inductive PCellsOk : List CT → List PV → Prop
  | nil : PCellsOk [] []
  | cons {ct : CT} {cts : List CT} {p : PV} {ps : List PV} (h : PCellOk ct p) (t : PCellsOk cts ps) : PCellsOk (ct :: cts) (p :: ps)

theorem KOk.one {k : Ck} {c : Value} (h : KOk k c) : c.oneCell' = true := by
  cases k <;> first | (obtain ⟨x, rfl⟩ := h; rfl) | (obtain ⟨x, rfl, _⟩ := h; rfl)
theorem KOk.pv {k : Ck} {c : Value} (h : KOk k c) : PKOk k (.v c) := by
  cases k <;> first | (obtain ⟨x, rfl⟩ := h; exact ⟨x, rfl⟩) | (obtain ⟨x, rfl, hr⟩ := h; exact ⟨x, rfl, hr⟩)
theorem RowOk.pv : ∀ {ks : List Ck} {row : List Value}, RowOk ks row → PRowOk ks (row.map .v) ∧ ∀ y ∈ row, y.oneCell' = true
  | [], row, h => by
    have := List.eq_nil_of_length_eq_zero h.1
    subst this
    exact ⟨.nil, by simp⟩
  | k :: ks, [], h => by have := h.1; simp at this
  | k :: ks, y :: row, h => by
    have h0 : KOk k y := h.2 0 k y rfl rfl
    have ht : RowOk ks row := ⟨by simpa using h.1, fun j k v a b => h.2 (j + 1) k v (by simpa using a) (by simpa using b)⟩
    obtain ⟨h1, h2⟩ := ht.pv
    refine ⟨.cons h0.pv h1, fun z hz => ?_⟩
    rcases List.mem_cons.1 hz with rfl | hz
    · exact h0.one
    · exact h2 z hz

theorem cell_rep {w : World} {ct : CT} {c : Value} (h : CellOk w ct c) : (∃ p, Rep (wF w) p c ∧ PCellOk ct p) ∧ c.oneCell' = true := by
  cases ct with
  | k k => exact ⟨⟨.v c, .v c, h.pv⟩, h.one⟩
  | sl ks =>
    obtain ⟨o, len, cap, rows, rfl, hlen, hlc, hcm, hrows, hcells⟩ := h
    refine ⟨⟨.sl (rows.map (·.map .v)) [], ?_, _, rfl, fun row hr => ?_⟩, rfl⟩
    · have hw : ∀ row ∈ rows, row.length = ks.length := fun row hr => (hrows row hr).1
      have hone : ∀ y ∈ rows.flatten, y.oneCell' = true := fun y hy => by
        obtain ⟨row, hr, hy⟩ := List.mem_flatten.1 hy
        exact ((hrows row hr).pv).2 y hy
      have hmap : (rows.map (·.map PV.v)).flatten = rows.flatten.map PV.v := by rw [List.map_flatten]
      by_cases hz : len = 0
      · have : rows = [] := List.eq_nil_of_length_eq_zero (by omega)
        subst this
        have := Rep.sl (F := wF w) [] [] 0 0 0 cap o [] (by simp) (by simp) hcm (by simp) (by simp) (by simp) (by simp) (by simp)
        simpa [hz] using this
      · obtain ⟨b, off, rfl, hc⟩ := hcells hz
        have := Rep.sl (F := wF w) (rows.map (·.map PV.v)) [] ks.length b off cap (some ⟨b, off, none⟩) rows.flatten ?_ (by simp; omega) hcm (fun _ => rfl) (by rw [List.append_nil, hmap, List.length_map]) hone ?_ ?_
        · simpa [hlen] using this
        · intro x hx
          simp only [List.append_nil, List.mem_map] at hx
          obtain ⟨row, hr, rfl⟩ := hx
          simp [hw row hr]
        · intro j y hy
          have hpos : 0 < ks.length := by
            cases hk : ks.length with
            | zero =>
              have := flatten_length hw
              have hj := (List.getElem?_eq_some_iff.1 hy).1
              rw [this, hk] at hj; simp at hj
            | succ n => omega
          have e1 : j = j / ks.length * ks.length + j % ks.length := by rw [Nat.mul_comm]; exact (Nat.div_add_mod _ _).symm
          have hlt : j % ks.length < ks.length := Nat.mod_lt _ hpos
          have hg := flatten_get hw (j / ks.length) (j % ks.length) hlt
          rw [← e1] at hg
          rw [hy] at hg
          cases hrow : rows[j / ks.length]? with
          | none => rw [hrow] at hg; cases hg
          | some row =>
            rw [hrow] at hg
            have := hc _ row hrow _ y hg.symm
            rw [← e1] at this
            exact this
        · intro j p y hp hy
          simp only [List.append_nil, hmap, List.getElem?_map] at hp
          rw [hy] at hp
          cases hp
          exact .v y
    · obtain ⟨row', hr', rfl⟩ := List.mem_map.1 hr
      exact (hrows row' hr').pv.1

theorem cells_rep {w : World} : ∀ {cts : List CT} {cs : List Value}, CellsOk w cts cs → (∃ ps, RepL (wF w) ps cs ∧ PCellsOk cts ps) ∧ ∀ y ∈ cs, y.oneCell' = true
  | [], cs, h => by
    have := List.eq_nil_of_length_eq_zero h.1
    subst this
    exact ⟨⟨[], RepL.nil, .nil⟩, by simp⟩
  | ct :: cts, [], h => by have := h.1; simp at this
  | ct :: cts, c :: cs, h => by
    have h0 : CellOk w ct c := h.2 0 ct c rfl rfl
    have ht : CellsOk w cts cs := ⟨by simpa using h.1, fun j k v a b => h.2 (j + 1) k v (by simpa using a) (by simpa using b)⟩
    obtain ⟨⟨p, h1, h2⟩, h3⟩ := cell_rep h0
    obtain ⟨⟨ps, h4, h5⟩, h6⟩ := cells_rep ht
    refine ⟨⟨p :: ps, RepL.cons h1 h4, .cons h2 h5⟩, fun z hz => ?_⟩
    rcases List.mem_cons.1 hz with rfl | hz
    · exact h3
    · exact h6 z hz

/-- A struct argument. -/
theorem open_struct {H : Type} {enc : TypeId × Value → H} {P : Program} {w : World} {r : Reach} {b0 n : Nat} {sp : Nat → Bool} {held : Bool} {t : TypeId} {fs : Array Field} {v : Value} {d : DataW H} {ps : List MemPlace} {cts : List CT}
    (hu : P.underlying t = some (.struct fs)) (hc : flatT P n t = some cts) (hval : Value.okWide P w r b0 t v) (h : DataW.Trod enc P w 0 sp held t v d ps) : ∃ qs, Rep (wF w) (.agg qs) v ∧ PCellsOk cts qs := by
  unfold Value.okWide at hval
  rw [hu] at hval
  obtain ⟨cs, rfl, _, _⟩ := hval
  obtain ⟨fuel, hf⟩ := h
  have h1 := trod_flat n hc hf
  obtain ⟨⟨qs, h2, h3⟩, h4⟩ := cells_rep h1
  have := Rep.agg (F := wF w) qs cs.toList h2.1 (by simpa [Value.cells] using h4) (by simpa [Value.cells] using h2.2)
  exact ⟨qs, by simpa using this, h3⟩
/-- A slice argument. -/
theorem open_slice {H : Type} {enc : TypeId × Value → H} {P : Program} {w : World} {r : Reach} {b0 n : Nat} {sp : Nat → Bool} {held : Bool} {t e : TypeId} {v : Value} {d : DataW H} {ps : List MemPlace} {ks : List Ck}
    (hc : flatT P n t = some [.sl ks]) (h1 : v.cells = #[v]) (h : DataW.Trod enc P w 0 sp held t v d ps) : ∃ rows, Rep (wF w) (.sl rows []) v ∧ ∀ row ∈ rows, PRowOk ks row := by
  obtain ⟨fuel, hf⟩ := h
  rw [h1] at hf
  have h2 := trod_flat n hc hf
  obtain ⟨⟨p, h3, rows, rfl, h4⟩, _⟩ := cell_rep (h2.2 0 _ v rfl rfl)
  exact ⟨rows, h3, h4⟩

theorem rows_of {α : Type} {enc : α → List PV} {ks : List Ck} (h1 : ∀ row, PRowOk ks row → ∃ x, row = enc x) : ∀ {rows : List (List PV)}, (∀ row ∈ rows, PRowOk ks row) → ∃ xs : List α, rows = xs.map enc
  | [], _ => ⟨[], rfl⟩
  | row :: rows, h => by
    obtain ⟨x, hx⟩ := h1 row (h row (by simp))
    obtain ⟨xs, hxs⟩ := rows_of h1 (rows := rows) fun r hr => h r (by simp [hr])
    exact ⟨x :: xs, by rw [hx, hxs]; rfl⟩
theorem PRowOk.inv {k : Ck} {ks : List Ck} {row : List PV} (h : PRowOk (k :: ks) row) : ∃ p r, row = p :: r ∧ PKOk k p ∧ PRowOk ks r := by cases h with | cons a b => exact ⟨_, _, rfl, a, b⟩
theorem PCellsOk.inv {k : CT} {ks : List CT} {row : List PV} (h : PCellsOk (k :: ks) row) : ∃ p r, row = p :: r ∧ PCellOk k p ∧ PCellsOk ks r := by cases h with | cons a b => exact ⟨_, _, rfl, a, b⟩
end Go.Fw
