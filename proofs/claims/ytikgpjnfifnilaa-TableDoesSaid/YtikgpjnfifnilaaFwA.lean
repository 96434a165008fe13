/-
  Values as plain data: frozen, immutable contents of memory ('PV'), and when a value of the model stands for one ('Rep'), over a ghost memory F of cells that never turn again.
-/
import Derived.WalkKit
import Derived.Orders
import Derived.LoopN
import Derived.Maps.AppendAt
import Derived.Laws.StructEq
import Derived.WalkLawsBesides
set_option linter.unusedVariables false
set_option linter.unusedSimpArgs false
namespace Go.Fw

/-- Cells that never turn again. -/
abbrev Fz := Nat → Nat → Option Value

inductive PV where
  | v (x : Value)
  | any
  | sl (xs sp : List (List PV))
  | ref (cs : List PV) (off : Nat)
  | clo (f : FuncId) (caps : List PV)
  | agg (cs : List PV)
  | tup (cs : List PV)

instance : Inhabited PV := ⟨.any⟩

inductive Rep (F : Fz) : PV → Value → Prop
  | v (x : Value) : Rep F (.v x) x
  | any (x : Value) : Rep F .any x
  | sl (xs sp : List (List PV)) (es b off cap : Nat) (o : Option Addr) (ys : List Value)
      (hw : ∀ x ∈ xs ++ sp, x.length = es) (hcap : (xs ++ sp).length ≤ cap) (hm : cap ≤ maxLen)
      (ho : xs ++ sp ≠ [] → o = some ⟨b, off, none⟩)
      (hl : ys.length = (xs ++ sp).flatten.length)
      (h1 : ∀ y ∈ ys, y.oneCell' = true)
      (hF : ∀ (j : Nat) (y : Value), ys[j]? = some y → F b (off + j) = some y)
      (hr : ∀ (j : Nat) (p : PV) (y : Value), (xs ++ sp).flatten[j]? = some p → ys[j]? = some y → Rep F p y) :
      Rep F (.sl xs sp) (.slice o xs.length cap)
  | ref (cs : List PV) (off b o0 : Nat) (ys : List Value) (hl : ys.length = cs.length)
      (h1 : ∀ y ∈ ys, y.oneCell' = true)
      (hF : ∀ (j : Nat) (y : Value), ys[j]? = some y → F b (o0 + j) = some y)
      (hr : ∀ (j : Nat) (p : PV) (y : Value), cs[j]? = some p → ys[j]? = some y → Rep F p y) :
      Rep F (.ref cs off) (.pointer (some ⟨b, o0 + off, none⟩))
  | clo (f : FuncId) (caps : List PV) (ys : List Value) (hl : ys.length = caps.length)
      (hr : ∀ (j : Nat) (p : PV) (y : Value), caps[j]? = some p → ys[j]? = some y → Rep F p y) :
      Rep F (.clo f caps) (.func (.func f) #[] ys.toArray)
  | agg (cs : List PV) (ys : List Value) (hl : ys.length = cs.length)
      (h1 : ∀ y ∈ ys, y.oneCell' = true)
      (hr : ∀ (j : Nat) (p : PV) (y : Value), cs[j]? = some p → ys[j]? = some y → Rep F p y) :
      Rep F (.agg cs) (.agg ys.toArray)
  | tup (cs : List PV) (ys : List Value) (hl : ys.length = cs.length)
      (hr : ∀ (j : Nat) (p : PV) (y : Value), cs[j]? = some p → ys[j]? = some y → Rep F p y) :
      Rep F (.tup cs) (.tuple ys.toArray)

/-- F grows. -/
def Fz.le (F F' : Fz) : Prop := ∀ b o y, F b o = some y → F' b o = some y
theorem Fz.le_refl (F : Fz) : F.le F := fun _ _ _ h => h
theorem Fz.le_trans {F G H : Fz} (h : F.le G) (k : G.le H) : F.le H := fun b o y e => k b o y (h b o y e)

theorem Rep.mono {F F' : Fz} (h : F.le F') {p : PV} {x : Value} (hr : Rep F p x) : Rep F' p x := by
  induction hr with
  | v x => exact .v x
  | any x => exact .any x
  | sl xs sp es b off cap o ys hw hcap hm ho hl h1 hF _ ih => exact .sl xs sp es b off cap o ys hw hcap hm ho hl h1 (fun j y e => h _ _ _ (hF j y e)) ih
  | ref cs off b o0 ys hl h1 hF _ ih => exact .ref cs off b o0 ys hl h1 (fun j y e => h _ _ _ (hF j y e)) ih
  | clo f caps ys hl _ ih => exact .clo f caps ys hl ih
  | agg cs ys hl h1 _ ih => exact .agg cs ys hl h1 ih
  | tup cs ys hl _ ih => exact .tup cs ys hl ih

/-- Cell by cell. -/
def RepL (F : Fz) (ps : List PV) (ys : List Value) : Prop := ys.length = ps.length ∧ ∀ (j : Nat) (p : PV) (y : Value), ps[j]? = some p → ys[j]? = some y → Rep F p y
theorem RepL.mono {F F' : Fz} (h : F.le F') {ps : List PV} {ys : List Value} (hr : RepL F ps ys) : RepL F' ps ys := ⟨hr.1, fun j p y a b => (hr.2 j p y a b).mono h⟩
theorem RepL.nil {F : Fz} : RepL F [] [] := ⟨rfl, fun j p y h => by simp at h⟩
theorem RepL.cons {F : Fz} {p : PV} {y : Value} {ps : List PV} {ys : List Value} (h : Rep F p y) (hs : RepL F ps ys) : RepL F (p :: ps) (y :: ys) := by
  refine ⟨by simp [hs.1], fun j q z a b => ?_⟩
  cases j with
  | zero => simp at a b; subst a; subst b; exact h
  | succ j => exact hs.2 j q z (by simpa using a) (by simpa using b)
theorem RepL.get {F : Fz} {ps : List PV} {ys : List Value} (h : RepL F ps ys) {j : Nat} {p : PV} (hp : ps[j]? = some p) : ∃ y, ys[j]? = some y ∧ Rep F p y := by
  have hj : j < ys.length := by
    have h1 := h.1; have := (List.getElem?_eq_some_iff.1 hp).1
    omega
  exact ⟨ys[j], by simp [hj], h.2 j p _ hp (by simp [hj])⟩
theorem RepL.head {F : Fz} {p : PV} {ps : List PV} {ys : List Value} (h : RepL F (p :: ps) ys) : ∃ y zs, ys = y :: zs ∧ Rep F p y ∧ RepL F ps zs := by
  cases ys with
  | nil => have := h.1; simp at this
  | cons y zs => exact ⟨y, zs, rfl, h.2 0 p y rfl rfl, ⟨by simpa using h.1, fun j q z a b => h.2 (j + 1) q z (by simpa using a) (by simpa using b)⟩⟩
theorem RepL.append {F : Fz} {ps qs : List PV} {ys zs : List Value} (h : RepL F ps ys) (k : RepL F qs zs) : RepL F (ps ++ qs) (ys ++ zs) := by
  refine ⟨by simp [h.1, k.1], fun j p y a b => ?_⟩
  rcases Nat.lt_or_ge j ps.length with hj | hj
  · rw [List.getElem?_append_left hj] at a
    rw [List.getElem?_append_left (by rw [h.1]; exact hj)] at b
    exact h.2 j p y a b
  · rw [List.getElem?_append_right hj] at a
    rw [List.getElem?_append_right (by rw [h.1]; exact hj), h.1] at b
    exact k.2 _ p y a b
theorem RepL.take {F : Fz} {ps : List PV} {ys : List Value} (h : RepL F ps ys) (n : Nat) : RepL F (ps.take n) (ys.take n) := by
  refine ⟨by simp [h.1], fun j p y a b => ?_⟩
  rw [List.getElem?_take] at a b
  split at a
  · rename_i hj; rw [if_pos hj] at b; exact h.2 j p y a b
  · cases a
theorem RepL.drop {F : Fz} {ps : List PV} {ys : List Value} (h : RepL F ps ys) (n : Nat) : RepL F (ps.drop n) (ys.drop n) := by
  refine ⟨by simp [h.1], fun j p y a b => ?_⟩
  rw [List.getElem?_drop] at a b
  exact h.2 _ p y a b

/-- A splice: cs written over l from off on. -/
def splice {α : Type} (l : List α) (off : Nat) (cs : List α) : List α := l.take off ++ cs ++ l.drop (off + cs.length)
theorem RepL.splice {F : Fz} {ps cs : List PV} {ys zs : List Value} (h : RepL F ps ys) (off : Nat) (k : RepL F cs zs) : RepL F (splice ps off cs) (splice ys off zs) := by
  unfold Fw.splice
  rw [k.1]
  exact ((h.take off).append k).append (h.drop _)
theorem splice_length {α : Type} (l : List α) (off : Nat) (cs : List α) (h : off + cs.length ≤ l.length) : (splice l off cs).length = l.length := by
  simp [splice]; omega

/-- The cells of a value. -/
def PV.cells : PV → Option (List PV)
  | .agg cs => some cs
  | .v x => if x.oneCell' then some [.v x] else none
  | .sl xs sp => some [.sl xs sp]
  | .ref cs o => some [.ref cs o]
  | .clo f cs => some [.clo f cs]
  | .any => none
  | .tup _ => none
theorem Value.cells_one {x : Value} (h : x.oneCell' = true) : x.cells = #[x] := by
  cases x <;> simp_all [Value.oneCell', Value.cells]
theorem Rep.cells {F : Fz} {p : PV} {x : Value} (h : Rep F p x) {cs : List PV} (hc : p.cells = some cs) : RepL F cs x.cells.toList ∧ ∀ y ∈ x.cells.toList, y.oneCell' = true := by
  have one : ∀ {q : PV} {z : Value}, Rep F q z → z.oneCell' = true → some [q] = some cs → RepL F cs z.cells.toList ∧ ∀ y ∈ z.cells.toList, y.oneCell' = true := by
    intro q z hq h1 he
    cases he
    rw [Value.cells_one h1]
    exact ⟨RepL.cons hq RepL.nil, by simpa using h1⟩
  cases h with
  | v x =>
    simp only [PV.cells] at hc
    split at hc
    · rename_i h1; exact one (.v x) h1 hc
    · cases hc
  | any x => simp [PV.cells] at hc
  | sl xs sp es b off cap o ys hw hcap hm ho hl h1 hF hr => exact one (.sl xs sp es b off cap o ys hw hcap hm ho hl h1 hF hr) rfl hc
  | ref cs' off b o0 ys hl h1 hF hr => exact one (.ref cs' off b o0 ys hl h1 hF hr) rfl hc
  | clo f caps ys hl hr => exact one (.clo f caps ys hl hr) rfl hc
  | agg cs' ys hl h1 hr =>
    simp only [PV.cells, Option.some.injEq] at hc
    subst hc
    exact ⟨⟨by simpa [Value.cells] using hl, fun j p y a b => hr j p y a (by simpa [Value.cells] using b)⟩, by simpa [Value.cells] using h1⟩
  | tup cs' ys hl hr => simp [PV.cells] at hc

/-- An element of a list of rows of one length. -/
theorem flatten_get {α : Type} {es : Nat} : ∀ {xs : List (List α)}, (∀ x ∈ xs, x.length = es) → ∀ (i j : Nat), j < es → xs.flatten[i * es + j]? = (xs[i]?).bind (·[j]?)
  | [], _, i, j, _ => by simp
  | x :: xs, h, i, j, hj => by
    have hx : x.length = es := h x (by simp)
    cases i with
    | zero => simp only [Nat.zero_mul, Nat.zero_add, List.flatten_cons]; rw [List.getElem?_append_left (by omega)]; simp
    | succ i =>
      rw [List.flatten_cons, List.getElem?_append_right (by rw [Nat.succ_mul]; omega)]
      have : (i + 1) * es + j - x.length = i * es + j := by rw [Nat.succ_mul]; omega
      rw [this, flatten_get (fun y hy => h y (by simp [hy])) i j hj]
      simp
theorem flatten_length {α : Type} {es : Nat} : ∀ {xs : List (List α)}, (∀ x ∈ xs, x.length = es) → xs.flatten.length = xs.length * es
  | [], _ => by simp
  | x :: xs, h => by rw [List.flatten_cons, List.length_append, flatten_length (fun y hy => h y (by simp [hy])), h x (by simp), List.length_cons, Nat.succ_mul, Nat.add_comm]
theorem flatten_take {α : Type} {es : Nat} : ∀ {xs : List (List α)}, (∀ x ∈ xs, x.length = es) → ∀ n, (xs.take n).flatten = xs.flatten.take (n * es)
  | [], _, n => by simp
  | x :: xs, h, 0 => by simp
  | x :: xs, h, n + 1 => by
    have hx : x.length = es := h x (by simp)
    have : (n + 1) * es = x.length + n * es := by rw [Nat.succ_mul, hx, Nat.add_comm]
    rw [List.take_succ_cons, List.flatten_cons, List.flatten_cons, flatten_take (fun y hy => h y (by simp [hy])) n, this, List.take_length_add_append]
theorem flatten_drop {α : Type} {es : Nat} : ∀ {xs : List (List α)}, (∀ x ∈ xs, x.length = es) → ∀ n, (xs.drop n).flatten = xs.flatten.drop (n * es)
  | [], _, n => by simp
  | x :: xs, h, 0 => by simp
  | x :: xs, h, n + 1 => by
    have hx : x.length = es := h x (by simp)
    have : (n + 1) * es = x.length + n * es := by rw [Nat.succ_mul, hx, Nat.add_comm]
    rw [List.drop_succ_cons, List.flatten_cons, flatten_drop (fun y hy => h y (by simp [hy])) n, this, List.drop_length_add_append]

end Go.Fw
