/-
  Several texts in one: FwA, FwB, FwC, FwD, FwE, FwF, FwG, FwH, FwI, FwJ, FwK, FwL, FwM, FwN, FwOo.
-/
import Derived.WalkKit
import Derived.Orders
import Derived.LoopN
import Derived.Maps.AppendAt
import Derived.Laws.StructEq
import Derived.WalkLawsBesides
import Derived.Laws.Tables
import Derived.Laws.MakeOwn
import Derived.Laws.Slices
import Derived.Lib.MinMax
import Derived.DeepKeys
import Derived.Laws.CopyOwn
import Derived.Laws.OwnMore
set_option linter.unusedVariables false
set_option linter.unusedSimpArgs false
namespace Go.Fw

abbrev Fz := Nat → Nat → Option Value

inductive PV where
  | v (x : Value)
  | any
  | sl (xs sp : List (List PV))
  | ref (cs : List PV) (off : Nat)
  | clo (f : FuncId) (caps : List PV)
  | agg (cs : List PV)
  | tup (cs : List PV)

instance : Inhabited PV := ⟨.any⟩

inductive Rep (F : Fz) : PV → Value → Prop
  | v (x : Value) : Rep F (.v x) x
  | any (x : Value) : Rep F .any x
  | sl (xs sp : List (List PV)) (es b off cap : Nat) (o : Option Addr) (ys : List Value)
      (hw : ∀ x ∈ xs ++ sp, x.length = es) (hcap : (xs ++ sp).length ≤ cap) (hm : cap ≤ maxLen)
      (ho : xs ++ sp ≠ [] → o = some ⟨b, off, none⟩)
      (hl : ys.length = (xs ++ sp).flatten.length)
      (h1 : ∀ y ∈ ys, y.oneCell' = true)
      (hF : ∀ (j : Nat) (y : Value), ys[j]? = some y → F b (off + j) = some y)
      (hr : ∀ (j : Nat) (p : PV) (y : Value), (xs ++ sp).flatten[j]? = some p → ys[j]? = some y → Rep F p y) :
      Rep F (.sl xs sp) (.slice o xs.length cap)
  | ref (cs : List PV) (off b o0 : Nat) (ys : List Value) (hl : ys.length = cs.length)
      (h1 : ∀ y ∈ ys, y.oneCell' = true)
      (hF : ∀ (j : Nat) (y : Value), ys[j]? = some y → F b (o0 + j) = some y)
      (hr : ∀ (j : Nat) (p : PV) (y : Value), cs[j]? = some p → ys[j]? = some y → Rep F p y) :
      Rep F (.ref cs off) (.pointer (some ⟨b, o0 + off, none⟩))
  | clo (f : FuncId) (caps : List PV) (ys : List Value) (hl : ys.length = caps.length)
      (hr : ∀ (j : Nat) (p : PV) (y : Value), caps[j]? = some p → ys[j]? = some y → Rep F p y) :
      Rep F (.clo f caps) (.func (.func f) #[] ys.toArray)
  | agg (cs : List PV) (ys : List Value) (hl : ys.length = cs.length)
      (h1 : ∀ y ∈ ys, y.oneCell' = true)
      (hr : ∀ (j : Nat) (p : PV) (y : Value), cs[j]? = some p → ys[j]? = some y → Rep F p y) :
      Rep F (.agg cs) (.agg ys.toArray)
  | tup (cs : List PV) (ys : List Value) (hl : ys.length = cs.length)
      (hr : ∀ (j : Nat) (p : PV) (y : Value), cs[j]? = some p → ys[j]? = some y → Rep F p y) :
      Rep F (.tup cs) (.tuple ys.toArray)

def Fz.le (F F' : Fz) : Prop := ∀ b o y, F b o = some y → F' b o = some y
theorem Fz.le_refl (F : Fz) : F.le F := fun _ _ _ h => h
theorem Fz.le_trans {F G H : Fz} (h : F.le G) (k : G.le H) : F.le H := fun b o y e => k b o y (h b o y e)

theorem Rep.mono {F F' : Fz} (h : F.le F') {p : PV} {x : Value} (hr : Rep F p x) : Rep F' p x := by
  induction hr with
  | v x => exact .v x
  | any x => exact .any x
  | sl xs sp es b off cap o ys hw hcap hm ho hl h1 hF _ ih => exact .sl xs sp es b off cap o ys hw hcap hm ho hl h1 (fun j y e => h _ _ _ (hF j y e)) ih
  | ref cs off b o0 ys hl h1 hF _ ih => exact .ref cs off b o0 ys hl h1 (fun j y e => h _ _ _ (hF j y e)) ih
  | clo f caps ys hl _ ih => exact .clo f caps ys hl ih
  | agg cs ys hl h1 _ ih => exact .agg cs ys hl h1 ih
  | tup cs ys hl _ ih => exact .tup cs ys hl ih

def RepL (F : Fz) (ps : List PV) (ys : List Value) : Prop := ys.length = ps.length ∧ ∀ (j : Nat) (p : PV) (y : Value), ps[j]? = some p → ys[j]? = some y → Rep F p y
theorem RepL.mono {F F' : Fz} (h : F.le F') {ps : List PV} {ys : List Value} (hr : RepL F ps ys) : RepL F' ps ys := ⟨hr.1, fun j p y a b => (hr.2 j p y a b).mono h⟩
theorem RepL.nil {F : Fz} : RepL F [] [] := ⟨rfl, fun j p y h => by simp at h⟩
theorem RepL.cons {F : Fz} {p : PV} {y : Value} {ps : List PV} {ys : List Value} (h : Rep F p y) (hs : RepL F ps ys) : RepL F (p :: ps) (y :: ys) := by
  refine ⟨by simp [hs.1], fun j q z a b => ?_⟩
  cases j with
  | zero => simp at a b; subst a; subst b; exact h
  | succ j => exact hs.2 j q z (by simpa using a) (by simpa using b)
theorem RepL.get {F : Fz} {ps : List PV} {ys : List Value} (h : RepL F ps ys) {j : Nat} {p : PV} (hp : ps[j]? = some p) : ∃ y, ys[j]? = some y ∧ Rep F p y := by
  have hj : j < ys.length := by
    have h1 := h.1; have := (List.getElem?_eq_some_iff.1 hp).1
    omega
  exact ⟨ys[j], by simp [hj], h.2 j p _ hp (by simp [hj])⟩
theorem RepL.head {F : Fz} {p : PV} {ps : List PV} {ys : List Value} (h : RepL F (p :: ps) ys) : ∃ y zs, ys = y :: zs ∧ Rep F p y ∧ RepL F ps zs := by
  cases ys with
  | nil => have := h.1; simp at this
  | cons y zs => exact ⟨y, zs, rfl, h.2 0 p y rfl rfl, ⟨by simpa using h.1, fun j q z a b => h.2 (j + 1) q z (by simpa using a) (by simpa using b)⟩⟩
theorem RepL.append {F : Fz} {ps qs : List PV} {ys zs : List Value} (h : RepL F ps ys) (k : RepL F qs zs) : RepL F (ps ++ qs) (ys ++ zs) := by
  refine ⟨by simp [h.1, k.1], fun j p y a b => ?_⟩
  rcases Nat.lt_or_ge j ps.length with hj | hj
  · rw [List.getElem?_append_left hj] at a
    rw [List.getElem?_append_left (by rw [h.1]; exact hj)] at b
    exact h.2 j p y a b
  · rw [List.getElem?_append_right hj] at a
    rw [List.getElem?_append_right (by rw [h.1]; exact hj), h.1] at b
    exact k.2 _ p y a b
theorem RepL.take {F : Fz} {ps : List PV} {ys : List Value} (h : RepL F ps ys) (n : Nat) : RepL F (ps.take n) (ys.take n) := by
  refine ⟨by simp [h.1], fun j p y a b => ?_⟩
  rw [List.getElem?_take] at a b
  split at a
  · rename_i hj; rw [if_pos hj] at b; exact h.2 j p y a b
  · cases a
theorem RepL.drop {F : Fz} {ps : List PV} {ys : List Value} (h : RepL F ps ys) (n : Nat) : RepL F (ps.drop n) (ys.drop n) := by
  refine ⟨by simp [h.1], fun j p y a b => ?_⟩
  rw [List.getElem?_drop] at a b
  exact h.2 _ p y a b

def splice {α : Type} (l : List α) (off : Nat) (cs : List α) : List α := l.take off ++ cs ++ l.drop (off + cs.length)
theorem RepL.splice {F : Fz} {ps cs : List PV} {ys zs : List Value} (h : RepL F ps ys) (off : Nat) (k : RepL F cs zs) : RepL F (splice ps off cs) (splice ys off zs) := by
  unfold Fw.splice
  rw [k.1]
  exact ((h.take off).append k).append (h.drop _)
theorem splice_length {α : Type} (l : List α) (off : Nat) (cs : List α) (h : off + cs.length ≤ l.length) : (splice l off cs).length = l.length := by
  simp [splice]; omega

def PV.cells : PV → Option (List PV)
  | .agg cs => some cs
  | .v x => if x.oneCell' then some [.v x] else none
  | .sl xs sp => some [.sl xs sp]
  | .ref cs o => some [.ref cs o]
  | .clo f cs => some [.clo f cs]
  | .any => none
  | .tup _ => none
theorem Value.cells_one {x : Value} (h : x.oneCell' = true) : x.cells = #[x] := by
  cases x <;> simp_all [Value.oneCell', Value.cells]
theorem Rep.cells {F : Fz} {p : PV} {x : Value} (h : Rep F p x) {cs : List PV} (hc : p.cells = some cs) : RepL F cs x.cells.toList ∧ ∀ y ∈ x.cells.toList, y.oneCell' = true := by
  have one : ∀ {q : PV} {z : Value}, Rep F q z → z.oneCell' = true → some [q] = some cs → RepL F cs z.cells.toList ∧ ∀ y ∈ z.cells.toList, y.oneCell' = true := by
    intro q z hq h1 he
    cases he
    rw [Value.cells_one h1]
    exact ⟨RepL.cons hq RepL.nil, by simpa using h1⟩
  cases h with
  | v x =>
    simp only [PV.cells] at hc
    split at hc
    · rename_i h1; exact one (.v x) h1 hc
    · cases hc
  | any x => simp [PV.cells] at hc
  | sl xs sp es b off cap o ys hw hcap hm ho hl h1 hF hr => exact one (.sl xs sp es b off cap o ys hw hcap hm ho hl h1 hF hr) rfl hc
  | ref cs' off b o0 ys hl h1 hF hr => exact one (.ref cs' off b o0 ys hl h1 hF hr) rfl hc
  | clo f caps ys hl hr => exact one (.clo f caps ys hl hr) rfl hc
  | agg cs' ys hl h1 hr =>
    simp only [PV.cells, Option.some.injEq] at hc
    subst hc
    exact ⟨⟨by simpa [Value.cells] using hl, fun j p y a b => hr j p y a (by simpa [Value.cells] using b)⟩, by simpa [Value.cells] using h1⟩
  | tup cs' ys hl hr => simp [PV.cells] at hc

theorem flatten_get {α : Type} {es : Nat} : ∀ {xs : List (List α)}, (∀ x ∈ xs, x.length = es) → ∀ (i j : Nat), j < es → xs.flatten[i * es + j]? = (xs[i]?).bind (·[j]?)
  | [], _, i, j, _ => by simp
  | x :: xs, h, i, j, hj => by
    have hx : x.length = es := h x (by simp)
    cases i with
    | zero => simp only [Nat.zero_mul, Nat.zero_add, List.flatten_cons]; rw [List.getElem?_append_left (by omega)]; simp
    | succ i =>
      rw [List.flatten_cons, List.getElem?_append_right (by rw [Nat.succ_mul]; omega)]
      have : (i + 1) * es + j - x.length = i * es + j := by rw [Nat.succ_mul]; omega
      rw [this, flatten_get (fun y hy => h y (by simp [hy])) i j hj]
      simp
theorem flatten_length {α : Type} {es : Nat} : ∀ {xs : List (List α)}, (∀ x ∈ xs, x.length = es) → xs.flatten.length = xs.length * es
  | [], _ => by simp
  | x :: xs, h => by rw [List.flatten_cons, List.length_append, flatten_length (fun y hy => h y (by simp [hy])), h x (by simp), List.length_cons, Nat.succ_mul, Nat.add_comm]
theorem flatten_take {α : Type} {es : Nat} : ∀ {xs : List (List α)}, (∀ x ∈ xs, x.length = es) → ∀ n, (xs.take n).flatten = xs.flatten.take (n * es)
  | [], _, n => by simp
  | x :: xs, h, 0 => by simp
  | x :: xs, h, n + 1 => by
    have hx : x.length = es := h x (by simp)
    have : (n + 1) * es = x.length + n * es := by rw [Nat.succ_mul, hx, Nat.add_comm]
    rw [List.take_succ_cons, List.flatten_cons, List.flatten_cons, flatten_take (fun y hy => h y (by simp [hy])) n, this, List.take_length_add_append]
theorem flatten_drop {α : Type} {es : Nat} : ∀ {xs : List (List α)}, (∀ x ∈ xs, x.length = es) → ∀ n, (xs.drop n).flatten = xs.flatten.drop (n * es)
  | [], _, n => by simp
  | x :: xs, h, 0 => by simp
  | x :: xs, h, n + 1 => by
    have hx : x.length = es := h x (by simp)
    have : (n + 1) * es = x.length + n * es := by rw [Nat.succ_mul, hx, Nat.add_comm]
    rw [List.drop_succ_cons, List.flatten_cons, flatten_drop (fun y hy => h y (by simp [hy])) n, this, List.drop_length_add_append]

end Go.Fw

set_option linter.unusedVariables false
set_option linter.unusedSimpArgs false
namespace Go.Fw
open Go.RowKit

inductive T where
  | p (x : PV)
  | nil
  | own (n off : Nat)
  | row (n len : Nat)
  | rp (n es i off : Nat)
  | mp (n : Nat)
instance : Inhabited T := ⟨.p .any⟩

def T.name : T → Option Nat
  | .own n _ | .row n _ | .rp n _ _ _ | .mp n => some n
  | .p _ | .nil => none

inductive Own where
  | box (cells : List PV) (fz : Bool)
  | row (ty es : Nat) (xs : List (List PV)) (fz : Bool)
  | mp (kt et : Nat) (es : List (ByteArray × PV))

def Own.freeze : Own → Own
  | .box cs _ => .box cs true
  | .row ty es xs _ => .row ty es xs true
  | .mp kt et es => .mp kt et es

structure St where
  t : Nat → T
  o : Nat → Option Own

def upd {α : Type} (f : Nat → α) (k : Nat) (v : α) : Nat → α := fun j => if j = k then v else f j
theorem upd_same {α : Type} (f : Nat → α) (k : Nat) (v : α) : upd f k v k = v := by simp [upd]
theorem upd_ne {α : Type} (f : Nat → α) {k j : Nat} (v : α) (h : j ≠ k) : upd f k v j = f j := by simp [upd, h]
theorem upd_comm {α : Type} (f : Nat → α) {k j : Nat} (v u : α) (h : k ≠ j) : upd (upd f k v) j u = upd (upd f j u) k v := by
  funext i
  simp only [upd]
  by_cases h1 : i = j <;> by_cases h2 : i = k <;> simp_all

inductive Opd where
  | t (n : Nat)
  | c (x : T)

inductive Ck where
  | b
  | i (k : IntKind)
  | s
  deriving DecidableEq

inductive Kd where
  | mv
  | pick
  | box
  | alloc (z : List PV)
  | build (z : List PV) (pl : List (Nat × Nat))
  | bsl (ty es n : Nat) (z : List PV) (ix : List Nat)
  | load (sz : Nat) (ag : Bool)
  | bin (op : BinOp)
  | beq (neg : Bool)
  | eqs (neg : Bool) (ks : List Ck)
  | un (op : UnOp)
  | conv (k : IntKind)
  | mkf (f : FuncId)
  | fad (off : Nat)
  | fld (off sz : Nat) (ag : Bool)
  | iad (es : Nat)
  | aad (es n : Nat)
  | idx (es n : Nat) (ag : Bool)
  | sidx
  | slc (es : Nat) (lo hi : Bool)
  | sstr (lo hi : Bool)
  | sarr (es n : Nat) (lo hi : Bool)
  | ext (i : Nat)
  | len (c : Nat)
  | bmax
  | mks (ty es bytes : Nat) (z : List PV)
  | mkmap (kt et : Nat)
  | look (kt : Nat) (z : PV) (ok : Bool)
  | call (f : FuncId)
  | callv
  | calln (f : FuncId)
  | calli (f : FuncId)
  | callu (f : FuncId)
  | store (sz : Nat)
  | app (ty es bytes : Nat)
  | mset (kt et : Nat)
  | mdel (kt : Nat)

def Kd.base : Kd → Kd
  | .calln f | .calli f | .callu f => .call f
  | k => k

structure RG where
  d : Option Nat
  k : Kd
  a : List Opd
  g : Option (Nat × Bool) := none
def RG.base (r : RG) : RG := ⟨r.d, r.k.base, r.a, r.g⟩

inductive RA where
  | p (x : PV)
  | nil
  | own (n off : Nat) (cells : List PV)
  | row (n len es : Nat) (xs : List (List PV))
  | rp (n es i off : Nat) (cells : List PV)
  | mp (n kt et : Nat) (es : List (ByteArray × PV))

def RA.toT : RA → T
  | .p x => .p x
  | .nil => .nil
  | .own n o _ => .own n o
  | .row n l _ _ => .row n l
  | .rp n es i o _ => .rp n es i o
  | .mp n _ _ _ => .mp n
def RA.pv : RA → Option PV
  | .p x => some x
  | .nil => some (.sl [] [])
  | .own _ o cells => some (.ref cells o)
  | .row _ l _ xs => some (.sl (xs.take l) (xs.drop l))
  | _ => none
def RA.frz : RA → List Nat
  | .own n _ _ | .row n _ _ _ => [n]
  | _ => []

def lookT (o : Nat → Option Own) : T → Option RA
  | .p x => some (.p x)
  | .nil => some .nil
  | .own n off => match o n with | some (.box cells _) => some (.own n off cells) | _ => none
  | .row n l => match o n with | some (.row _ es xs _) => if l ≤ xs.length then some (.row n l es xs) else none | _ => none
  | .rp n es i off => match o n with
    | some (.row _ es' xs _) => if es' = es then (xs[i]?).map (.rp n es i off) else none
    | _ => none
  | .mp n => match o n with | some (.mp kt et es) => some (.mp n kt et es) | _ => none

def St.ev (s : St) : Opd → T
  | .t n => s.t n
  | .c x => x
def St.res (s : St) (x : Opd) : Option RA := lookT s.o (s.ev x)
def St.resL (s : St) : List Opd → Option (List RA)
  | [] => some []
  | x :: xs => (s.res x).bind fun a => (s.resL xs).map (a :: ·)
def pvs : List RA → Option (List PV)
  | [] => some []
  | a :: as => a.pv.bind fun p => (pvs as).map (p :: ·)
def frzs (as : List RA) : List Nat := as.flatMap RA.frz

structure Eff where
  v : T
  new : Option Own := none
  frz : List Nat := []

def slt (a b : ByteArray) : Bool := Op.bytesLess a.toList b.toList

def binV (op : BinOp) : Value → Value → Option Value
  | .int k a, .int k' b =>
    if k = k' then
      match op with
      | .add => some (.int k (k.wrap (a + b)))
      | .sub => some (.int k (k.wrap (a - b)))
      | .mul => some (.int k (k.wrap (a * b)))
      | .quo => if b = 0 then none else some (.int k (k.wrap (a.tdiv b)))
      | .rem => if b = 0 then none else some (.int k (a.tmod b))
      | .eql => some (.bool (decide (a = b)))
      | .neq => some (.bool (!decide (a = b)))
      | .lss => some (.bool (decide (a < b)))
      | .leq => some (.bool (decide (a ≤ b)))
      | .gtr => some (.bool (decide (b < a)))
      | .geq => some (.bool (decide (b ≤ a)))
      | _ => none
    else none
  | .string a, .string b =>
    match op with
    | .add => if a.size + b.size ≤ 9223372036854775807 then some (.string (a ++ b)) else none
    | .eql => some (.bool (decide (a = b)))
    | .neq => some (.bool (!decide (a = b)))
    | .lss => some (.bool (slt a b))
    | .leq => some (.bool (slt a b || decide (a = b)))
    | .gtr => some (.bool (!(slt a b || decide (a = b))))
    | .geq => some (.bool (!slt a b))
    | _ => none
  | _, _ => none

def cellsEq : List Ck → List PV → List PV → Option Bool
  | [], [], [] => some true
  | .b :: ks, .v (.bool a) :: xs, .v (.bool b) :: ys => (cellsEq ks xs ys).map (decide (a = b) && ·)
  | .i k :: ks, .v (.int k1 a) :: xs, .v (.int k2 b) :: ys => if k1 = k ∧ k2 = k then (cellsEq ks xs ys).map (decide (a = b) && ·) else none
  | .s :: ks, .v (.string a) :: xs, .v (.string b) :: ys => (cellsEq ks xs ys).map (decide (a = b) && ·)
  | _, _, _ => none

def ldv (cells : List PV) (off sz : Nat) (ag : Bool) : Option PV :=
  match ag with
  | true => if off + sz ≤ cells.length then some (.agg ((cells.drop off).take sz)) else none
  | false => cells[off]?

def fillP (z : List PV) : List ((Nat × Nat) × PV) → Option (List PV)
  | [] => some z
  | ((off, sz), p) :: r =>
    p.cells.bind fun cs => if cs.length = sz ∧ off + sz ≤ z.length then fillP (splice z off cs) r else none
def fillX (es : Nat) (xs : List (List PV)) : List (Nat × PV) → Option (List (List PV))
  | [] => some xs
  | (i, p) :: r => p.cells.bind fun cs => if cs.length = es ∧ i < xs.length then fillX es (xs.set i cs) r else none

def chunks (es : Nat) : Nat → List PV → List (List PV)
  | 0, _ => []
  | n + 1, l => l.take es :: chunks es n (l.drop es)

def bnds (lo hi : Bool) (n : Nat) : List RA → Option (Nat × Nat)
  | as =>
    match lo, hi, as with
    | false, false, [] => some (0, n)
    | true, false, [.p (.v (.int _ l))] => if 0 ≤ l then some (l.toNat, n) else none
    | false, true, [.p (.v (.int _ h))] => if 0 ≤ h then some (0, h.toNat) else none
    | true, true, [.p (.v (.int _ l)), .p (.v (.int _ h))] => if 0 ≤ l ∧ 0 ≤ h then some (l.toNat, h.toNat) else none
    | _, _, _ => none

def mfind (k : ByteArray) : List (ByteArray × PV) → Option PV
  | [] => none
  | (j, x) :: r => if k = j then some x else mfind k r
def mput (k : ByteArray) (x : PV) : List (ByteArray × PV) → List (ByteArray × PV)
  | [] => [(k, x)]
  | (j, y) :: r => if k = j then (k, x) :: r else (j, y) :: mput k x r
def mcut (k : ByteArray) : List (ByteArray × PV) → List (ByteArray × PV)
  | [] => []
  | (j, y) :: r => if k = j then r else (j, y) :: mcut k r

def headLen (es : Nat) : List (List PV) → Bool
  | [] => true
  | x :: _ => x.length == es

def sem (k : Kd) (d : Nat) (as : List RA) : Option Eff :=
  match k with
  | .mv => match as with
    | [a] => some { v := a.toT }
    | _ => none
  | .pick => match as with
    | [.p (.v (.bool c)), a, b] => some { v := if c then a.toT else b.toT }
    | _ => none
  | .box => match as with
    | [a] => a.pv.bind fun p => p.cells.map fun cs => { v := .own d 0, new := some (.box cs false), frz := a.frz }
    | _ => none
  | .alloc z => match as with
    | [] => some { v := .own d 0, new := some (.box z false) }
    | _ => none
  | .build z pl => (pvs as).bind fun ps => if ps.length = pl.length then (fillP z (pl.zip ps)).map fun cs => { v := .p (.agg cs), frz := frzs as } else none
  | .bsl ty es n z ix => (pvs as).bind fun ps => if ps.length = ix.length then (fillX es (List.replicate n z) (ix.zip ps)).map fun xs => { v := .row d n, new := some (.row ty es xs false), frz := frzs as } else none
  | .load sz ag => match as with
    | [.own _ off cells] => (ldv cells off sz ag).map fun p => { v := .p p }
    | [.rp _ _ _ off cells] => (ldv cells off sz ag).map fun p => { v := .p p }
    | [.p (.ref cells off)] => (ldv cells off sz ag).map fun p => { v := .p p }
    | _ => none
  | .bin op => match as with
    | [.p (.v a), .p (.v b)] => (binV op a b).map fun r => { v := .p (.v r) }
    | _ => none
  | .beq neg => match as with
    | [.p (.v (.bool a)), .p (.v (.bool b))] => some { v := .p (.v (.bool (neg != decide (a = b)))) }
    | _ => none
  | .eqs neg ks => match as with
    | [.p (.agg xs), .p (.agg ys)] => (cellsEq ks xs ys).map fun r => { v := .p (.v (.bool (neg != r))) }
    | _ => none
  | .un op => match op, as with
    | .not, [.p (.v (.bool a))] => some { v := .p (.v (.bool (!a))) }
    | .neg, [.p (.v (.int k a))] => some { v := .p (.v (.int k (k.wrap (0 - a)))) }
    | _, _ => none
  | .conv k => match as with
    | [.p (.v (.int _ n))] => some { v := .p (.v (.int k (k.wrap n))) }
    | _ => none
  | .mkf f => (pvs as).map fun ps => { v := .p (.clo f ps), frz := frzs as }
  | .fad off => match as with
    | [.own n o _] => some { v := .own n (o + off) }
    | [.rp n es i o _] => some { v := .rp n es i (o + off) }
    | [.p (.ref cells o)] => some { v := .p (.ref cells (o + off)) }
    | _ => none
  | .fld off sz ag => match as with
    | [.p (.agg cells)] => (ldv cells off sz ag).map fun p => { v := .p p }
    | _ => none
  | .iad es => match as with
    | [.row n len es' xs, .p (.v (.int _ i))] => if 0 ≤ i ∧ i < len ∧ es' = es then some { v := .rp n es i.toNat 0 } else none
    | [.p (.sl xs _), .p (.v (.int _ i))] => if 0 ≤ i then (xs[i.toNat]?).bind fun x => if x.length = es then some { v := .p (.ref x 0) } else none else none
    | _ => none
  | .aad es n => match as with
    | [.own m o _, .p (.v (.int _ i))] => if 0 ≤ i ∧ i < n then some { v := .own m (o + i.toNat * es) } else none
    | [.p (.ref cells o), .p (.v (.int _ i))] => if 0 ≤ i ∧ i < n then some { v := .p (.ref cells (o + i.toNat * es)) } else none
    | _ => none
  | .idx es n ag => match as with
    | [.p (.agg cells), .p (.v (.int _ i))] => if 0 ≤ i ∧ i < n then (ldv cells (i.toNat * es) es ag).map fun p => { v := .p p } else none
    | _ => none
  | .sidx => match as with
    | [.p (.v (.string s)), .p (.v (.int _ i))] => if h : 0 ≤ i ∧ i.toNat < s.size then some { v := .p (.v (.int .u8 (s[i.toNat]'h.2).toNat)) } else none
    | _ => none
  | .slc es lo hi => match as with
    | .p (.sl xs sp) :: r => (bnds lo hi xs.length r).bind fun lh => if lh.1 ≤ lh.2 ∧ lh.2 ≤ (xs ++ sp).length ∧ (lh.1 = 0 ∨ headLen es (xs ++ sp) = true) then some { v := .p (.sl (((xs ++ sp).take lh.2).drop lh.1) ((xs ++ sp).drop lh.2)) } else none
    | .row n len es' xs :: r => (bnds lo hi len r).bind fun lh =>
      if lh.1 = 0 ∧ lh.2 ≤ xs.length then some { v := .row n lh.2 }
      else if lh.1 ≤ lh.2 ∧ lh.2 ≤ xs.length ∧ es' = es then some { v := .p (.sl ((xs.take lh.2).drop lh.1) (xs.drop lh.2)), frz := [n] } else none
    | _ => none
  | .sstr lo hi => match as with
    | .p (.v (.string s)) :: r => (bnds lo hi s.size r).bind fun lh => if lh.1 ≤ lh.2 ∧ lh.2 ≤ s.size then some { v := .p (.v (.string (s.extract lh.1 lh.2))) } else none
    | _ => none
  | .sarr es n lo hi => match as with
    | .own m o cells :: r => (bnds lo hi n r).bind fun lh => if lh.1 ≤ lh.2 ∧ lh.2 ≤ n ∧ o + n * es ≤ cells.length then some { v := .p (.sl (((chunks es n (cells.drop o)).take lh.2).drop lh.1) ((chunks es n (cells.drop o)).drop lh.2)), frz := [m] } else none
    | _ => none
  | .ext i => match as with
    | [.p (.tup cs)] => (cs[i]?).map fun p => { v := .p p }
    | _ => none
  | .bmax => match as with
    | [.p (.v (.int .i64 a)), .p (.v (.int .i64 b))] => some { v := .p (.v (.int .i64 (max a b))) }
    | _ => none
  | .len c => match c, as with
    | 0, [.row _ n _ _] => some { v := .p (.v (.int .i64 n)) }
    | 0, [.p (.sl xs _)] => some { v := .p (.v (.int .i64 xs.length)) }
    | 0, [.nil] => some { v := .p (.v (.int .i64 0)) }
    | 1, [.p (.v (.string s))] => some { v := .p (.v (.int .i64 s.size)) }
    | 2, [.mp _ _ _ es] => some { v := .p (.v (.int .i64 es.length)) }
    | _, _ => none
  | .mks ty es bytes z => match as with
    | [.p (.v (.int .i64 l)), .p (.v (.int .i64 c))] =>
      if 0 ≤ l ∧ l ≤ c ∧ c * bytes ≤ 140737488355328 then some { v := .row d l.toNat, new := some (.row ty es (List.replicate l.toNat z) false) } else none
    | _ => none
  | .mkmap kt et => match as with
    | [] => some { v := .mp d, new := some (.mp kt et []) }
    | _ => none
  | .look kt z ok => match as with
    | [.mp _ kt' _ es, .p (.v (.string k))] =>
      if kt' = kt then
        match mfind k es, ok with
        | some x, true => some { v := .p (.tup [x, .v (.bool true)]) }
        | some x, false => some { v := .p x }
        | none, true => some { v := .p (.tup [z, .v (.bool false)]) }
        | none, false => some { v := .p z }
      else none
    | _ => none
  | _ => none

def FzIn (w : World) (F : Fz) : Prop := ∀ b o y, F b o = some y → w.cell? ⟨b, o, none⟩ = some y

structure FzOn (n : Nat) (F F' : Fz) : Prop where
  le : F.le F'
  old : ∀ b o, b < n → F' b o = F b o

def Enters (P : Program) (f : FuncId) : Prop := ∀ (args : Array Value) (w : World), (callFunc f args).run P w = .ok (.enter f args) w

def Ret (P : Program) (f : FuncId) (ps : List PV) (r : PV) : Prop :=
  Enters P f ∧ ∀ (w : World) (F : Fz) (ys : List Value), FzIn w F → RepL F ps ys →
    Calls P f ys.toArray w fun e w' => ∃ v F', e = .returned v ∧ Rep F' r v ∧ FzIn w' F' ∧ FzOn w.heap.size F F' ∧ Below w.heap.size w w'

def noneF (F : Fz) (b : Nat) : Prop := ∀ o, F b o = none
structure RowIs (F : Fz) (w : World) (B ty es : Nat) (v : Value) (xs : List (List PV)) (us : List Value) : Prop where
  own : w.ownsRow B ty es v xs.length us
  rep : RepL F xs.flatten us
  one : ∀ y ∈ us, y.oneCell' = true
  len : ∀ x ∈ xs, x.length = es
  nil : v.ownBlock = none → xs = []
  free : ∀ b, v.ownBlock = some b → noneF F b

def RetN (P : Program) (f : FuncId) (ps : List PV) (ty es : Nat) (zs : List (List PV)) : Prop :=
  Enters P f ∧ ∀ (w : World) (F : Fz) (ys : List Value), FzIn w F → RepL F ps ys →
    Calls P f ys.toArray w fun e w' => ∃ v F' us, e = .returned v ∧ RowIs F' w' w.heap.size ty es v zs us ∧ FzIn w' F' ∧ FzOn w.heap.size F F' ∧ Below w.heap.size w w'

def RetI (P : Program) (f : FuncId) (ty es : Nat) (xs : List (List PV)) (ps : List PV) (zs : List (List PV)) : Prop :=
  Enters P f ∧ ∀ (w : World) (F : Fz) (B : Nat) (v : Value) (us ys : List Value), FzIn w F → RepL F ps ys → B ≤ w.heap.size → RowIs F w B ty es v xs us →
    Calls P f (v :: ys).toArray w fun e w' => ∃ v' us', e = .returned v' ∧ RowIs F w' B ty es v' zs us' ∧ (∀ b, v'.ownBlock = some b → v.ownBlock = some b ∨ w.heap.size ≤ b) ∧ FzIn w' F ∧ w.grownBy w' v.ownBlock

def RetU (P : Program) (f : FuncId) (ty es : Nat) (xs : List (List PV)) (ps : List PV) (zs : List (List PV)) (q : PV := .tup []) : Prop :=
  zs.length = xs.length ∧ Enters P f ∧ ∀ (w : World) (F : Fz) (B : Nat) (v : Value) (us ys : List Value), FzIn w F → RepL F ps ys → B ≤ w.heap.size → RowIs F w B ty es v xs us →
    Calls P f (v :: ys).toArray w fun e w' => ∃ us' v', e = .returned v' ∧ Rep F q v' ∧ RowIs F w' B ty es v zs us' ∧ FzIn w' F ∧ w.grownBy w' v.ownBlock

def SemA (P : Program) (k : Kd) (d : Nat) (as : List RA) (e : Eff) : Prop :=
  match k with
  | .call f => ∃ ps r, pvs as = some ps ∧ Ret P f ps r ∧ e = { v := .p r, frz := frzs as }
  | .callv => ∃ f caps rest ps r, as = .p (.clo f caps) :: rest ∧ pvs rest = some ps ∧ Ret P f (ps ++ caps) r ∧ e = { v := .p r, frz := frzs as }
  | k => sem k d as = some e

def putT (t : Nat → T) (d : Option Nat) (v : T) : Nat → T :=
  match d with
  | some d => upd t d v
  | none => t
def frzO (o : Nat → Option Own) (ns : List Nat) : Nat → Option Own := fun n => if n ∈ ns then (o n).map Own.freeze else o n
def newO (o : Nat → Option Own) (d : Option Nat) (x : Option Own) : Nat → Option Own :=
  match d, x with
  | some d, some x => upd o d (some x)
  | _, _ => o
def St.eff (s : St) (d : Option Nat) (e : Eff) : St := ⟨putT s.t d e.v, newO (frzO s.o e.frz) d e.new⟩

def boolOf : Value → Option Bool
  | .bool c => some c
  | _ => none
def St.want (s : St) : Option (Nat × Bool) → Option Bool
  | none => some true
  | some (t, b) => match s.t t with | .p (.v v) => some (boolOf v == some b) | _ => none

def St.fresh (s : St) (n : Nat) : Prop := ∀ k, (s.t k).name ≠ some n

def killT (t : Nat → T) (n : Nat) : Nat → T := fun k => if (t k).name = some n then .p .any else t k

def Kd.solo : Kd → Bool
  | .store _ | .app .. | .mset .. | .mdel _ | .calln _ | .calli _ | .callu _ => true
  | _ => false

inductive Step1 (P : Program) : RG → St → St → Prop
  | skip (r : RG) (s : St) (hw : s.want r.g = some false) : Step1 P r s ⟨putT s.t r.d (.p (.v undef)), s.o⟩
  | plain (r : RG) (s : St) (as : List RA) (e : Eff) (hk : r.k.solo = false) (hw : s.want r.g = some true) (ha : s.resL r.a = some as) (he : SemA P r.k (r.d.getD 0) as e)
      (hn : e.new.isSome = true → ∃ d, r.d = some d ∧ s.fresh d) : Step1 P r s (s.eff r.d e)
  | storeBox (r : RG) (s : St) (sz : Nat) (x y : Opd) (n off : Nat) (cells cs : List PV) (a : RA) (p : PV) (hk : r.k = .store sz) (hd : r.d = none) (hw : s.want r.g = some true) (ha : r.a = [x, y])
      (hx : s.ev x = .own n off) (ho : s.o n = some (.box cells false)) (hy : s.res y = some a) (hp : a.pv = some p) (hc : p.cells = some cs)
      (hl : cs.length = sz ∧ off + sz ≤ cells.length) (hn : n ∉ a.frz) : Step1 P r s ⟨s.t, upd (frzO s.o a.frz) n (some (.box (splice cells off cs) false))⟩
  | storeRow (r : RG) (s : St) (sz : Nat) (x y : Opd) (n es i off ty : Nat) (xs : List (List PV)) (c cs : List PV) (a : RA) (p : PV) (hk : r.k = .store sz) (hd : r.d = none) (hw : s.want r.g = some true) (ha : r.a = [x, y])
      (hx : s.ev x = .rp n es i off) (ho : s.o n = some (.row ty es xs false)) (hi : xs[i]? = some c) (hy : s.res y = some a) (hp : a.pv = some p) (hc : p.cells = some cs)
      (hl : cs.length = sz ∧ off + sz ≤ es) (hn : n ∉ a.frz) : Step1 P r s ⟨s.t, upd (frzO s.o a.frz) n (some (.row ty es (xs.set i (splice c off cs)) false))⟩
  | appNil (r : RG) (s : St) (ty es bytes d : Nat) (x y : Opd) (a : RA) (ys sp : List (List PV)) (hk : r.k = .app ty es bytes) (hd : r.d = some d) (hw : s.want r.g = some true) (ha : r.a = [x, y])
      (hx : s.ev x = .nil) (hy : s.res y = some a) (hp : a.pv = some (.sl ys sp)) (he : ∀ z ∈ ys, z.length = es) (hl : ys.length * bytes ≤ 140737488355328) (hf : s.fresh d) :
      Step1 P r s ⟨upd s.t d (.row d ys.length), upd (frzO s.o a.frz) d (some (.row ty es ys false))⟩
  | appRow (r : RG) (s : St) (ty es bytes d n : Nat) (x y : Opd) (a : RA) (xs ys sp : List (List PV)) (fz : Bool) (hk : r.k = .app ty es bytes) (hd : r.d = some d) (hw : s.want r.g = some true) (ha : r.a = [x, y])
      (hx : s.ev x = .row n xs.length) (ho : s.o n = some (.row ty es xs fz)) (hy : s.res y = some a) (hp : a.pv = some (.sl ys sp)) (he : ∀ z ∈ ys, z.length = es) (hl : (xs.length + ys.length) * bytes ≤ 140737488355328)
      (hn : n ∉ a.frz) (hf : d ≠ n → s.fresh d) :
      Step1 P r s ⟨upd (killT s.t n) d (.row d (xs.length + ys.length)), upd (upd (frzO s.o a.frz) n none) d (some (.row ty es (xs ++ ys) fz))⟩
  | mset (r : RG) (s : St) (kt et n : Nat) (x y z : Opd) (a : RA) (k : ByteArray) (p : PV) (cs : List PV) (es : List (ByteArray × PV)) (hk : r.k = .mset kt et) (hd : r.d = none) (hw : s.want r.g = some true) (ha : r.a = [x, y, z])
      (hx : s.ev x = .mp n) (ho : s.o n = some (.mp kt et es)) (hy : s.ev y = .p (.v (.string k))) (hz : s.res z = some a) (hp : a.pv = some p) (hn : n ∉ a.frz) :
      Step1 P r s ⟨s.t, upd (frzO s.o a.frz) n (some (.mp kt et (mput k p es)))⟩
  | mdel (r : RG) (s : St) (kt et n : Nat) (x y : Opd) (k : ByteArray) (es : List (ByteArray × PV)) (hk : r.k = .mdel kt) (hd : r.d = none) (hw : s.want r.g = some true) (ha : r.a = [x, y])
      (hx : s.ev x = .mp n) (ho : s.o n = some (.mp kt et es)) (hy : s.ev y = .p (.v (.string k))) :
      Step1 P r s ⟨s.t, upd s.o n (some (.mp kt et (mcut k es)))⟩
  | calln (r : RG) (s : St) (f : FuncId) (d : Nat) (as : List RA) (ps : List PV) (ty es : Nat) (zs : List (List PV)) (hk : r.k = .calln f) (hd : r.d = some d) (hw : s.want r.g = some true) (ha : s.resL r.a = some as) (hp : pvs as = some ps)
      (hr : RetN P f ps ty es zs) (hf : s.fresh d) : Step1 P r s ⟨upd s.t d (.row d zs.length), upd (frzO s.o (frzs as)) d (some (.row ty es zs false))⟩
  | calli (r : RG) (s : St) (f : FuncId) (d n : Nat) (x : Opd) (ys : List Opd) (as : List RA) (ps : List PV) (ty es : Nat) (xs zs : List (List PV)) (hk : r.k = .calli f) (hd : r.d = some d) (hw : s.want r.g = some true) (ha : r.a = x :: ys)
      (hx : s.ev x = .row n xs.length) (ho : s.o n = some (.row ty es xs false)) (hy : s.resL ys = some as) (hp : pvs as = some ps) (hn : n ∉ frzs as) (hr : RetI P f ty es xs ps zs) (hf : d ≠ n → s.fresh d) :
      Step1 P r s ⟨upd (killT s.t n) d (.row d zs.length), upd (upd (frzO s.o (frzs as)) n none) d (some (.row ty es zs false))⟩
  | callu (r : RG) (s : St) {q : PV} (f : FuncId) (n : Nat) (x : Opd) (ys : List Opd) (as : List RA) (ps : List PV) (ty es : Nat) (xs zs : List (List PV)) (hk : r.k = .callu f) (hw : s.want r.g = some true) (ha : r.a = x :: ys)
      (hx : s.ev x = .row n xs.length) (ho : s.o n = some (.row ty es xs false)) (hy : s.resL ys = some as) (hp : pvs as = some ps) (hn : n ∉ frzs as) (hr : RetU P f ty es xs ps zs q) :
      Step1 P r s ⟨putT s.t r.d (.p q), upd (frzO s.o (frzs as)) n (some (.row ty es zs false))⟩

abbrev Mp := Nat → Option Nat × Nat
def rowVal (m : Option Nat × Nat) (len : Nat) : Value :=
  match m.1 with
  | some b => .slice (some ⟨b, 0, none⟩) len m.2
  | none => .slice none 0 0
def RepT (F : Fz) (m : Mp) : T → Value → Prop
  | .p x, v => Rep F x v
  | .nil, v => v = .slice none 0 0
  | .own n off, v => ∃ b, (m n).1 = some b ∧ v = .pointer (some ⟨b, off, none⟩)
  | .row n len, v => v = rowVal (m n) len ∧ ((m n).1 = none → len = 0)
  | .rp n es i off, v => ∃ b, (m n).1 = some b ∧ v = .pointer (some ⟨b, i * es + off, none⟩)
  | .mp n, v => ∃ b, (m n).1 = some b ∧ v = .map (some b)

def OwnOk (F : Fz) (w : World) (B : Nat) (m : Option Nat × Nat) : Own → Prop
  | .box cells fz => ∃ b cs ty, m.1 = some b ∧ B ≤ b ∧ w.heap[b]? = some (.cells cs ty (0, 0)) ∧ RepL F cells cs.toList ∧ (∀ y ∈ cs.toList, y.oneCell' = true) ∧ (fz = false → noneF F b)
  | .row ty es xs fz => (∀ x ∈ xs, x.length = es) ∧ ∃ ys, w.ownsRow B ty es (rowVal m xs.length) xs.length ys ∧ RepL F xs.flatten ys ∧ (∀ y ∈ ys, y.oneCell' = true) ∧ (m.1 = none → xs = []) ∧
      ∀ b, m.1 = some b → (∀ o y, F b o = some y → o < xs.length * es) ∧ (fz = false → noneF F b)
  | .mp kt et es => ∃ b ents clock, m.1 = some b ∧ B ≤ b ∧ w.heap[b]? = some (.map ents clock) ∧ (∀ e ∈ ents.toList, e.born < clock) ∧
      ents.size = es.length ∧ (∀ (j : Nat) (k : ByteArray) (p : PV) (e : MapEntry), es[j]? = some (k, p) → ents[j]? = some e → e.key = .string k ∧ Rep F p e.val)

structure BelowX (B : Nat) (w0 w : World) : Prop where
  os : w.os = w0.os
  tape : w.tape = w0.tape
  output : w.output = w0.output
  size : w0.heap.size ≤ w.heap.size
  block : ∀ k, k < w0.heap.size → k ≠ B → w.heap[k]? = w0.heap[k]?

abbrev LN : Nat := 999999

structure InvP (B : Nat) (w0 : World) (F0 : Fz) (nt : Nat) (s : St) (a : Act) (w : World) (F : Fz) (m : Mp) : Prop where
  defers : a.defers = []
  size : a.tmps.size = nt
  below : BelowX B w0 w
  base : B ≤ w0.heap.size
  on : FzOn B F0 F
  fin : FzIn w F
  tmps : ∀ k, k < nt → RepT F m (s.t k) (a.tmps.getD k undef)
  own : ∀ n x, s.o n = some x → OwnOk F w B (m n) x
  inj : ∀ n n' b, (s.o n).isSome = true → (s.o n').isSome = true → (m n).1 = some b → (m n').1 = some b → n = n'
  ownL : ∀ n b, (s.o n).isSome = true → (m n).1 = some b → b = B ∨ w0.heap.size ≤ b
  mfix : m LN = (some B, w0.drawn)
  ntle : nt ≤ LN

def Inv (B : Nat) (w0 : World) (F0 : Fz) (nt : Nat) (s : St) (a : Act) (w : World) : Prop := ∃ F m, InvP B w0 F0 nt s a w F m

end Go.Fw

set_option linter.unusedVariables false
set_option linter.unusedSimpArgs false
namespace Go.Fw
open Go.RowKit

def zp : Value → Option PV
  | .agg _ | .tuple _ => none
  | .slice none 0 0 => some (.sl [] [])
  | v => some (.v v)
def zps : List Value → Option (List PV)
  | [] => some []
  | v :: r => (zp v).bind fun p => (zps r).map (p :: ·)
def zeroP (P : Program) (t : TypeId) : Option (List PV) :=
  match P.info? t with
  | some i => (match i.zero with | some z => zps z.cells.toList | none => none)
  | none => none
def zvP (P : Program) (t : TypeId) : Option PV :=
  match P.info? t with
  | some i => (match i.zero with | some (.agg cs) => (zps cs.toList).map .agg | some z => zp z | none => none)
  | none => none
def isAggD : TypeDesc → Bool
  | .struct _ | .array _ _ => true
  | _ => false
def placeP (P : Program) (t : TypeId) (i : Nat) : Option (Nat × Nat) :=
  match P.underlying t with
  | some (.struct fs) => (fs[i]?).map fun f => (f.offset, P.cellsOf f.type)
  | some (.array _ e) => some (i * P.cellsOf e, P.cellsOf e)
  | _ => none
def mapO {α β : Type} (f : α → Option β) : List α → Option (List β)
  | [] => some []
  | x :: xs => (f x).bind fun y => (mapO f xs).map (y :: ·)
def sizedB (P : Program) (t : TypeId) : Bool := match P.underlying t with | some (.struct fs) => fs.all fun f => (P.info? f.type).isSome | some (.array _ e) => (P.info? e).isSome | _ => false

def flatFs (P : Program) (g : TypeId → Option (List Ck)) : List Field → Nat → Option (List Ck)
  | [], _ => some []
  | f :: fs, off => (g f.type).bind fun js => if f.name ≠ "_" ∧ f.offset = off ∧ P.cellsOf f.type = js.length ∧ 0 < js.length then (flatFs P g fs (off + js.length)).map (js ++ ·) else none
def flatK (P : Program) : Nat → TypeId → Option (List Ck)
  | 0, _ => none
  | d + 1, t =>
    match P.underlying t with
    | some .bool => some [.b]
    | some (.int k) => some [.i k]
    | some .string => some [.s]
    | some (.struct fs) => if P.stoodInHeld t then none else flatFs P (flatK P d) fs.toList 0
    | some (.array n e) => (flatK P d e).bind fun js => if P.cellsOf e = js.length ∧ 0 < js.length then some (List.replicate n js).flatten else none
    | _ => none

def entersB (P : Program) (f : FuncId) : Bool :=
  match P.funcs[f]? with
  | some fn => fn.name != "runtime.NumGoroutine" && fn.body.isSome
  | none => false

def trKd (P : Program) (op : Op) : Option (Kd × List Operand) :=
  match op with
  | .move x => some (.mv, [x])
  | .assign x => some (.mv, [x])
  | .pick c a b => some (.pick, [c, a, b])
  | .alloc e => (zeroP P e).map fun z => (.alloc z, [])
  | .box _ x => some (.box, [x])
  | .build t parts => (zeroP P t).bind fun z => (mapO (placeP P t) (parts.toList.map (·.1))).bind fun pl => if sizedB P t then some (.build z pl, parts.toList.map (·.2)) else none
  | .buildSlice t n parts =>
    match P.underlying t with
    | some (.slice e) => (zeroP P e).bind fun z => if z.length = P.cellsOf e ∧ 0 < P.cellsOf e ∧ n * P.cellsOf e ≤ 16777216 then some (.bsl e (P.cellsOf e) n z (parts.toList.map (·.1)), parts.toList.map (·.2)) else none
    | _ => none
  | .load t a => match P.underlying t with | some d => if isAggD d || P.cellsOf t == 1 then some (.load (P.cellsOf t) (isAggD d), [a]) else none | none => none
  | .store t a x => if (P.info? t).isSome then some (.store (P.cellsOf t), [a, x]) else none
  | .binOp op xt x y _ =>
    match P.underlying xt with
    | some (.int _) => some (.bin op, [x, y])
    | some .string => some (.bin op, [x, y])
    | some .bool => match op with | .eql => some (.beq false, [x, y]) | .neq => some (.beq true, [x, y]) | _ => none
    | some d => if isAggD d && !P.eqGuardType P.depth xt then (flatK P 64 xt).bind fun ks => match op with | .eql => some (.eqs false ks, [x, y]) | .neq => some (.eqs true ks, [x, y]) | _ => none else none
    | none => none
  | .unOp op _ x => some (.un op, [x])
  | .convert src dst x => match P.underlying src, P.underlying dst with | some (.int _), some (.int k) => some (.conv k, [x]) | _, _ => none
  | .makeFunc (.func f) first caps => if first.isEmpty then some (.mkf f, caps.toList) else none
  | .slice t x lo hi mx =>
    if mx.isSome then none else
    match P.underlying t with
    | some (.slice e) => if (P.info? e).isSome then some (.slc (P.cellsOf e) lo.isSome hi.isSome, x :: (lo.toList ++ hi.toList)) else none
    | some .string => some (.sstr lo.isSome hi.isSome, x :: (lo.toList ++ hi.toList))
    | some (.array n e) => if (P.info? e).isSome = true ∧ n ≤ maxLen then some (.sarr (P.cellsOf e) n lo.isSome hi.isSome, x :: (lo.toList ++ hi.toList)) else none
    | _ => none
  | .fieldAddr s x f =>
    match P.underlying s with
    | some (.struct fs) => match fs[f]? with | some fd => if (P.info? fd.type).isSome ∧ P.cellsOf fd.type ≠ 0 then some (.fad fd.offset, [x]) else none | none => none
    | _ => none
  | .field t x f =>
    match P.underlying t with
    | some (.struct fs) => match fs[f]? with | some fd => (match P.underlying fd.type with | some d => some (.fld fd.offset (P.cellsOf fd.type) (isAggD d), [x]) | none => none) | none => none
    | _ => none
  | .indexAddr t x i =>
    match P.underlying t with
    | some (.slice e) => if (P.info? e).isSome then some (.iad (P.cellsOf e), [x, i]) else none
    | some (.array n e) => if (P.info? e).isSome then some (.aad (P.cellsOf e) n, [x, i]) else none
    | _ => none
  | .index t x i =>
    match P.underlying t with
    | some (.array n e) => match P.underlying e with | some d => some (.idx (P.cellsOf e) n (isAggD d), [x, i]) | none => none
    | some .string => some (.sidx, [x, i])
    | _ => none
  | .extract x i => some (.ext i, [x])
  | .makeSlice t l c =>
    match P.underlying t with
    | some (.slice e) => (zeroP P e).bind fun z => if z.length = P.cellsOf e ∧ 0 < P.cellsOf e ∧ 0 < P.bytesOf e then some (.mks e (P.cellsOf e) (P.bytesOf e) z, [l, c]) else none
    | _ => none
  | .makeMap t none => match P.underlying t with | some (.map k e) => some (.mkmap k e, []) | _ => none
  | .lookup t m k ok => match P.underlying t with | some (.map kt e) => (match P.underlying kt with | some .string => (zvP P e).map fun z => (.look kt z ok, [m, k]) | _ => none) | _ => none
  | .mapUpdate t m k v => match P.underlying t with | some (.map kt e) => (match P.underlying kt with | some .string => some (.mset kt e, [m, k, v]) | _ => none) | _ => none
  | .call { callee := .value (.func f), args, .. } => if entersB P f then some (.call f, args.toList) else none
  | .call { callee := .value x, args, .. } => some (.callv, x :: args.toList)
  | .call { callee := .builtin .len, args, argTypes } =>
    match args.toList, argTypes.toList with
    | [x], [t] => (match P.underlying t with | some .string => some (.len 1, [x]) | some (.slice _) => some (.len 0, [x]) | some (.map _ _) => some (.len 2, [x]) | _ => none)
    | _, _ => none
  | .call { callee := .builtin .max, args, .. } => (match args.toList with | [x, y] => some (.bmax, [x, y]) | _ => none)
  | .call { callee := .builtin .append, args, argTypes } =>
    match args.toList, argTypes.toList with
    | [x, y], [t, t'] =>
      if t = t' then
        match P.underlying t with
        | some (.slice e) => (match P.info? e with | some i => (match i.zero with | some z => if z.cells.size = i.size ∧ 0 < i.size ∧ 0 < i.bytes then some (.app e i.size i.bytes, [x, y]) else none | none => none) | none => none)
        | _ => none
      else none
    | _, _ => none
  | .call { callee := .builtin .delete, args, argTypes } =>
    match args.toList, argTypes.toList with
    | [x, y], [t, _] => (match P.underlying t with | some (.map kt _) => (match P.underlying kt with | some .string => some (.mdel kt, [x, y]) | _ => none) | _ => none)
    | _, _ => none
  | _ => none

def trOpd (nt : Nat) : Operand → Option Opd
  | .tmp n => if n < nt then some (.t n) else none
  | .const (.slice none 0 0) => some (.c .nil)
  | .const v => some (.c (.p (.v v)))
  | .func f => some (.c (.p (.clo f [])))
  | .global _ => none

def trGuard (ops : Array Oper) (nt : Nat) : Option (Nat × Bool) → Option (Option (Nat × Bool))
  | none => some none
  | some (j, b) => ((ops[j]?).bind (·.dst)).bind fun t => if t < nt then some (some (t, b)) else none
def dstOk (nt : Nat) : Option Nat → Bool
  | none => true
  | some d => d < nt
def trOp (P : Program) (nt : Nat) (ops : Array Oper) (o : Oper) : Option RG :=
  (trKd P o.op).bind fun kx => (mapO (trOpd nt) kx.2).bind fun as => (trGuard ops nt o.guard).bind fun g => if dstOk nt o.dst then some ⟨o.dst, kx.1, as, g⟩ else none

theorem zp_rep {F : Fz} {v : Value} {p : PV} (h : zp v = some p) : Rep F p v ∧ v.oneCell' = true := by
  unfold zp at h
  split at h
  · cases h
  · cases h
  · cases h; exact ⟨.sl [] [] 0 0 0 0 none [] (by simp) (by simp) (by simp [maxLen]) (by simp) (by simp) (by simp) (by simp) (by simp), rfl⟩
  · rename_i h1 h2 h3
    cases h
    refine ⟨.v _, ?_⟩
    cases v <;> first | rfl | (exact absurd rfl (h1 _)) | (exact absurd rfl (h2 _))
theorem zps_rep {F : Fz} : ∀ {l : List Value} {ps : List PV}, zps l = some ps → RepL F ps l ∧ ∀ y ∈ l, y.oneCell' = true
  | [], ps, h => by simp [zps] at h; subst h; exact ⟨RepL.nil, by simp⟩
  | v :: l, ps, h => by
    simp only [zps, Option.bind_eq_some_iff, Option.map_eq_some_iff] at h
    obtain ⟨p, hp, qs, hq, rfl⟩ := h
    have h1 := zp_rep (F := F) hp
    have h2 := zps_rep (F := F) hq
    exact ⟨RepL.cons h1.1 h2.1, by simp only [List.mem_cons]; rintro y (rfl | hy); exact h1.2; exact h2.2 y hy⟩

theorem FzOn.refl (n : Nat) (F : Fz) : FzOn n F F := ⟨F.le_refl, fun _ _ _ => rfl⟩
theorem FzOn.trans {n m : Nat} {F G H : Fz} (h : FzOn n F G) (k : FzOn m G H) (hn : n ≤ m) : FzOn n F H := ⟨Fz.le_trans h.le k.le, fun b o hb => (k.old b o (by omega)).trans (h.old b o hb)⟩

theorem OwnOk.lt {F : Fz} {w : World} {B : Nat} {m : Option Nat × Nat} {x : Own} (h : OwnOk F w B m x) {b : Nat} (hb : m.1 = some b) : B ≤ b ∧ b < w.heap.size := by
  cases x with
  | box cells fz =>
    obtain ⟨b', cs, ty, h1, h2, h3, _⟩ := h
    rw [h1] at hb; cases hb
    exact ⟨h2, (Array.getElem?_eq_some_iff.1 h3).1⟩
  | row ty es xs fz =>
    obtain ⟨_, ys, h3, _⟩ := h
    exact h3.lt b (by simp [rowVal, hb, Value.ownBlock])
  | mp kt et es =>
    obtain ⟨b', ents, c, h1, h2, h3, _⟩ := h
    rw [h1] at hb; cases hb
    exact ⟨h2, (Array.getElem?_eq_some_iff.1 h3).1⟩

theorem ownsRow_block {w w' : World} {B ty es n : Nat} {v : Value} {ys : List Value} (h : w.ownsRow B ty es v n ys) (hb : ∀ b, v.ownBlock = some b → w'.heap[b]? = w.heap[b]?) : w'.ownsRow B ty es v n ys := by
  refine ⟨h.1, ?_⟩
  rcases h.2 with h2 | ⟨g, cap, cur, rfl, h3, h4, r⟩
  · exact .inl h2
  · exact .inr ⟨g, cap, cur, rfl, h3, by rw [hb g rfl]; exact h4, r⟩

theorem OwnOk.keep {F F' : Fz} {w w' : World} {B : Nat} {m : Option Nat × Nat} {x : Own} (h : OwnOk F w B m x) (hw : ∀ b, m.1 = some b → w'.heap[b]? = w.heap[b]?) (hF : F.le F')
    (hold : ∀ b, m.1 = some b → ∀ o, F' b o = F b o) : OwnOk F' w' B m x := by
  cases x with
  | box cells fz =>
    obtain ⟨b, cs, ty, h1, h2, h3, h4, h5, h6⟩ := h
    exact ⟨b, cs, ty, h1, h2, by rw [hw b h1]; exact h3, h4.mono hF, h5, fun e o => by rw [hold b h1]; exact h6 e o⟩
  | row ty es xs fz =>
    obtain ⟨h1, ys, h2, h3, h4, h5, h6⟩ := h
    refine ⟨h1, ys, ownsRow_block h2 (fun b hb => hw b ?_), h3.mono hF, h4, h5, fun b hb => ⟨fun o y e => ?_, fun e o => ?_⟩⟩
    · unfold rowVal at hb; split at hb
      · rename_i b' e; simp [Value.ownBlock] at hb; subst hb; exact e
      · simp [Value.ownBlock] at hb
    · rw [hold b hb] at e; exact (h6 b hb).1 o y e
    · rw [hold b hb]; exact (h6 b hb).2 e o
  | mp kt et es =>
    obtain ⟨b, ents, c, h1, h2, h3, h4, h5, h6⟩ := h
    exact ⟨b, ents, c, h1, h2, by rw [hw b h1]; exact h3, h4, h5, fun j k p e a1 a2 => ⟨(h6 j k p e a1 a2).1, (h6 j k p e a1 a2).2.mono hF⟩⟩

theorem RepT.mono {F F' : Fz} (h : F.le F') {m : Mp} {t : T} {v : Value} (hr : RepT F m t v) : RepT F' m t v := by
  cases t <;> first | exact Rep.mono h hr | exact hr
theorem RepT.upd {F : Fz} {m : Mp} {t : T} {v : Value} (hr : RepT F m t v) {d : Nat} (hd : t.name ≠ some d) (x : Option Nat × Nat) : RepT F (upd m d x) t v := by
  cases t with
  | p _ => exact hr
  | nil => exact hr
  | own n off => have : n ≠ d := fun e => hd (by simp [T.name, e]); simpa [RepT, Fw.upd, this] using hr
  | row n l => have : n ≠ d := fun e => hd (by simp [T.name, e]); simpa [RepT, Fw.upd, this] using hr
  | rp n es i off => have : n ≠ d := fun e => hd (by simp [T.name, e]); simpa [RepT, Fw.upd, this] using hr
  | mp n => have : n ≠ d := fun e => hd (by simp [T.name, e]); simpa [RepT, Fw.upd, this] using hr

section
variable {B nt : Nat} {w0 : World} {F0 : Fz} {s : St} {a : Act} {w : World} {F : Fz} {m : Mp}

theorem BelowX.trans {B : Nat} {w0 w w' : World} (h : BelowX B w0 w) (hb : Below w.heap.size w w') : BelowX B w0 w' :=
  ⟨hb.os.trans h.os, hb.tape.trans h.tape, hb.output.trans h.output, Nat.le_trans h.size hb.size, fun k hk hne => (hb.block k (Nat.lt_of_lt_of_le hk h.size)).trans (h.block k hk hne)⟩
theorem BelowX.below {w0 w : World} (h : BelowX w0.heap.size w0 w) : Below w0.heap.size w0 w := ⟨h.os, h.tape, h.output, h.size, fun k hk => h.block k hk (Nat.ne_of_lt hk)⟩
theorem BelowX.refl (B : Nat) (w : World) : BelowX B w w := ⟨rfl, rfl, rfl, Nat.le_refl _, fun _ _ _ => rfl⟩
theorem InvP.hB (h : InvP B w0 F0 nt s a w F m) : B ≤ w.heap.size := Nat.le_trans h.base h.below.size
theorem InvP.world (h : InvP B w0 F0 nt s a w F m) {w' : World} {F' : Fz} (hb : Below w.heap.size w w') (hF : FzOn w.heap.size F F') (hf : FzIn w' F') : InvP B w0 F0 nt s a w' F' m := by
  have hsz : B ≤ w.heap.size := h.hB
  refine ⟨h.defers, h.size, h.below.trans hb, h.base, h.on.trans hF hsz, hf, fun k hk => (h.tmps k hk).mono hF.le, fun n x hx => ?_, h.inj, h.ownL, h.mfix, h.ntle⟩
  have ho := h.own n x hx
  exact ho.keep (fun b hb' => hb.block b (ho.lt hb').2) hF.le fun b hb' o => hF.old b o (ho.lt hb').2

theorem getD_put (a : Act) (d k : Nat) (v : Value) (hd : d < a.tmps.size) : (a.put (some d) v).tmps.getD k undef = if k = d then v else a.tmps.getD k undef := by
  simp only [Act.put, Array.getD_eq_getD_getElem?, Array.getElem?_setIfInBounds]
  by_cases h : k = d
  · subst h; simp [hd]
  · simp [h, Ne.symm h]

theorem InvP.put (h : InvP B w0 F0 nt s a w F m) {d : Option Nat} {t : T} {v : Value} (hr : RepT F m t v) (hd : dstOk nt d = true) : InvP B w0 F0 nt ⟨putT s.t d t, s.o⟩ (a.put d v) w F m := by
  cases d with
  | none => exact h
  | some d =>
    have hd' : d < nt := by simpa [dstOk] using hd
    refine ⟨h.defers, by simp [Act.put, h.size], h.below, h.base, h.on, h.fin, fun k hk => ?_, h.own, h.inj, h.ownL, h.mfix, h.ntle⟩
    rw [getD_put a d k v (by rw [h.size]; exact hd')]
    simp only [putT, Fw.upd]
    by_cases e : k = d
    · subst e; simpa using hr
    · simpa [e] using h.tmps k hk

theorem dstOk_some {d : Nat} (h : d < nt) : dstOk nt (some d) = true := by simpa [dstOk] using h
end

end Go.Fw

set_option linter.unusedVariables false
set_option linter.unusedSimpArgs false
namespace Go.Fw
open Go.RowKit

def Own.flat : Own → List PV
  | .box cs _ => cs
  | .row _ _ xs _ => xs.flatten
  | .mp _ _ _ => []
theorem Own.flat_freeze (x : Own) : x.freeze.flat = x.flat := by cases x <;> rfl
theorem Own.freeze_freeze (x : Own) : x.freeze.freeze = x.freeze := by cases x <;> rfl

def Filled (F : Fz) (m : Option Nat × Nat) (x : Own) : Prop :=
  ∃ ys, RepL F x.flat ys ∧ (∀ y ∈ ys, y.oneCell' = true) ∧ ∀ b, m.1 = some b → ∀ (j : Nat) (y : Value), ys[j]? = some y → F b j = some y
theorem Filled.mono {F F' : Fz} (h : F.le F') {m : Option Nat × Nat} {x : Own} (k : Filled F m x) : Filled F' m x := by
  obtain ⟨ys, h1, h2, h3⟩ := k
  exact ⟨ys, h1.mono h, h2, fun b hb j y e => h _ _ _ (h3 b hb j y e)⟩

theorem cell_of_cells {w : World} {b j : Nat} {cs : Array Value} {ty : TypeId} {fr : Nat × Nat} (h : w.heap[b]? = some (.cells cs ty fr)) : w.cell? ⟨b, j, none⟩ = cs[j]? := by
  simp [World.cell?, h]

theorem OwnOk.known {F : Fz} {w : World} {B : Nat} {m : Option Nat × Nat} {x : Own} (h : OwnOk F w B m x) (hf : FzIn w F) :
    (∃ kt et es, x = .mp kt et es) ∨ ∃ ys, RepL F x.flat ys ∧ (∀ y ∈ ys, y.oneCell' = true) ∧ (m.1 = none → ys = []) ∧
      ∀ b, m.1 = some b → (∀ (j : Nat) (y : Value), ys[j]? = some y → w.cell? ⟨b, j, none⟩ = some y) ∧ ∀ o y, F b o = some y → ys[o]? = some y := by
  cases x with
  | box cells fz =>
    obtain ⟨b, cs, ty, h1, h2, h3, h4, h5, h6⟩ := h
    refine .inr ⟨cs.toList, h4, h5, (fun e => by rw [h1] at e; cases e), fun b' hb => ?_⟩
    rw [h1] at hb; cases hb
    refine ⟨fun j y e => by rw [cell_of_cells h3]; simpa using e, fun o y e => ?_⟩
    have := hf b o y e
    rw [cell_of_cells h3] at this
    simpa using this
  | row ty es xs fz =>
    obtain ⟨h1, ys, h2, h3, h4, h5, h6⟩ := h
    refine .inr ⟨ys, h3, h4, fun e => ?_, fun b hb => ?_⟩
    · have hx := h5 e; subst hx
      have := h3.1
      exact List.eq_nil_of_length_eq_zero (by simpa using this)
    · have hc := h2.cells (g := b) (by simp [rowVal, hb, Value.ownBlock])
      have hc' : ∀ (j : Nat) (y : Value), ys[j]? = some y → w.cell? ⟨b, j, none⟩ = some y := fun j y e => by
        have := hc j y e
        rwa [show (⟨b, 0, none⟩ : Addr).add j = ⟨b, j, none⟩ by unfold Addr.add; split <;> simp_all] at this
      refine ⟨hc', fun o y e => ?_⟩
      have hlt := (h6 b hb).1 o y e
      have hl : ys.length = xs.length * es := h2.1
      have hoy : o < ys.length := by omega
      have h7 := hc' o ys[o] (by simp [hoy])
      have h8 := hf b o y e
      rw [h7] at h8
      cases h8
      simp [hoy]
  | mp kt et es => exact .inl ⟨kt, et, es, rfl⟩

def frz1 (o : Nat → Option Own) (n : Nat) : Nat → Option Own := fun k => if k = n then (o k).map Own.freeze else o k
theorem frzO_nil (o : Nat → Option Own) : frzO o [] = o := by funext k; simp [frzO]
theorem frzO_cons (o : Nat → Option Own) (n : Nat) (ns : List Nat) : frzO o (n :: ns) = frzO (frz1 o n) ns := by
  funext k
  simp only [frzO, frz1, List.mem_cons]
  by_cases h1 : k = n <;> by_cases h2 : k ∈ ns <;> simp [h1, h2]
  · subst h1; simp [h2]; cases o k <;> simp [Own.freeze_freeze]
  · subst h1; simp [h2]

section
variable {B nt : Nat} {w0 : World} {F0 : Fz} {s : St} {a : Act} {w : World} {F : Fz} {m : Mp}

theorem InvP.frz1 (h : InvP B w0 F0 nt s a w F m) (n : Nat) :
    ∃ F', InvP B w0 F0 nt ⟨s.t, frz1 s.o n⟩ a w F' m ∧ F.le F' ∧ ∀ x, s.o n = some x → Filled F' (m n) x := by
  have hB : B ≤ w.heap.size := h.hB
  cases hx : s.o n with
  | none =>
    refine ⟨F, ?_, F.le_refl, fun x e => by cases e⟩
    have : Fw.frz1 s.o n = s.o := by funext k; simp only [Fw.frz1]; split; rename_i e; subst e; simp [hx]; rfl
    rw [this]; exact h
  | some x =>
    have ho := h.own n x hx
    rcases ho.known h.fin with ⟨kt, et, es, rfl⟩ | ⟨ys, hr, h1, hnil, hk⟩
    · refine ⟨F, ?_, F.le_refl, fun x e => ?_⟩
      · have : Fw.frz1 s.o n = s.o := by funext k; simp only [Fw.frz1]; split; rename_i e; subst e; simp [hx, Own.freeze]; rfl
        rw [this]; exact h
      · cases e; exact ⟨[], RepL.nil, by simp, fun b _ j y e => by simp at e⟩
    · cases hb : (m n).1 with
      | none =>
        refine ⟨F, ⟨h.defers, h.size, h.below, h.base, h.on, h.fin, h.tmps, fun k z hz => ?_, fun k k' b hk1 hk2 => h.inj k k' b ?_ ?_, fun k b hk1 => h.ownL k b ?_, h.mfix, h.ntle⟩, F.le_refl, fun z e => ?_⟩
        · simp only [Fw.frz1] at hz
          split at hz
          · rename_i e; subst e
            rw [hx] at hz; cases hz
            cases x with
            | box cells fz => obtain ⟨b, _, _, e1, _⟩ := ho; rw [hb] at e1; cases e1
            | row ty es xs fz =>
              obtain ⟨g1, ys', g2, g3, g4, g5, g6⟩ := ho
              exact ⟨g1, ys', g2, g3, g4, g5, fun b e => by rw [hb] at e; cases e⟩
            | mp kt et es => exact ho
          · exact h.own k z hz
        · simp only [Fw.frz1] at hk1; split at hk1 <;> simp_all
        · simp only [Fw.frz1] at hk2; split at hk2 <;> simp_all
        · simp only [Fw.frz1] at hk1; split at hk1 <;> simp_all
        · cases e; exact ⟨ys, hr, h1, fun b e => by rw [hb] at e; cases e⟩
      | some b =>
        have hlt := ho.lt hb
        obtain ⟨hc, hf⟩ := hk b hb
        let F' : Fz := fun b' o => if b' = b then ys[o]? else F b' o
        have hle : F.le F' := fun b' o y e => by
          show (if b' = b then ys[o]? else F b' o) = some y
          split
          · rename_i e'; subst e'; exact hf o y e
          · exact e
        have hF' : ∀ b' o, b' ≠ b → F' b' o = F b' o := fun b' o e => by show (if b' = b then _ else _) = _; rw [if_neg e]
        have hFb : ∀ o, F' b o = ys[o]? := fun o => by show (if b = b then _ else _) = _; rw [if_pos rfl]
        refine ⟨F', ⟨h.defers, h.size, h.below, h.base, ⟨Fz.le_trans h.on.le hle, fun b' o e => ?_⟩, fun b' o y e => ?_, fun k hk => (h.tmps k hk).mono hle, fun k z hz => ?_, fun k k' b hk1 hk2 => h.inj k k' b ?_ ?_, fun k b hk1 => h.ownL k b ?_, h.mfix, h.ntle⟩, hle, fun z e => ?_⟩
        · rw [hF' b' o (by omega)]; exact h.on.old b' o e
        · by_cases e' : b' = b
          · subst e'; rw [hFb] at e; exact hc o y e
          · rw [hF' b' o e'] at e; exact h.fin b' o y e
        · simp only [Fw.frz1] at hz
          split at hz
          · rename_i e; subst e
            rw [hx] at hz; cases hz
            cases x with
            | box cells fz =>
              obtain ⟨b', cs, ty, g1, g2, g3, g4, g5, g6⟩ := ho
              exact ⟨b', cs, ty, g1, g2, g3, g4.mono hle, g5, fun e => by cases e⟩
            | row ty es xs fz =>
              obtain ⟨g1, ys', g2, g3, g4, g5, g6⟩ := ho
              refine ⟨g1, ys', g2, g3.mono hle, g4, g5, fun b'' e => ⟨fun o y e' => ?_, fun e => by cases e⟩⟩
              rw [hb] at e; cases e
              rw [hFb] at e'
              have hl := hr.1
              have := (List.getElem?_eq_some_iff.1 e').1
              rw [hl] at this
              simpa [Own.flat, flatten_length g1] using this
            | mp kt et es =>
              obtain ⟨b', ents, c, g1, g2, g3, g4, g5, g6⟩ := ho
              exact ⟨b', ents, c, g1, g2, g3, g4, g5, fun j k p e a1 a2 => ⟨(g6 j k p e a1 a2).1, (g6 j k p e a1 a2).2.mono hle⟩⟩
          · rename_i hkn
            refine (h.own k z hz).keep (fun _ _ => rfl) hle fun b' hb' o => hF' b' o fun e => ?_
            subst e
            exact hkn (h.inj k n b' (by simp [hz]) (by simp [hx]) hb' hb)
        · simp only [Fw.frz1] at hk1; split at hk1 <;> simp_all
        · simp only [Fw.frz1] at hk2; split at hk2 <;> simp_all
        · simp only [Fw.frz1] at hk1; split at hk1 <;> simp_all
        · cases e; exact ⟨ys, hr.mono hle, h1, fun b' e j y e' => by rw [hb] at e; cases e; rw [hFb]; exact e'⟩

theorem InvP.frz (ns : List Nat) : ∀ {s : St} {F : Fz}, InvP B w0 F0 nt s a w F m →
    ∃ F', InvP B w0 F0 nt ⟨s.t, frzO s.o ns⟩ a w F' m ∧ F.le F' ∧ ∀ n ∈ ns, ∀ x, s.o n = some x → Filled F' (m n) x := by
  induction ns with
  | nil => intro s F h; exact ⟨F, by rw [frzO_nil]; exact h, F.le_refl, by simp⟩
  | cons n ns ih =>
    intro s F h
    obtain ⟨F1, h1, hle1, hf1⟩ := h.frz1 n
    obtain ⟨F2, h2, hle2, hf2⟩ := ih h1
    refine ⟨F2, by rw [frzO_cons]; exact h2, Fz.le_trans hle1 hle2, fun k hk x hx => ?_⟩
    rcases List.mem_cons.1 hk with e | hk
    · subst e; exact (hf1 x hx).mono hle2
    · by_cases e : k = n
      · subst e; exact (hf1 x hx).mono hle2
      · exact hf2 k hk x (by simp [Fw.frz1, e, hx])

def ArgOk (F : Fz) (w : World) (m : Mp) (ns : List Nat) : RA → Value → Prop
  | .p x, v => Rep F x v
  | .nil, v => v = .slice none 0 0
  | .own n off cells, v => ∃ b ys, (m n).1 = some b ∧ v = .pointer (some ⟨b, off, none⟩) ∧ RepL F cells ys ∧ (∀ y ∈ ys, y.oneCell' = true) ∧
      (∀ (j : Nat) (y : Value), ys[j]? = some y → w.cell? ⟨b, j, none⟩ = some y) ∧ (n ∈ ns → ∀ (j : Nat) (y : Value), ys[j]? = some y → F b j = some y)
  | .row n l es xs, v => v = rowVal (m n) l ∧ ((m n).1 = none → xs = []) ∧ l ≤ xs.length ∧ (∀ x ∈ xs, x.length = es) ∧ ∃ ys, RepL F xs.flatten ys ∧ (∀ y ∈ ys, y.oneCell' = true) ∧
      ∀ b, (m n).1 = some b → xs.length ≤ (m n).2 ∧ (m n).2 ≤ maxLen ∧ (∀ (j : Nat) (y : Value), ys[j]? = some y → w.cell? ⟨b, j, none⟩ = some y) ∧ (n ∈ ns → ∀ (j : Nat) (y : Value), ys[j]? = some y → F b j = some y)
  | .rp n es i off c, v => ∃ b ys, (m n).1 = some b ∧ v = .pointer (some ⟨b, i * es + off, none⟩) ∧ c.length = es ∧ RepL F c ys ∧ (∀ y ∈ ys, y.oneCell' = true) ∧
      ∀ (j : Nat) (y : Value), ys[j]? = some y → w.cell? ⟨b, i * es + j, none⟩ = some y
  | .mp n kt et es, v => ∃ b ents clock, (m n).1 = some b ∧ v = .map (some b) ∧ w.heap[b]? = some (.map ents clock) ∧
      ents.size = es.length ∧ (∀ (j : Nat) (k : ByteArray) (p : PV) (e : MapEntry), es[j]? = some (k, p) → ents[j]? = some e → e.key = .string k ∧ Rep F p e.val)

def ArgsOk (F : Fz) (w : World) (m : Mp) (ns : List Nat) : List RA → List Value → Prop
  | [], [] => True
  | a :: as, v :: vs => ArgOk F w m ns a v ∧ ArgsOk F w m ns as vs
  | _, _ => False

theorem row_cap {w : World} {B ty es n : Nat} {m : Option Nat × Nat} {ys : List Value} (h : w.ownsRow B ty es (rowVal m n) n ys) {b : Nat} (hb : m.1 = some b) : n ≤ m.2 ∧ m.2 ≤ maxLen := by
  rcases h.2 with ⟨e, _⟩ | ⟨g, cap, cur, e, _, _, h1, h2, _⟩
  · simp [rowVal, hb] at e
  · simp only [rowVal, hb, Value.slice.injEq] at e
    obtain ⟨_, _, rfl⟩ := e
    exact ⟨h1, h2⟩

theorem InvP.arg {o0 : Nat → Option Own} {ns : List Nat} (h : InvP B w0 F0 nt ⟨s.t, frzO o0 ns⟩ a w F m) (hfil : ∀ n ∈ ns, ∀ x, o0 n = some x → Filled F (m n) x) {t : T} {v : Value} {ra : RA}
    (hl : lookT o0 t = some ra) (hr : RepT F m t v) : ArgOk F w m ns ra v := by
  have hown : ∀ n x, o0 n = some x → ∃ x', frzO o0 ns n = some x' ∧ x'.flat = x.flat ∧ (x' = x ∨ x' = x.freeze) := fun n x e => by
    by_cases hn : n ∈ ns
    · exact ⟨x.freeze, by simp [frzO, hn, e], x.flat_freeze, .inr rfl⟩
    · exact ⟨x, by simp [frzO, hn, e], rfl, .inl rfl⟩
  cases t with
  | p x => cases hl; exact hr
  | nil => cases hl; exact hr
  | own n off =>
    simp only [lookT] at hl
    split at hl
    · rename_i cells fz e
      cases hl
      obtain ⟨x', hx', hfl, hor⟩ := hown n _ e
      have ho := h.own n x' hx'
      obtain ⟨b, hb, rfl⟩ := hr
      rcases ho.known h.fin with ⟨kt, et, es, rfl⟩ | ⟨ys, hr, h1, _, hk⟩
      · rcases hor with e | e <;> cases e
      · rw [hfl] at hr
        by_cases hn : n ∈ ns
        · obtain ⟨zs, hr2, h12, hz⟩ := hfil n hn _ e
          refine ⟨b, zs, hb, rfl, hr2, h12, fun j y e => h.fin b j y (hz b hb j y e), fun _ => hz b hb⟩
        · exact ⟨b, ys, hb, rfl, hr, h1, (hk b hb).1, fun e => absurd e hn⟩
    · cases hl
  | row n l =>
    simp only [lookT] at hl
    split at hl
    · rename_i ty es xs fz e
      split at hl
      · rename_i hle
        cases hl
        obtain ⟨x', hx', hfl, hor⟩ := hown n _ e
        have ho := h.own n x' hx'
        have hrow : ∃ fz', OwnOk F w B (m n) (.row ty es xs fz') := by rcases hor with rfl | rfl <;> exact ⟨_, ho⟩
        obtain ⟨fz', g1, ys, g2, g3, g4, g5, g6⟩ := hrow
        obtain ⟨rfl, hnil⟩ := hr
        refine ⟨rfl, g5, hle, g1, ?_⟩
        by_cases hn : n ∈ ns
        · obtain ⟨zs, hr2, h12, hz⟩ := hfil n hn _ e
          refine ⟨zs, hr2, h12, fun b hb => ⟨(row_cap g2 hb).1, (row_cap g2 hb).2, fun j y e => h.fin b j y (hz b hb j y e), fun _ => hz b hb⟩⟩
        · refine ⟨ys, g3, g4, fun b hb => ⟨(row_cap g2 hb).1, (row_cap g2 hb).2, fun j y e => ?_, fun e => absurd e hn⟩⟩
          have := g2.cells (g := b) (by simp [rowVal, hb, Value.ownBlock]) j y e
          rwa [show (⟨b, 0, none⟩ : Addr).add j = ⟨b, j, none⟩ by unfold Addr.add; split <;> simp_all] at this
      · cases hl
    · cases hl
  | rp n es i off =>
    simp only [lookT] at hl
    split at hl
    · rename_i ty es' xs fz e
      split at hl
      · rename_i hes
        subst hes
        simp only [Option.map_eq_some_iff] at hl
        obtain ⟨c, hc, rfl⟩ := hl
        obtain ⟨x', hx', hfl, hor⟩ := hown n _ e
        have ho := h.own n x' hx'
        have hrow : ∃ fz', OwnOk F w B (m n) (.row ty es' xs fz') := by rcases hor with rfl | rfl <;> exact ⟨_, ho⟩
        obtain ⟨fz', g1, ys, g2, g3, g4, g5, g6⟩ := hrow
        obtain ⟨b, hb, rfl⟩ := hr
        have hcl : c.length = es' := g1 c (List.mem_of_getElem? hc)
        have hget : ∀ j, j < es' → xs.flatten[i * es' + j]? = c[j]? := fun j hj => by rw [flatten_get g1 i j hj, hc]; rfl
        refine ⟨b, (ys.drop (i * es')).take es', hb, rfl, hcl, ⟨?_, fun j p y e1 e2 => ?_⟩, fun y hy => g4 y (List.mem_of_mem_drop (List.mem_of_mem_take hy)), fun j y e1 => ?_⟩
        · have hi : i < xs.length := (List.getElem?_eq_some_iff.1 hc).1
          have : (i + 1) * es' ≤ xs.length * es' := Nat.mul_le_mul_right _ hi
          have hl := g2.1
          rw [Nat.succ_mul] at this
          simp only [List.length_take, List.length_drop]
          omega
        · rw [List.getElem?_take] at e2
          split at e2
          · rename_i hj
            rw [List.getElem?_drop] at e2
            exact g3.2 _ p y (by rw [hget j hj]; exact e1) e2
          · cases e2
        · rw [List.getElem?_take] at e1
          split at e1
          · rw [List.getElem?_drop] at e1
            have := g2.cells (g := b) (by simp [rowVal, hb, Value.ownBlock]) _ y e1
            rwa [show (⟨b, 0, none⟩ : Addr).add (i * es' + j) = ⟨b, i * es' + j, none⟩ by unfold Addr.add; split <;> simp_all] at this
          · cases e1
      · cases hl
    · cases hl
  | mp n =>
    simp only [lookT] at hl
    split at hl
    · rename_i kt et es e
      cases hl
      obtain ⟨x', hx', hfl, hor⟩ := hown n _ e
      have ho := h.own n x' hx'
      have hmp : OwnOk F w B (m n) (.mp kt et es) := by rcases hor with rfl | rfl <;> exact ho
      obtain ⟨b, ents, c, g1, g2, g3, g4, g5, g6⟩ := hmp
      obtain ⟨b', hb', rfl⟩ := hr
      rw [g1] at hb'; cases hb'
      exact ⟨b, ents, c, g1, rfl, g3, g5, g6⟩
    · cases hl

theorem ArgOk.pv {ns : List Nat} {ra : RA} {v : Value} (h : ArgOk F w m ns ra v) (hn : ∀ n ∈ ra.frz, n ∈ ns) {p : PV} (hp : ra.pv = some p) : Rep F p v := by
  cases ra with
  | p x => cases hp; exact h
  | nil => cases hp; simp only [ArgOk] at h; subst h; exact .sl [] [] 0 0 0 0 none [] (by simp) (by simp) (by simp [maxLen]) (by simp) (by simp) (by simp) (by simp) (by simp)
  | own n off cells =>
    cases hp
    obtain ⟨b, ys, hb, rfl, h1, h2, h3, h4⟩ := h
    have := Rep.ref (F := F) cells off b 0 ys h1.1 h2 (fun j y e => by rw [Nat.zero_add]; exact h4 (hn n (by simp [RA.frz])) j y e) h1.2
    simpa using this
  | row n l es xs =>
    cases hp
    obtain ⟨rfl, hnil, hle, hw, ys, h1, h2, h3⟩ := h
    have hlen : (xs.take l).length = l := by simp [hle]
    have hap : xs.take l ++ xs.drop l = xs := List.take_append_drop l xs
    cases hb : (m n).1 with
    | none =>
      have := hnil hb
      subst this
      have : l = 0 := by simpa using hle
      subst this
      simp only [rowVal, hb]
      exact .sl [] [] 0 0 0 0 none [] (by simp) (by simp) (by simp [maxLen]) (by simp) (by simp) (by simp) (by simp) (by simp)
    | some b =>
      obtain ⟨k1, k2, k3, k4⟩ := h3 b hb
      have := Rep.sl (F := F) (xs.take l) (xs.drop l) es b 0 (m n).2 (some ⟨b, 0, none⟩) ys (by rw [hap]; exact hw) (by rw [hap]; exact k1) k2 (fun _ => rfl) (by rw [hap]; exact h1.1) h2
        (fun j y e => by rw [Nat.zero_add]; exact k4 (hn n (by simp [RA.frz])) j y e) (by rw [hap]; exact h1.2)
      rw [hlen] at this
      simpa [rowVal, hb] using this
  | rp n es i off c => cases hp
  | mp n kt et es => cases hp

theorem ArgsOk.pvs {ns : List Nat} : ∀ {as : List RA} {vs : List Value}, ArgsOk F w m ns as vs → (∀ n ∈ frzs as, n ∈ ns) → ∀ {ps : List PV}, pvs as = some ps → RepL F ps vs
  | [], [], _, _, ps, h => by cases h; exact RepL.nil
  | a :: as, v :: vs, ⟨h1, h2⟩, hn, ps, h => by
    simp only [Fw.pvs, Option.bind_eq_some_iff, Option.map_eq_some_iff] at h
    obtain ⟨p, hp, qs, hq, rfl⟩ := h
    exact RepL.cons (h1.pv (fun n hn' => hn n (by simp [frzs, hn'])) hp) (h2.pvs (fun n hn' => hn n (by simp only [frzs, List.flatMap_cons, List.mem_append]; exact .inr hn')) hq)
  | [], _ :: _, h, _, _, _ => h.elim
  | _ :: _, [], h, _, _, _ => h.elim

theorem trOpd_rep {x : Operand} {y : Opd} (h : InvP B w0 F0 nt s a w F m) (hx : trOpd nt x = some y) : RepT F m (s.ev y) (a.eval x) := by
  unfold trOpd at hx
  split at hx
  · rename_i n
    split at hx
    · rename_i hn; cases hx; exact h.tmps n hn
    · cases hx
  · cases hx; rfl
  · cases hx; exact Rep.v _
  · cases hx; exact Rep.clo _ [] [] rfl (by simp)
  · cases hx

theorem InvP.args {ns : List Nat} (h : InvP B w0 F0 nt ⟨s.t, frzO s.o ns⟩ a w F m) (hfil : ∀ n ∈ ns, ∀ x, s.o n = some x → Filled F (m n) x) : ∀ {xs : List Operand} {ys : List Opd} {as : List RA},
    mapO (trOpd nt) xs = some ys → s.resL ys = some as → ArgsOk F w m ns as (xs.map a.eval)
  | [], ys, as, h1, h2 => by cases h1; cases h2; trivial
  | x :: xs, ys, as, h1, h2 => by
    simp only [mapO, Option.bind_eq_some_iff, Option.map_eq_some_iff] at h1
    obtain ⟨y, hy, zs, hz, rfl⟩ := h1
    simp only [St.resL, Option.bind_eq_some_iff, Option.map_eq_some_iff] at h2
    obtain ⟨b, hb, bs, hbs, rfl⟩ := h2
    refine ⟨h.arg hfil hb ?_, h.args hfil hz hbs⟩
    have := trOpd_rep h hy
    cases y <;> exact this
end
end Go.Fw

set_option linter.unusedVariables false
set_option linter.unusedSimpArgs false
namespace Go.Fw
open Go.RowKit

theorem info_of_underlying {P : Program} {t : TypeId} {d : TypeDesc} (h : P.underlying t = some d) : ∃ i, P.info? t = some i := by
  unfold Program.underlying at h
  split at h
  · rename_i e; exact ⟨_, e⟩
  · rename_i e; exact ⟨_, e⟩
  · cases h
theorem run_info {P : Program} {t : TypeId} {i : TypeInfo} (h : P.info? t = some i) (w : World) : (typeInfo t).run P w = .ok i w := by
  simp [typeInfo, h]
theorem run_size {P : Program} {t : TypeId} (h : (P.info? t).isSome = true) (w : World) : (sizeOf t).run P w = .ok (P.cellsOf t) w := by
  obtain ⟨i, hi⟩ := Option.isSome_iff_exists.1 h
  simp [sizeOf, run_info hi, Program.cellsOf, hi]
theorem run_isAggD {P : Program} {t : TypeId} {d : TypeDesc} (h : P.underlying t = some d) (w : World) : (isAgg t).run P w = .ok (isAggD d) w := by
  cases d <;> simp [isAgg, run_underlying h, isAggD]

def Good (F : Fz) (m : Mp) (B d : Nat) (w : World) (e : Eff) (r : Result Value) : Prop :=
  ∃ v w', r = .ok v w' ∧ ((e.new = none ∧ w' = w ∧ RepT F m e.v v) ∨
    ∃ x obj c, e.new = some x ∧ w' = w.alloc obj ∧ RepT F (upd m d (some w.heap.size, c)) e.v v ∧ OwnOk F (w.alloc obj) B (some w.heap.size, c) x)

section
variable {P : Program} {B nt d : Nat} {w0 : World} {F0 : Fz} {s : St} {a : Act} {w : World} {F : Fz} {m : Mp} {ns : List Nat}

theorem Good.pure {e : Eff} {v : Value} {r : Result Value} (hr : r = .ok v w) (hn : e.new = none) (h : RepT F m e.v v) : Good F m B d w e r := ⟨v, w, hr, .inl ⟨hn, rfl, h⟩⟩

theorem ArgOk.toT {ra : RA} {v : Value} (h : ArgOk F w m ns ra v) : RepT F m ra.toT v := by
  cases ra with
  | p x => exact h
  | nil => exact h
  | own n off cells => obtain ⟨b, ys, hb, rfl, _⟩ := h; exact ⟨b, hb, rfl⟩
  | row n l es xs => obtain ⟨rfl, hn, hl, _⟩ := h; exact ⟨rfl, fun e => by have := hn e; subst this; simpa using hl⟩
  | rp n es i off c => obtain ⟨b, ys, hb, rfl, _⟩ := h; exact ⟨b, hb, rfl⟩
  | mp n kt et es => obtain ⟨b, ents, c, hb, rfl, _⟩ := h; exact ⟨b, hb, rfl⟩

theorem ldv_run {t : TypeId} {td : TypeDesc} (hu : P.underlying t = some td) (hok : (isAggD td || P.cellsOf t == 1) = true) {cells : List PV} {ys : List Value} (hr : RepL F cells ys) (h1 : ∀ y ∈ ys, y.oneCell' = true)
    {b o0 off : Nat} (hc : ∀ (j : Nat) (y : Value), ys[j]? = some y → w.cell? ⟨b, o0 + j, none⟩ = some y) {p : PV} (hp : ldv cells off (P.cellsOf t) (isAggD td) = some p) :
    ∃ v, (loadVar t ⟨b, o0 + off, none⟩).run P w = .ok v w ∧ Rep F p v := by
  obtain ⟨i, hi⟩ := info_of_underlying hu
  have hs := run_size (P := P) (t := t) (by simp [hi]) w
  cases hag : isAggD td with
  | true =>
    rw [hag] at hp
    simp only [ldv] at hp
    split at hp
    · rename_i hle
      cases hp
      have hlen : ((ys.drop off).take (P.cellsOf t)).length = P.cellsOf t := by have := hr.1; simp; omega
      have hl := run_loadCells_list (P := P) w ⟨b, o0 + off, none⟩ ((ys.drop off).take (P.cellsOf t)) (fun j v e => by
        rw [List.getElem?_take] at e
        split at e
        · rw [List.getElem?_drop] at e
          have := hc _ v e
          rw [Addr.add_lit, Nat.add_assoc]; exact this
        · cases e)
      rw [hlen] at hl
      refine ⟨_, by simp [loadVar, run_isAggD hu, hag, hs, hl]; rfl, ?_⟩
      have := ((hr.drop off).take (P.cellsOf t))
      exact Rep.agg _ _ this.1 (fun y hy => h1 y (List.mem_of_mem_drop (List.mem_of_mem_take hy))) this.2
    · cases hp
  | false =>
    rw [hag] at hp
    simp only [ldv] at hp
    obtain ⟨y, hy, hrep⟩ := hr.get hp
    exact ⟨y, by simp [loadVar, run_isAggD hu, hag, hc off y hy], hrep⟩


theorem Rep.v_inv {x v : Value} (h : Rep F (.v x) v) : v = x := by cases h; rfl
theorem Rep.ref_inv {cs : List PV} {off : Nat} {v : Value} (h : Rep F (.ref cs off) v) (hf : FzIn w F) : ∃ b o0 ys, v = .pointer (some ⟨b, o0 + off, none⟩) ∧ RepL F cs ys ∧ (∀ y ∈ ys, y.oneCell' = true) ∧
    (∀ (j : Nat) (y : Value), ys[j]? = some y → F b (o0 + j) = some y) ∧ ∀ (j : Nat) (y : Value), ys[j]? = some y → w.cell? ⟨b, o0 + j, none⟩ = some y := by
  cases h with
  | ref _ _ b o0 ys hl h1 hF hr => exact ⟨b, o0, ys, rfl, ⟨hl, hr⟩, h1, hF, fun j y e => hf _ _ _ (hF j y e)⟩
theorem Rep.agg_inv {cs : List PV} {v : Value} (h : Rep F (.agg cs) v) : ∃ ys, v = .agg ys.toArray ∧ RepL F cs ys ∧ ∀ y ∈ ys, y.oneCell' = true := by
  cases h with
  | agg _ ys hl h1 hr => exact ⟨ys, rfl, ⟨hl, hr⟩, h1⟩
theorem Rep.tup_inv {cs : List PV} {v : Value} (h : Rep F (.tup cs) v) : ∃ ys, v = .tuple ys.toArray ∧ RepL F cs ys := by
  cases h with
  | tup _ ys hl hr => exact ⟨ys, rfl, ⟨hl, hr⟩⟩
theorem Rep.clo_inv {f : FuncId} {cs : List PV} {v : Value} (h : Rep F (.clo f cs) v) : ∃ ys, v = .func (.func f) #[] ys.toArray ∧ RepL F cs ys := by
  cases h with
  | clo _ _ ys hl hr => exact ⟨ys, rfl, ⟨hl, hr⟩⟩
theorem Rep.sl_inv {xs sp : List (List PV)} {v : Value} (h : Rep F (.sl xs sp) v) : ∃ es b off cap o ys, v = .slice o xs.length cap ∧ (∀ x ∈ xs ++ sp, x.length = es) ∧ (xs ++ sp).length ≤ cap ∧ cap ≤ maxLen ∧ (xs ++ sp ≠ [] → o = some ⟨b, off, none⟩) ∧
    RepL F (xs ++ sp).flatten ys ∧ (∀ y ∈ ys, y.oneCell' = true) ∧ ∀ (j : Nat) (y : Value), ys[j]? = some y → F b (off + j) = some y := by
  cases h with
  | sl _ _ es b off cap o ys hw hcap hm ho hl h1 hF hr => exact ⟨es, b, off, cap, o, ys, rfl, hw, hcap, hm, ho, ⟨hl, hr⟩, h1, hF⟩

theorem ex_load (hf : FzIn w F) {t : TypeId} {x : Operand} {k : Kd} {xs : List Operand} (hk : trKd P (.load t x) = some (k, xs)) {as : List RA} (ha : ArgsOk F w m ns as (xs.map a.eval)) {e : Eff} (he : sem k d as = some e) :
    Good F m B d w e ((Instr.loadAt t (a.eval x)).run P w) := by
  simp only [trKd] at hk
  split at hk
  · rename_i td hu
    split at hk
    · rename_i hok
      cases hk
      simp only [sem] at he
      split at he
      · obtain ⟨h, _⟩ := ha
        simp only [Option.map_eq_some_iff] at he
        obtain ⟨p, hp, rfl⟩ := he
        obtain ⟨b, ys, hb, hv, hr, h1, hc, _⟩ := h
        obtain ⟨v, hrun, hrep⟩ := ldv_run (o0 := 0) (b := b) hu hok hr h1 (fun j y e => by rw [Nat.zero_add]; exact hc j y e) hp
        rw [Nat.zero_add] at hrun
        exact .pure (by simp [Instr.loadAt, hv, Instr.sureAddr, hrun]) rfl hrep
      · obtain ⟨h, _⟩ := ha
        simp only [Option.map_eq_some_iff] at he
        obtain ⟨p, hp, rfl⟩ := he
        obtain ⟨b, ys, hb, hv, _, hr, h1, hc⟩ := h
        obtain ⟨v, hrun, hrep⟩ := ldv_run (b := b) hu hok hr h1 hc hp
        exact .pure (by simp [Instr.loadAt, hv, Instr.sureAddr, hrun]) rfl hrep
      · obtain ⟨h, _⟩ := ha
        simp only [Option.map_eq_some_iff] at he
        obtain ⟨p, hp, rfl⟩ := he
        obtain ⟨b, o0, ys, hv, hr, h1, _, hc⟩ := Rep.ref_inv h hf
        obtain ⟨v, hrun, hrep⟩ := ldv_run (b := b) hu hok hr h1 hc hp
        exact .pure (by simp [Instr.loadAt, hv, Instr.sureAddr, hrun]) rfl hrep
      · cases he
    · cases hk
  · cases hk
end
end Go.Fw

set_option linter.unusedVariables false
set_option linter.unusedSimpArgs false
namespace Go.Fw
open Go.RowKit

theorem FzIn.fresh {w : World} {F : Fz} (h : FzIn w F) : noneF F w.heap.size := fun o => by
  cases e : F w.heap.size o with
  | none => rfl
  | some y => have := World.block_lt_of_cell? w _ (h _ _ _ e); simp at this
theorem FzIn.fresh' {w : World} {F : Fz} (h : FzIn w F) {b : Nat} (hb : w.heap.size ≤ b) : noneF F b := fun o => by
  cases e : F b o with
  | none => rfl
  | some y => have := World.block_lt_of_cell? w _ (h _ _ _ e); simp at this; omega

theorem run_zero {P : Program} {t : TypeId} {i : TypeInfo} {z : Value} (hi : P.info? t = some i) (hz : i.zero = some z) (w : World) : (zeroValue t).run P w = .ok z w := by
  simp [zeroValue, run_info hi, hz]
theorem zeroP_inv {P : Program} {t : TypeId} {zs : List PV} (h : zeroP P t = some zs) : ∃ i z, P.info? t = some i ∧ i.zero = some z ∧ zps z.cells.toList = some zs := by
  unfold zeroP at h
  split at h
  · rename_i i hi
    split at h
    · rename_i z hz; exact ⟨i, z, hi, hz, h⟩
    · cases h
  · cases h
theorem run_newVar (P : Program) (t : TypeId) (v : Value) (w : World) : (newVar t v).run P w = .ok ⟨w.heap.size, 0, none⟩ (w.alloc (.cells v.cells t)) := by
  simp [newVar, newRow]

theorem splice_step (l : List Value) (k : Nat) (v : Value) (rest : List Value) (hk : k + (rest.length + 1) ≤ l.length) : splice (l.set k v) (k + 1) rest = splice l k (v :: rest) := by
  have := list_seg_step l k v rest hk
  simpa [splice, Nat.add_assoc, Nat.add_comm, Nat.add_left_comm] using this
theorem fold_splice : ∀ (vs : List Value) (off k : Nat) (cells : Array Value), off + k + vs.length ≤ cells.size →
    ((vs.zipIdx k).foldl (fun cs x => cs.setIfInBounds (off + x.2) x.1) cells).toList = splice cells.toList (off + k) vs
  | [], off, k, cells, _ => by simp [splice]
  | v :: vs, off, k, cells, h => by
    simp only [List.zipIdx_cons, List.foldl_cons]
    rw [fold_splice vs off (k + 1) _ (by simp at h ⊢; omega)]
    simp only [Array.toList_setIfInBounds]
    exact splice_step _ (off + k) v vs (by simp at h ⊢; omega)

section
variable {P : Program} {B nt d : Nat} {w0 : World} {F0 : Fz} {s : St} {a : Act} {w : World} {F : Fz} {m : Mp} {ns : List Nat}

theorem fill_one {place : Nat → Option (Nat × Nat)} {cells : Array Value} {i : Nat} {v : Value} {rest : List (Nat × Value)} {off sz : Nat} (hp : place i = some (off, sz)) (hs : v.cells.size = sz) (hl : off + sz ≤ cells.size) :
    ∃ cells', cells'.toList = splice cells.toList off v.cells.toList ∧ Instr.fill place cells ((i, v) :: rest) = Instr.fill place cells' rest := by
  refine ⟨v.cells.zipIdx.foldl (fun cs x => cs.setIfInBounds (off + x.2) x.1) cells, ?_, ?_⟩
  · rw [← Array.foldl_toList, Array.toList_zipIdx]
    have := fold_splice v.cells.toList off 0 cells (by simp; omega)
    simpa using this
  · simp only [Instr.fill, hp]
    rw [if_neg (by simp [hs]; omega)]

theorem fill_rep {place : Nat → Option (Nat × Nat)} : ∀ {is : List Nat} {vs : List Value} {ps : List PV} {pl : List (Nat × Nat)} {z : List PV} {cells : Array Value} {cs : List PV},
    mapO place is = some pl → is.length = vs.length → RepL F ps vs → RepL F z cells.toList → (∀ y ∈ cells.toList, y.oneCell' = true) → fillP z (pl.zip ps) = some cs →
    ∃ cells', Instr.fill place cells (is.zip vs) = some cells' ∧ RepL F cs cells'.toList ∧ (∀ y ∈ cells'.toList, y.oneCell' = true) ∧ cells'.size = cells.size
  | [], vs, ps, pl, z, cells, cs, h1, h2, h3, h4, h5, h6 => by
    cases h1
    have hv : vs = [] := List.eq_nil_of_length_eq_zero (by simpa using h2.symm)
    subst hv
    simp [fillP] at h6
    subst h6
    exact ⟨cells, by simp [Instr.fill], h4, h5, rfl⟩
  | i :: is, [], ps, pl, z, cells, cs, h1, h2, h3, h4, h5, h6 => by simp at h2
  | i :: is, v :: vs, [], pl, z, cells, cs, h1, h2, h3, h4, h5, h6 => by have := h3.1; simp at this
  | i :: is, v :: vs, p :: ps, pl, z, cells, cs, h1, h2, h3, h4, h5, h6 => by
    simp only [mapO, Option.bind_eq_some_iff, Option.map_eq_some_iff] at h1
    obtain ⟨⟨off, sz⟩, hp, pl', hpl, rfl⟩ := h1
    simp only [List.zip_cons_cons, fillP, Option.bind_eq_some_iff] at h6
    obtain ⟨ks, hk, h6⟩ := h6
    split at h6
    · rename_i hc
      obtain ⟨y, zs, e, hrep, hrest⟩ := h3.head
      cases e
      obtain ⟨hk1, hk2⟩ := hrep.cells hk
      have hsz : v.cells.size = sz := by rw [← hc.1, ← hk1.1]; simp
      have hz : cells.size = z.length := by rw [← h4.1]; simp
      obtain ⟨cells1, hc1, hf⟩ := fill_one (cells := cells) (rest := is.zip vs) hp hsz (by omega)
      have hlen : cells1.size = cells.size := by
        rw [← Array.length_toList, hc1, splice_length _ _ _ (by simp [hsz]; omega)]; simp
      obtain ⟨cells', g1, g2, g3, g4⟩ := fill_rep (cells := cells1) hpl (by simpa using h2) hrest (by rw [hc1]; exact h4.splice off hk1) (fun y hy => by
        rw [hc1] at hy
        simp only [splice, List.mem_append] at hy
        rcases hy with (hy | hy) | hy
        · exact h5 y (List.mem_of_mem_take hy)
        · exact hk2 y hy
        · exact h5 y (List.mem_of_mem_drop hy)) h6
      exact ⟨cells', by rw [List.zip_cons_cons, hf]; exact g1, g2, g3, by omega⟩
    · cases h6

theorem Good.box {e : Eff} {r : Result Value} {cells : Array Value} {ty : TypeId} {cs : List PV} (hB : B ≤ w.heap.size) (hf : FzIn w F)
    (hr : r = .ok (.pointer (some ⟨w.heap.size, 0, none⟩)) (w.alloc (.cells cells ty))) (he : e.v = .own d 0) (hn : e.new = some (.box cs false)) (h1 : RepL F cs cells.toList) (h2 : ∀ y ∈ cells.toList, y.oneCell' = true) : Good F m B d w e r := by
  refine ⟨_, _, hr, .inr ⟨_, _, 0, hn, rfl, ?_, w.heap.size, cells, ty, rfl, hB, heap_alloc_new w _, h1, h2, fun _ => hf.fresh⟩⟩
  rw [he]
  exact ⟨w.heap.size, by simp [Fw.upd], rfl⟩

theorem ex_mv {x : Operand} {as : List RA} (ha : ArgsOk F w m ns as ([x].map a.eval)) {e : Eff} (he : sem .mv d as = some e) : Good F m B d w e ((pure (a.eval x) : Sem Value).run P w) := by
  simp only [sem] at he
  split at he
  · cases he; exact .pure rfl rfl ha.1.toT
  · cases he

theorem ex_pick {c x y : Operand} {as : List RA} (ha : ArgsOk F w m ns as ([c, x, y].map a.eval)) {e : Eff} (he : sem .pick d as = some e) :
    ∃ b, a.eval c = .bool b ∧ RepT F m e.v (if b then a.eval x else a.eval y) ∧ e.new = none := by
  simp only [sem] at he
  split at he
  · rename_i b p q
    cases he
    obtain ⟨h1, h2, h3, _⟩ := ha
    refine ⟨b, Rep.v_inv h1, ?_, rfl⟩
    cases b
    · exact h3.toT
    · exact h2.toT
  · cases he

theorem ex_box (hB : B ≤ w.heap.size) (hf : FzIn w F) {t : TypeId} {x : Operand} {as : List RA} (ha : ArgsOk F w m ns as ([x].map a.eval)) {e : Eff} (he : sem .box d as = some e) (hns : ∀ n ∈ e.frz, n ∈ ns) :
    Good F m B d w e ((Instr.box t (a.eval x)).run P w) := by
  simp only [sem] at he
  split at he
  · rename_i ra
    simp only [Option.bind_eq_some_iff, Option.map_eq_some_iff] at he
    obtain ⟨p, hp, cs, hcs, rfl⟩ := he
    have hrep := ha.1.pv hns hp
    obtain ⟨h1, h2⟩ := hrep.cells hcs
    exact .box (ty := t) hB hf (by simp [Instr.box, run_newVar]) rfl rfl h1 h2
  · cases he

theorem ex_alloc (hB : B ≤ w.heap.size) (hf : FzIn w F) {t : TypeId} {k : Kd} {xs : List Operand} (hk : trKd P (.alloc t) = some (k, xs)) {as : List RA} {e : Eff} (he : sem k d as = some e) :
    Good F m B d w e ((Instr.alloc t true (.tuple #[])).run P w) := by
  simp only [trKd, Option.map_eq_some_iff] at hk
  obtain ⟨z, hz, hk⟩ := hk
  cases hk
  obtain ⟨i, zv, hi, hzv, hzp⟩ := zeroP_inv hz
  simp only [sem] at he
  split at he
  · cases he
    obtain ⟨h1, h2⟩ := zps_rep (F := F) hzp
    exact .box (ty := t) hB hf (by simp [Instr.alloc, run_zero hi hzv, run_newVar]) rfl rfl h1 h2
  · cases he

theorem zip_parts (l : List (Nat × Operand)) : l.map (fun p => (p.1, a.eval p.2)) = (l.map (·.1)).zip ((l.map (·.2)).map a.eval) := by
  induction l with
  | nil => rfl
  | cons p l ih => simp [ih]

theorem run_places' {fs : Array Field} (h : fs.all (fun f => (P.info? f.type).isSome) = true) (w : World) :
    (fs.mapM fun (f : Field) => do pure (f.offset, ← sizeOf f.type)).run P w = .ok (fs.map fun (f : Field) => (f.offset, P.cellsOf f.type)) w := by
  obtain ⟨l⟩ := fs
  rw [List.mapM_toArray, List.map_toArray]
  have hl : ∀ f ∈ l, (P.info? f.type).isSome = true := by simpa using h
  have : (l.mapM fun (f : Field) => do pure (f.offset, ← sizeOf f.type)).run P w = .ok (l.map fun (f : Field) => (f.offset, P.cellsOf f.type)) w := by
    clear h
    induction l with
    | nil => simp
    | cons f l ih => have := ih (fun g hg => hl g (by simp [hg])); simp at this; simp [run_size (hl f (by simp)), this]
  simp only [Sem.run_map, this, Result.andThen_ok]

theorem ex_build (hf : FzIn w F) {t : TypeId} {parts : Array (Nat × Operand)} {k : Kd} {xs : List Operand} (hk : trKd P (.build t parts) = some (k, xs)) {as : List RA} (ha : ArgsOk F w m ns as (xs.map a.eval)) {e : Eff} (he : sem k d as = some e)
    (hns : ∀ n ∈ e.frz, n ∈ ns) : Good F m B d w e ((Instr.build t (parts.map fun (i, x) => (i, a.eval x))).run P w) := by
  simp only [trKd, Option.bind_eq_some_iff] at hk
  obtain ⟨z, hz, pl, hpl, hk⟩ := hk
  split at hk
  · rename_i hsz
    cases hk
    obtain ⟨i, zv, hi, hzv, hzp⟩ := zeroP_inv hz
    simp only [sem, Option.bind_eq_some_iff] at he
    obtain ⟨ps, hps, he⟩ := he
    split at he
    · rename_i hlen
      simp only [Option.map_eq_some_iff] at he
      obtain ⟨cs, hcs, rfl⟩ := he
      obtain ⟨h1, h2⟩ := zps_rep (F := F) hzp
      have hrep := ha.pvs hns hps
      obtain ⟨cells', g1, g2, g3, _⟩ := fill_rep (cells := zv.cells) hpl (by simp) hrep h1 h2 hcs
      have hparts : (parts.map fun (i, x) => (i, a.eval x)).toList = (parts.toList.map (·.1)).zip ((parts.toList.map (·.2)).map a.eval) := by
        rw [Array.toList_map]; exact zip_parts parts.toList
      have hval : RepT F m (.p (.agg cs)) (.agg cells') := by
        have := Rep.agg (F := F) cs cells'.toList g2.1 g3 g2.2
        simpa [RepT] using this
      refine .pure (v := .agg cells') ?_ rfl hval
      simp only [Instr.build, Sem.run_bind, run_zero hi hzv, Result.andThen_ok]
      unfold sizedB at hsz
      unfold placeP at g1
      split at hsz
      · rename_i fs hu
        simp only [hu] at g1
        simp only [run_underlying hu, Result.andThen_ok, Sem.run_bind, run_places' hsz, hparts]
        have : (fun (i : Nat) => (fs.map fun (f : Field) => (f.offset, P.cellsOf f.type))[i]?) = fun i => (fs[i]?).map fun (f : Field) => (f.offset, P.cellsOf f.type) := by funext i; simp
        rw [this, g1]
        rfl
      · rename_i n el hu
        simp only [hu] at g1
        simp only [run_underlying hu, Result.andThen_ok, Sem.run_bind, run_size hsz, hparts, g1]
        rfl
      · cases hsz
    · cases he
  · cases hk

end
end Go.Fw

set_option linter.unusedVariables false
set_option linter.unusedSimpArgs false
namespace Go.Fw
open Go.RowKit

theorem replicate_flatten_length {α : Type} (n : Nat) (z : List α) : (List.replicate n z).flatten.length = n * z.length := by
  rw [flatten_length (es := z.length) (by intro x hx; rw [List.eq_of_mem_replicate hx])]; simp
theorem toList_madeCells (z : Array Value) (n : Nat) (hz : 0 < z.size) : (madeCells z (n * z.size)).toList = (List.replicate n z.toList).flatten := by
  apply List.ext_getElem?
  intro i
  by_cases hi : i < n * z.size
  · have hq : i / z.size < n := Nat.div_lt_of_lt_mul (by rw [Nat.mul_comm]; exact hi)
    have h2 : i % z.size < z.size := Nat.mod_lt _ hz
    have e : i = i / z.size * z.size + i % z.size := by rw [Nat.mul_comm]; exact (Nat.div_add_mod i z.size).symm
    have h3 := flatten_get (es := z.size) (xs := List.replicate n z.toList) (by intro x hx; rw [List.eq_of_mem_replicate hx]; simp) (i / z.size) (i % z.size) h2
    rw [← e] at h3
    rw [h3]
    simp [madeCells, hi, hq, h2]
  · rw [List.getElem?_eq_none (by simp [madeCells]; omega), List.getElem?_eq_none (by rw [replicate_flatten_length]; simp; omega)]

theorem splice_flatten {α : Type} {es : Nat} {xs : List (List α)} (h : ∀ x ∈ xs, x.length = es) {i : Nat} (hi : i < xs.length) {c : List α} (hc : c.length = es) : splice xs.flatten (i * es) c = (xs.set i c).flatten := by
  have hs : xs.set i c = xs.take i ++ c :: xs.drop (i + 1) := List.set_eq_take_append_cons_drop.trans (by rw [if_pos hi])
  rw [hs, List.flatten_append, List.flatten_cons, flatten_take h, flatten_drop h]
  unfold splice
  have : i * es + c.length = (i + 1) * es := by rw [hc, Nat.succ_mul]
  rw [this, List.append_assoc]

section
variable {P : Program} {B nt d : Nat} {w0 : World} {F0 : Fz} {s : St} {a : Act} {w : World} {F : Fz} {m : Mp} {ns : List Nat}

theorem fillX_rep {es : Nat} : ∀ {ix : List Nat} {vs : List Value} {ps : List PV} {xs : List (List PV)} {cells : Array Value} {ys : List (List PV)},
    ix.length = vs.length → RepL F ps vs → (∀ x ∈ xs, x.length = es) → RepL F xs.flatten cells.toList → (∀ y ∈ cells.toList, y.oneCell' = true) → fillX es xs (ix.zip ps) = some ys →
    ∃ cells', Instr.fill (fun i => some (i * es, es)) cells (ix.zip vs) = some cells' ∧ RepL F ys.flatten cells'.toList ∧ (∀ y ∈ cells'.toList, y.oneCell' = true) ∧ (∀ x ∈ ys, x.length = es) ∧ ys.length = xs.length
  | [], vs, ps, xs, cells, ys, h2, h3, hw, h4, h5, h6 => by
    have hv : vs = [] := List.eq_nil_of_length_eq_zero (by simpa using h2.symm)
    subst hv
    simp [fillX] at h6
    subst h6
    exact ⟨cells, by simp [Instr.fill], h4, h5, hw, rfl⟩
  | i :: ix, [], ps, xs, cells, ys, h2, h3, hw, h4, h5, h6 => by simp at h2
  | i :: ix, v :: vs, [], xs, cells, ys, h2, h3, hw, h4, h5, h6 => by have := h3.1; simp at this
  | i :: ix, v :: vs, p :: ps, xs, cells, ys, h2, h3, hw, h4, h5, h6 => by
    simp only [List.zip_cons_cons, fillX, Option.bind_eq_some_iff] at h6
    obtain ⟨ks, hk, h6⟩ := h6
    split at h6
    · rename_i hc
      obtain ⟨y, zs, e, hrep, hrest⟩ := h3.head
      cases e
      obtain ⟨hk1, hk2⟩ := hrep.cells hk
      have hsz : v.cells.size = es := by rw [← hc.1, ← hk1.1]; simp
      have hz : cells.size = xs.length * es := by rw [← flatten_length hw, ← h4.1]; simp
      have hle : (i + 1) * es ≤ xs.length * es := Nat.mul_le_mul_right _ hc.2
      obtain ⟨cells1, hc1, hf⟩ := fill_one (cells := cells) (place := fun i => some (i * es, es)) (i := i) (rest := ix.zip vs) rfl hsz (by rw [Nat.succ_mul] at hle; omega)
      have hw' : ∀ x ∈ xs.set i ks, x.length = es := fun x hx => by
        rcases List.mem_or_eq_of_mem_set hx with hx | rfl
        · exact hw x hx
        · exact hc.1
      obtain ⟨cells', g1, g2, g3, g4, g5⟩ := fillX_rep (cells := cells1) (xs := xs.set i ks) (ys := ys) (by simpa using h2) hrest hw' (by rw [hc1, ← splice_flatten hw hc.2 hc.1]; exact h4.splice _ hk1) (fun y hy => by
        rw [hc1] at hy
        simp only [splice, List.mem_append] at hy
        rcases hy with (hy | hy) | hy
        · exact h5 y (List.mem_of_mem_take hy)
        · exact hk2 y hy
        · exact h5 y (List.mem_of_mem_drop hy)) h6
      exact ⟨cells', by rw [List.zip_cons_cons, hf]; exact g1, g2, g3, g4, by simpa using g5⟩
    · cases h6

theorem Good.row {e : Eff} {r : Result Value} {cells : Array Value} {ty es n cap : Nat} {xs : List (List PV)} (hB : B ≤ w.heap.size) (hf : FzIn w F)
    (hr : r = .ok (.slice (some ⟨w.heap.size, 0, none⟩) n cap) (w.alloc (.cells cells ty))) (he : e.v = .row d n) (hn : e.new = some (.row ty es xs false)) (hw : ∀ x ∈ xs, x.length = es) (hlen : xs.length = n)
    (hcap : n ≤ cap) (hm : cap ≤ maxLen) (hsz : cells.size = cap * es) (h1 : RepL F xs.flatten (cells.toList.take (n * es))) (h2 : ∀ y ∈ cells.toList, y.oneCell' = true) : Good F m B d w e r := by
  subst hlen
  refine ⟨_, _, hr, .inr ⟨_, _, cap, hn, rfl, ?_, hw, cells.toList.take (xs.length * es), ⟨?_, .inr ⟨w.heap.size, cap, cells, rfl, hB, heap_alloc_new w _, hcap, hm, hsz, rfl⟩⟩, h1, fun y hy => h2 y (List.mem_of_mem_take hy), (fun e => by cases e), fun b hb => ?_⟩⟩
  · rw [he]
    exact ⟨by simp [Fw.upd, rowVal], fun e => by simp [Fw.upd] at e⟩
  · rw [h1.1, flatten_length hw]
  · cases hb
    exact ⟨(fun o y e => by rw [hf.fresh o] at e; cases e), fun _ => hf.fresh⟩

theorem ex_bsl (hB : B ≤ w.heap.size) (hf : FzIn w F) {t : TypeId} {n : Nat} {parts : Array (Nat × Operand)} {k : Kd} {xs : List Operand} (hk : trKd P (.buildSlice t n parts) = some (k, xs)) {as : List RA} (ha : ArgsOk F w m ns as (xs.map a.eval)) {e : Eff}
    (he : sem k d as = some e) (hns : ∀ n ∈ e.frz, n ∈ ns) : Good F m B d w e ((Instr.buildSlice t n (parts.map fun (i, x) => (i, a.eval x))).run P w) := by
  simp only [trKd] at hk
  split at hk
  · rename_i el hu
    simp only [Option.bind_eq_some_iff] at hk
    obtain ⟨z, hz, hk⟩ := hk
    split at hk
    · rename_i hc
      cases hk
      obtain ⟨i, zv, hi, hzv, hzp⟩ := zeroP_inv hz
      obtain ⟨h1, h2⟩ := zps_rep (F := F) hzp
      simp only [sem, Option.bind_eq_some_iff] at he
      obtain ⟨ps, hps, he⟩ := he
      split at he
      · rename_i hlen
        simp only [Option.map_eq_some_iff] at he
        obtain ⟨ys, hys, rfl⟩ := he
        have hrep := ha.pvs hns hps
        have hzs : zv.cells.size = P.cellsOf el := by rw [← hc.1, ← h1.1]; simp
        have hmc : (madeCells zv.cells (n * P.cellsOf el)).toList = (List.replicate n zv.cells.toList).flatten := by rw [← hzs]; exact toList_madeCells _ _ (by omega)
        have hrepz : ∀ n, RepL F (List.replicate n z).flatten (List.replicate n zv.cells.toList).flatten := fun n => by
          induction n with
          | zero => simpa using RepL.nil
          | succ n ih => simp only [List.replicate_succ, List.flatten_cons]; exact h1.append ih
        obtain ⟨cells', g1, g2, g3, g4, g5⟩ := fillX_rep (es := P.cellsOf el) (cells := madeCells zv.cells (n * P.cellsOf el)) (by simp) hrep (by intro x hx; rw [List.eq_of_mem_replicate hx]; exact hc.1) (by rw [hmc]; exact hrepz n) (fun y hy => by
          rw [hmc] at hy
          obtain ⟨l, hl, hy⟩ := List.mem_flatten.1 hy
          rw [List.eq_of_mem_replicate hl] at hy
          exact h2 y hy) hys
        have hparts : (parts.map fun (i, x) => (i, a.eval x)).toList = (parts.toList.map (·.1)).zip ((parts.toList.map (·.2)).map a.eval) := by
          rw [Array.toList_map]; exact zip_parts parts.toList
        have hyl : ys.length = n := by simpa using g5
        have hcs : cells'.size = n * P.cellsOf el := by rw [← Array.length_toList, g2.1, flatten_length g4, hyl]
        have hrun : (Instr.buildSlice t n (parts.map fun (i, x) => (i, a.eval x))).run P w = .ok (.slice (some ⟨w.heap.size, 0, none⟩) n n) (w.alloc (.cells cells' el)) := by
          have hbig : ¬ (n * P.cellsOf el > 2 ^ 24) := by have := hc.2.2; omega
          generalize (parts.map fun (i, x) => (i, a.eval x)) = vp at hparts ⊢
          generalize (parts.toList.map (·.1)).zip ((parts.toList.map (·.2)).map a.eval) = L at g1 hparts
          by_cases h0 : n * P.cellsOf el = 0
          · have hn0 : n = 0 := by rcases Nat.mul_eq_zero.1 h0 with h | h; exact h; omega
            subst hn0
            have hm0 : madeCells zv.cells (0 * P.cellsOf el) = #[] := by simp [madeCells]
            rw [hm0] at g1
            simp [Instr.buildSlice, run_underlying hu, run_size (P := P) (t := el) (by simp [hi]), hparts, newRow, g1, Array.range_zero']
          · have hm0 : (Array.range (n * P.cellsOf el)).map (fun x => zv.cells[x % zv.cells.size]!) = madeCells zv.cells (n * P.cellsOf el) := rfl
            rw [← hm0] at g1
            have hbig' : ¬ (16777216 < n * P.cellsOf el) := by omega
            simp [Instr.buildSlice, run_underlying hu, run_size (P := P) (t := el) (by simp [hi]), hbig', hparts, run_zero hi hzv, newRow, g1]
            intro h; exact absurd h h0
        refine .row hB hf hrun rfl rfl g4 hyl (Nat.le_refl _) ?_ hcs ?_ g3
        · have : n * 1 ≤ n * P.cellsOf el := Nat.mul_le_mul_left _ hc.2.1
          simp only [maxLen]; have := hc.2.2; omega
        · rw [List.take_of_length_le (by rw [Array.length_toList]; omega)]; exact g2
      · cases he
    · cases hk
  · cases hk

theorem ex_mks (hB : B ≤ w.heap.size) (hf : FzIn w F) {t : TypeId} {l c : Operand} {k : Kd} {xs : List Operand} (hk : trKd P (.makeSlice t l c) = some (k, xs)) {as : List RA} (ha : ArgsOk F w m ns as (xs.map a.eval)) {e : Eff}
    (he : sem k d as = some e) : Good F m B d w e ((Instr.makeSlice t (a.eval l) (a.eval c)).run P w) := by
  simp only [trKd] at hk
  split at hk
  · rename_i el hu
    simp only [Option.bind_eq_some_iff] at hk
    obtain ⟨z, hz, hk⟩ := hk
    split at hk
    · rename_i hc
      cases hk
      obtain ⟨i, zv, hi, hzv, hzp⟩ := zeroP_inv hz
      obtain ⟨h1, h2⟩ := zps_rep (F := F) hzp
      simp only [sem] at he
      split at he
      · rename_i lv cv
        split at he
        · rename_i hb
          cases he
          obtain ⟨e1, e2, _⟩ := ha
          have e1' := Rep.v_inv e1
          have e2' := Rep.v_inv e2
          have hby : P.bytesOf el = i.bytes := by simp [Program.bytesOf, hi]
          have hsz : P.cellsOf el = i.size := by simp [Program.cellsOf, hi]
          have hzs : zv.cells.size = P.cellsOf el := by rw [← hc.1, ← h1.1]; simp
          have hbytes : (i.bytes : Int) * cv ≤ 281474976710656 := by rw [Int.mul_comm, ← hby]; omega
          have hcm : cv ≤ 140737488355328 := by
            have h0 : 0 ≤ cv := by omega
            have h3 : cv * 1 ≤ cv * (P.bytesOf el : Int) := Int.mul_le_mul_of_nonneg_left (by omega) h0
            omega
          have hrun := run_make (P := P) w t el i zv hu hi hzv .i64 .i64 lv cv hb.1 hb.2.1 hbytes (by omega)
          rw [e1', e2']
          have hcs : (madeCells zv.cells (cv.toNat * i.size)).toList = (List.replicate cv.toNat zv.cells.toList).flatten := by rw [← hsz, ← hzs]; exact toList_madeCells _ _ (by omega)
          have hrepz : ∀ n, RepL F (List.replicate n z).flatten (List.replicate n zv.cells.toList).flatten := fun n => by
            induction n with
            | zero => simpa using RepL.nil
            | succ n ih => simp only [List.replicate_succ, List.flatten_cons]; exact h1.append ih
          refine .row hB hf hrun rfl rfl (by intro x hx; rw [List.eq_of_mem_replicate hx]; exact hc.1) (by simp) (by omega) (by simp only [maxLen]; omega) (by simp [madeCells, hsz]) ?_ ?_
          · rw [hcs, ← hzs]
            rw [← flatten_take (es := zv.cells.size) (by intro x hx; rw [List.eq_of_mem_replicate hx]; simp), List.take_replicate, Nat.min_eq_left (by omega)]
            exact hrepz _
          · intro y hy
            rw [hcs] at hy
            obtain ⟨l, hl, hy⟩ := List.mem_flatten.1 hy
            rw [List.eq_of_mem_replicate hl] at hy
            exact h2 y hy
        · cases he
      · cases he
    · cases hk
  · cases hk

end
end Go.Fw

set_option linter.unusedVariables false
set_option linter.unusedSimpArgs false
namespace Go.Fw
open Go.RowKit

theorem toList_beq (a b : ByteArray) : (a.toList == b.toList) = decide (a = b) := by
  rw [ByteArray.toList_eq, ByteArray.toList_eq]
  obtain ⟨⟨a⟩⟩ := a
  obtain ⟨⟨b⟩⟩ := b
  rw [Bool.eq_iff_iff]
  simp

section
variable {P : Program} {B nt d : Nat} {w0 : World} {F0 : Fz} {s : St} {a : Act} {w : World} {F : Fz} {m : Mp} {ns : List Nat}

theorem binV_run {op : BinOp} {u v r : Value} (h : binV op u v = some r) (t : TypeId) (x y : Operand) (w : World) : ((do eqGuard op t x y u v; binOp op t u v) : Sem Value).run P w = .ok r w := by
  unfold binV at h
  split at h
  · rename_i k a k' b
    split at h
    · rename_i hk
      subst hk
      rw [eqGuard_at_int]
      cases op <;> simp only [] at h
      case quo => split at h; · cases h
                  · rename_i hb; cases h; simp [binOp, Op.intDiv, hb]
      case rem => split at h; · cases h
                  · rename_i hb; cases h; simp [binOp, Op.intDiv, hb]
      all_goals first | (cases h; done) | (cases h; simp [binOp, Op.intArith, Op.intCmp]; done) | (cases h; simp [binOp, Op.intCmp]; rfl)
    · cases h
  · rename_i a b
    rw [eqGuard_at_string]
    cases op <;> simp only [] at h
    case add => split at h
                · rename_i hs; cases h; simp [binOp, Op.stringOp]; omega
                · cases h
    all_goals first | (cases h; done) | (cases h; simp [binOp, Op.stringOp, slt, toList_beq]; done)
  · cases h

theorem ex_bin {op : BinOp} {t : TypeId} {x y : Operand} {as : List RA} (ha : ArgsOk F w m ns as ([x, y].map a.eval)) {e : Eff} (he : sem (.bin op) d as = some e) :
    Good F m B d w e (((do eqGuard op t x y (a.eval x) (a.eval y); binOp op t (a.eval x) (a.eval y)) : Sem Value).run P w) := by
  simp only [sem] at he
  split at he
  · rename_i u v
    simp only [Option.map_eq_some_iff] at he
    obtain ⟨r, hr, rfl⟩ := he
    obtain ⟨h1, h2, _⟩ := ha
    rw [Rep.v_inv h1, Rep.v_inv h2]
    exact .pure (binV_run hr t x y w) rfl (Rep.v r)
  · cases he

theorem ex_beq {neg : Bool} {op : BinOp} (hop : op = if neg then .neq else .eql) {t : TypeId} (hu : P.underlying t = some .bool) {x y : Operand} {as : List RA} (ha : ArgsOk F w m ns as ([x, y].map a.eval)) {e : Eff} (he : sem (.beq neg) d as = some e) :
    Good F m B d w e (((do eqGuard op t x y (a.eval x) (a.eval y); binOp op t (a.eval x) (a.eval y)) : Sem Value).run P w) := by
  simp only [sem] at he
  split at he
  · rename_i u v
    cases he
    obtain ⟨h1, h2, _⟩ := ha
    rw [Rep.v_inv h1, Rep.v_inv h2, eqGuard_at_bool]
    subst hop
    cases neg
    · exact .pure (v := .bool (u == v)) (by simp [run_eql_bool w t u v hu]) rfl (by cases u <;> cases v <;> exact Rep.v _)
    · exact .pure (v := .bool (!(u == v))) (by simp [run_neq_bool w t u v hu]) rfl (by cases u <;> cases v <;> exact Rep.v _)
  · cases he

theorem ex_un {op : UnOp} {x : Operand} {as : List RA} (ha : ArgsOk F w m ns as ([x].map a.eval)) {e : Eff} (he : sem (.un op) d as = some e) : Good F m B d w e ((Op.unary op (a.eval x)).run P w) := by
  simp only [sem] at he
  split at he
  · cases he; rw [Rep.v_inv ha.1]; exact .pure rfl rfl (Rep.v _)
  · cases he; rw [Rep.v_inv ha.1]; exact .pure rfl rfl (Rep.v _)
  · cases he

theorem ex_conv {src dst : TypeId} {x : Operand} {k : Kd} {xs : List Operand} (hk : trKd P (.convert src dst x) = some (k, xs)) {as : List RA} (ha : ArgsOk F w m ns as (xs.map a.eval)) {e : Eff} (he : sem k d as = some e) :
    Good F m B d w e ((convert src dst (a.eval x)).run P w) := by
  simp only [trKd] at hk
  split at hk
  · rename_i k1 k2 h1 h2
    cases hk
    simp only [sem] at he
    split at he
    · cases he
      rw [Rep.v_inv ha.1]
      exact .pure (by simp [convert, run_underlying h1, run_underlying h2, Conv.intToInt]) rfl (Rep.v _)
    · cases he
  · cases hk

theorem ex_mkf {f : FuncId} {caps : Array Operand} {as : List RA} (ha : ArgsOk F w m ns as (caps.toList.map a.eval)) {e : Eff} (he : sem (.mkf f) d as = some e) (hns : ∀ n ∈ e.frz, n ∈ ns) :
    Good F m B d w e ((Instr.makeFunc (.func f) #[] (caps.map a.eval)).run P w) := by
  simp only [sem, Option.map_eq_some_iff] at he
  obtain ⟨ps, hps, rfl⟩ := he
  have h := ha.pvs hns hps
  refine .pure rfl rfl ?_
  have := Rep.clo (F := F) f ps (caps.toList.map a.eval) h.1 h.2
  rw [← List.map_toArray, Array.toArray_toList] at this
  exact this

theorem ex_fad {t : TypeId} {x : Operand} {fi : Nat} {k : Kd} {xs : List Operand} (hk : trKd P (.fieldAddr t x fi) = some (k, xs)) {as : List RA} (ha : ArgsOk F w m ns as (xs.map a.eval)) (hf : FzIn w F) {e : Eff} (he : sem k d as = some e) :
    Good F m B d w e ((Instr.fieldAt t (a.eval x) fi).run P w) := by
  simp only [trKd] at hk
  split at hk
  · rename_i fs hu
    split at hk
    · rename_i fd hfd
      split at hk
      · rename_i hc
        cases hk
        have hrun : ∀ (b o : Nat), (Instr.fieldAt t (.pointer (some ⟨b, o, none⟩)) fi).run P w = .ok (.pointer (some ⟨b, o + fd.offset, none⟩)) w := fun b o => by
          simp [Instr.fieldAt, run_underlying hu, hfd, Instr.sureAddr, fieldPlace, run_size hc.1, hc.2, Addr.add_lit]
        simp only [sem] at he
        split at he
        · cases he
          obtain ⟨b, ys, hb, hv, _⟩ := ha.1
          rw [hv]
          exact .pure (hrun b _) rfl ⟨b, hb, rfl⟩
        · cases he
          obtain ⟨b, ys, hb, hv, _⟩ := ha.1
          rw [hv]
          exact .pure (hrun b _) rfl ⟨b, hb, by rw [Nat.add_assoc]⟩
        · cases he
          obtain ⟨b, o0, ys, hv, hr, h1, hF, _⟩ := Rep.ref_inv ha.1 hf
          rw [hv]
          exact .pure (hrun b _) rfl (by rw [Nat.add_assoc]; exact Rep.ref _ _ b o0 ys hr.1 h1 hF hr.2)
        · cases he
      · cases hk
    · cases hk
  · cases hk

theorem part_run {t : TypeId} {td : TypeDesc} (hu : P.underlying t = some td) {cells : List PV} {ys : List Value} (hr : RepL F cells ys) (h1 : ∀ y ∈ ys, y.oneCell' = true) {off : Nat} {p : PV}
    (hp : ldv cells off (P.cellsOf t) (isAggD td) = some p) : ∃ v, (part t ys.toArray off).run P w = .ok v w ∧ Rep F p v := by
  obtain ⟨i, hi⟩ := info_of_underlying hu
  have hs := run_size (P := P) (t := t) (by simp [hi]) w
  cases hag : isAggD td with
  | true =>
    rw [hag] at hp
    simp only [ldv] at hp
    split at hp
    · rename_i hle
      cases hp
      refine ⟨.agg (ys.toArray.extract off (off + P.cellsOf t)), by simp [part, run_isAggD hu, hag, hs], ?_⟩
      have h2 := ((hr.drop off).take (P.cellsOf t))
      have := Rep.agg (F := F) _ _ h2.1 (fun y hy => h1 y (List.mem_of_mem_drop (List.mem_of_mem_take hy))) h2.2
      simpa [List.extract_eq_take_drop] using this
    · cases hp
  | false =>
    rw [hag] at hp
    simp only [ldv] at hp
    obtain ⟨y, hy, hrep⟩ := hr.get hp
    exact ⟨y, by simp [part, run_isAggD hu, hag, hy], hrep⟩

theorem ex_fld {t : TypeId} {x : Operand} {fi : Nat} {k : Kd} {xs : List Operand} (hk : trKd P (.field t x fi) = some (k, xs)) {as : List RA} (ha : ArgsOk F w m ns as (xs.map a.eval)) {e : Eff} (he : sem k d as = some e) :
    Good F m B d w e ((Instr.field t (a.eval x) fi).run P w) := by
  simp only [trKd] at hk
  split at hk
  · rename_i fs hu
    split at hk
    · rename_i fd hfd
      split at hk
      · rename_i td hd
        cases hk
        simp only [sem] at he
        split at he
        · simp only [Option.map_eq_some_iff] at he
          obtain ⟨p, hp, rfl⟩ := he
          obtain ⟨ys, hv, hr, h1⟩ := Rep.agg_inv ha.1
          obtain ⟨v, hrun, hrep⟩ := part_run (w := w) hd hr h1 hp
          rw [hv]
          exact .pure (by simp [Instr.field, run_underlying hu, hfd, asAgg, hrun]) rfl hrep
        · cases he
      · cases hk
    · cases hk
  · cases hk

theorem ex_iad (hf : FzIn w F) {t : TypeId} {x i : Operand} {k : Kd} {xs : List Operand} (hk : trKd P (.indexAddr t x i) = some (k, xs)) {as : List RA} (ha : ArgsOk F w m ns as (xs.map a.eval)) {e : Eff} (he : sem k d as = some e) :
    Good F m B d w e ((Instr.indexAt t (a.eval x) (a.eval i)).run P w) := by
  simp only [trKd] at hk
  split at hk
  · rename_i el hu
    split at hk
    · rename_i hi
      cases hk
      have hel : P.elem t = el := by simp [Program.elem, hu]
      have hrun : ∀ (b o len cap : Nat) (kd : IntKind) (j : Int), 0 ≤ j → j < len → (Instr.indexAt t (.slice (some ⟨b, o, none⟩) len cap) (.int kd j)).run P w = .ok (.pointer (some ⟨b, o + j.toNat * P.cellsOf el, none⟩)) w := fun b o len cap kd j h0 h1 => by
        rw [run_indexAt_slice w t _ len cap kd j (by rw [hel]; exact hu), if_pos ⟨h0, h1⟩, hel, run_size hi]
        simp [Addr.add_lit]
      simp only [sem] at he
      split at he
      · rename_i n len es' xs kd j
        split at he
        · rename_i hc
          cases he
          obtain ⟨⟨hv, hnil, hle, hw, ys, hr, h1, hcells⟩, h2, _⟩ := ha
          rw [Rep.v_inv h2, hv]
          cases hb : (m n).1 with
          | none =>
            have := hnil hb
            subst this
            have : len = 0 := by simpa using hle
            omega
          | some b =>
            have : rowVal (m n) len = .slice (some ⟨b, 0, none⟩) len (m n).2 := by simp [rowVal, hb]
            rw [this]
            exact .pure (hrun b 0 len _ kd j hc.1 hc.2.1) rfl ⟨b, hb, by simp [hc.2.2]⟩
        · cases he
      · rename_i xs sp kd j
        split at he
        · rename_i h0
          simp only [Option.bind_eq_some_iff] at he
          obtain ⟨c, hc, he⟩ := he
          split at he
          · rename_i hcl
            cases he
            obtain ⟨h1, h2, _⟩ := ha
            rw [Rep.v_inv h2]
            obtain ⟨es, b, off, cap, o, ys, hv, hw, hcap, hm, ho, hr, h1', hF⟩ := Rep.sl_inv h1
            have hj : j.toNat < xs.length := (List.getElem?_eq_some_iff.1 hc).1
            have hne : xs ++ sp ≠ [] := by intro e; simp at e; simp [e.1] at hj
            rw [hv, ho hne]
            have hces : c.length = es := hw c (by simp [List.mem_of_getElem? hc])
            have hes : P.cellsOf el = es := by rw [← hcl, hces]
            have hget : ∀ q, q < es → (xs ++ sp).flatten[j.toNat * es + q]? = c[q]? := fun q hq => by
              rw [flatten_get hw _ _ hq, List.getElem?_append_left hj, hc]; rfl
            have hlen : j.toNat * es + es ≤ ys.length := by
              rw [hr.1, flatten_length hw]
              have : (j.toNat + 1) * es ≤ (xs ++ sp).length * es := Nat.mul_le_mul_right _ (by simp; omega)
              rw [Nat.succ_mul] at this; exact this
            refine .pure (hrun b off xs.length cap kd j h0 (by omega)) rfl ?_
            rw [hes]
            have := Rep.ref (F := F) c 0 b (off + j.toNat * es) ((ys.drop (j.toNat * es)).take es) (by simp; omega) (fun y hy => h1' y (List.mem_of_mem_drop (List.mem_of_mem_take hy))) (fun q y hq => by
              rw [List.getElem?_take] at hq
              split at hq
              · rw [List.getElem?_drop] at hq
                have := hF _ y hq
                rwa [← Nat.add_assoc] at this
              · cases hq) (fun q p y hp hq => by
              rw [List.getElem?_take] at hq
              split at hq
              · rename_i hlt
                rw [List.getElem?_drop] at hq
                exact hr.2 _ p y (by rw [hget q hlt]; exact hp) hq
              · cases hq)
            simpa [RepT] using this
          · cases he
        · cases he
      · cases he
    · cases hk
  · rename_i n el hu
    split at hk
    · rename_i hi
      cases hk
      have hel : P.elem t = el := by simp [Program.elem, hu]
      have hal : P.arrayLen t = n := by simp [Program.arrayLen, hu]
      have hrun : ∀ (b o : Nat) (kd : IntKind) (j : Int), 0 ≤ j → j < n → (Instr.indexAt t (.pointer (some ⟨b, o, none⟩)) (.int kd j)).run P w = .ok (.pointer (some ⟨b, o + j.toNat * P.cellsOf el, none⟩)) w := fun b o kd j h0 h1 => by
        rw [run_indexAt_array w t _ kd j (by rw [hel, hal]; exact hu), hal, if_pos ⟨h0, h1⟩, hel, run_size hi]
        simp [Addr.add_lit]
      simp only [sem] at he
      split at he
      · split at he
        · rename_i hc
          cases he
          obtain ⟨⟨b, ys, hb, hv, _⟩, h2, _⟩ := ha
          rw [Rep.v_inv h2, hv]
          exact .pure (hrun b _ _ _ hc.1 hc.2) rfl ⟨b, hb, rfl⟩
        · cases he
      · split at he
        · rename_i hc
          cases he
          obtain ⟨h1, h2, _⟩ := ha
          obtain ⟨b, o0, ys, hv, hr, h1', hF, _⟩ := Rep.ref_inv h1 hf
          rw [Rep.v_inv h2, hv]
          exact .pure (hrun b _ _ _ hc.1 hc.2) rfl (by rw [Nat.add_assoc]; exact Rep.ref _ _ b o0 ys hr.1 h1' hF hr.2)
        · cases he
      · cases he
    · cases hk
  · cases hk

theorem ex_idx {t : TypeId} {x i : Operand} {k : Kd} {xs : List Operand} (hk : trKd P (.index t x i) = some (k, xs)) {as : List RA} (ha : ArgsOk F w m ns as (xs.map a.eval)) {e : Eff} (he : sem k d as = some e) :
    Good F m B d w e ((Instr.index t (a.eval x) (a.eval i)).run P w) := by
  simp only [trKd] at hk
  split at hk
  · rename_i n el hu
    split at hk
    · rename_i td hd
      cases hk
      simp only [sem] at he
      split at he
      · split at he
        · rename_i hc
          simp only [Option.map_eq_some_iff] at he
          obtain ⟨p, hp, rfl⟩ := he
          obtain ⟨h1, h2, _⟩ := ha
          obtain ⟨ys, hv, hr, h1'⟩ := Rep.agg_inv h1
          obtain ⟨v, hrun, hrep⟩ := part_run (w := w) hd hr h1' hp
          obtain ⟨ii, hi⟩ := info_of_underlying hd
          rw [Rep.v_inv h2, hv]
          exact .pure (by simp [Instr.index, asIntOf, run_underlying hu, hc, run_size (P := P) (t := el) (by simp [hi]), hrun]) rfl hrep
        · cases he
      · cases he
    · cases hk
  · rename_i hu
    cases hk
    simp only [sem] at he
    split at he
    · split at he
      · rename_i hc
        cases he
        obtain ⟨h1, h2, _⟩ := ha
        rw [Rep.v_inv h2, Rep.v_inv h1]
        exact .pure (by simp [Instr.index, asIntOf, run_underlying hu, hc.1, hc.2]) rfl (Rep.v _)
      · cases he
    · cases he
  · cases hk

theorem ex_ext {x : Operand} {i : Nat} {as : List RA} (ha : ArgsOk F w m ns as ([x].map a.eval)) {e : Eff} (he : sem (.ext i) d as = some e) : Good F m B d w e ((Instr.extract (a.eval x) i).run P w) := by
  simp only [sem] at he
  split at he
  · simp only [Option.map_eq_some_iff] at he
    obtain ⟨p, hp, rfl⟩ := he
    obtain ⟨ys, hv, hr⟩ := Rep.tup_inv ha.1
    obtain ⟨y, hy, hrep⟩ := hr.get hp
    rw [hv]
    exact .pure (by simp [Instr.extract, hy]) rfl hrep
  · cases he

theorem ex_max {x y : Operand} {ts : Array TypeId} {ty : TypeId} {as : List RA} (ha : ArgsOk F w m ns as ([x, y].map a.eval)) {e : Eff}
    (he : sem .bmax d as = some e) : Good F m B d w e ((Builtin.max_ ts ty #[a.eval x, a.eval y]).run P w) := by
  simp only [sem] at he
  split at he
  · rename_i i j
    cases he
    obtain ⟨h1, h2, _⟩ := ha
    rw [Rep.v_inv h1, Rep.v_inv h2]
    have hm : (Builtin.max_ ts ty #[.int .i64 i, .int .i64 j]).run P w = .ok (.int .i64 (max i j)) w := by
      rw [Go.Lib.run_max_ints]
    exact .pure hm rfl (Rep.v _)
  · cases he
theorem ex_len {x : Operand} {t ty : TypeId} {c : Nat} (hu : match c with | 0 => ∃ e, P.underlying t = some (.slice e) | 1 => P.underlying t = some .string | _ => ∃ k e, P.underlying t = some (.map k e)) {as : List RA} (ha : ArgsOk F w m ns as ([x].map a.eval)) {e : Eff}
    (he : sem (.len c) d as = some e) : Good F m B d w e ((Builtin.len_ #[t] ty #[a.eval x]).run P w) := by
  simp only [sem] at he
  split at he
  · rename_i n l es xs
    cases he
    obtain ⟨el, hel⟩ := hu
    obtain ⟨⟨hv, hnil, hle, _⟩, _⟩ := ha
    rw [hv]
    have : ∃ o c, rowVal (m n) l = .slice o l c := by
      unfold rowVal
      split
      · exact ⟨_, _, rfl⟩
      · rename_i e
        have := hnil e
        subst this
        have : l = 0 := by simpa using hle
        subst this
        exact ⟨_, _, rfl⟩
    obtain ⟨o, c, hrv⟩ := this
    rw [hrv]
    exact .pure (by simp [Builtin.len_, run_underlying hel, goInt]) rfl (Rep.v _)
  · cases he
    obtain ⟨el, hel⟩ := hu
    obtain ⟨es, b, off, cap, o, ys, hv, _⟩ := Rep.sl_inv ha.1
    rw [hv]
    exact .pure (by simp [Builtin.len_, run_underlying hel, goInt]) rfl (Rep.v _)
  · cases he
    obtain ⟨el, hel⟩ := hu
    have hv : a.eval x = .slice none 0 0 := ha.1
    rw [hv]
    exact .pure (by simp [Builtin.len_, run_underlying hel, goInt]) rfl (Rep.v _)
  · cases he
    have hv := Rep.v_inv ha.1
    rw [hv]
    exact .pure (by simp [Builtin.len_, run_underlying hu, goInt]) rfl (Rep.v _)
  · cases he
    obtain ⟨k, el, hel⟩ := hu
    obtain ⟨⟨b, ents, c, hb, hv, hh, hsz, _⟩, _⟩ := ha
    rw [hv]
    exact .pure (by simp [Builtin.len_, run_underlying hel, goInt, getObj, Sem.run, hh, hsz]) rfl (Rep.v _)
  · cases he
end
end Go.Fw

set_option linter.unusedVariables false
set_option linter.unusedSimpArgs false
namespace Go.Fw
open Go.RowKit

section
variable {P : Program} {B nt d : Nat} {w0 : World} {F0 : Fz} {s : St} {a : Act} {w : World} {F : Fz} {m : Mp} {ns : List Nat}

theorem bnds_run {isSlice : Bool} {len cap : Nat} {lo hi : Option Operand} {as : List RA} (ha : ArgsOk F w m ns as ((lo.toList ++ hi.toList).map a.eval)) {l h : Nat} (hb : bnds lo.isSome hi.isSome len as = some (l, h)) (hlh : l ≤ h) (hc : h ≤ cap) :
    (Instr.sliceBounds isSlice len cap (lo.map a.eval) (hi.map a.eval) none).run P w = .ok (l, h, cap) w := by
  have one : ∀ (v : Value) (k : IntKind) (i : Int) (y : Nat) (code : BoundsCode), v = .int k i → 0 ≤ i → i.toNat ≤ y → (Instr.sliceBound v y code).run P w = .ok i.toNat w := by
    intro v k i y code hv h0 h1
    subst hv
    simp [Instr.sliceBound, asIntOf, h0, show i ≤ y by omega]
  cases lo with
  | none =>
    cases hi with
    | none =>
      simp only [bnds, Option.isSome_none] at hb
      split at hb <;> first | (cases hb; done) | skip
      all_goals first | (simp_all; done) | skip
      cases hb
      simp [Instr.sliceBounds]
    | some y =>
      simp only [bnds, Option.isSome_none, Option.isSome_some] at hb
      split at hb <;> first | (simp_all; done) | skip
      split at hb
      · rename_i h0
        cases hb
        have h1 := Rep.v_inv ha.1
        simp [Instr.sliceBounds, one _ _ _ cap _ h1 h0 hc]
      · cases hb
  | some x =>
    cases hi with
    | none =>
      simp only [bnds, Option.isSome_none, Option.isSome_some] at hb
      split at hb <;> first | (simp_all; done) | skip
      split at hb
      · rename_i h0
        cases hb
        have h1 := Rep.v_inv ha.1
        simp [Instr.sliceBounds, one _ _ _ len _ h1 h0 hlh]
      · cases hb
    | some y =>
      simp only [bnds, Option.isSome_some] at hb
      split at hb <;> first | (simp_all; done) | skip
      split at hb
      · rename_i h0
        cases hb
        obtain ⟨h1, h2, _⟩ := ha
        simp [Instr.sliceBounds, one _ _ _ cap _ (Rep.v_inv h2) h0.2 hc, one _ _ _ _ _ (Rep.v_inv h1) h0.1 hlh]
      · cases hb

theorem drop_take_drop {α : Type} (L : List α) {l h : Nat} (hlh : l ≤ h) : (L.take h).drop l ++ L.drop h = L.drop l := by
  rw [List.drop_take]
  have : L.drop h = (L.drop l).drop (h - l) := by rw [List.drop_drop]; congr 1; omega
  rw [this, List.take_append_drop]

theorem Rep.cut {L : List (List PV)} {es b off cap : Nat} {o : Option Addr} {ys : List Value} (hw : ∀ x ∈ L, x.length = es) (hcap : L.length ≤ cap) (hm : cap ≤ maxLen) (ho : L ≠ [] → o = some ⟨b, off, none⟩) (hr : RepL F L.flatten ys)
    (h1 : ∀ y ∈ ys, y.oneCell' = true) (hF : ∀ (j : Nat) (y : Value), ys[j]? = some y → F b (off + j) = some y) {l h : Nat} (hlh : l ≤ h) (hh : h ≤ L.length) (q : Nat) (hq : L ≠ [] → l = 0 ∨ q = es) :
    Rep F (.sl ((L.take h).drop l) (L.drop h)) (.slice (if cap = l then o else o.map (·.add (l * q))) (h - l) (cap - l)) := by
  have hap := drop_take_drop L hlh
  have hlen : ((L.take h).drop l).length = h - l := by rw [List.length_drop, List.length_take]; omega
  have hrep : RepL F (L.drop l).flatten (ys.drop (l * es)) := by rw [flatten_drop hw]; exact hr.drop _
  have key := Rep.sl (F := F) ((L.take h).drop l) (L.drop h) es b (off + l * es) (cap - l) (if cap = l then o else o.map (·.add (l * q))) (ys.drop (l * es)) (by rw [hap]; exact fun z hz => hw z (List.mem_of_mem_drop hz))
    (by rw [hap, List.length_drop]; omega) (by omega)
    (by
      rw [hap]
      intro hne
      have hne' : L ≠ [] := by intro e; rw [e] at hne; simp at hne
      have hl : l < L.length := by
        rcases Nat.lt_or_ge l L.length with h | h
        · exact h
        · exact absurd (List.drop_eq_nil_of_le h) hne
      rw [if_neg (by omega), ho hne']
      simp only [Option.map_some, Addr.add_lit]
      rcases hq hne' with e | e
      · subst e; simp
      · subst e; rfl) (by rw [hap]; exact hrep.1) (fun y hy => h1 y (List.mem_of_mem_drop hy)) (fun j y hj => by
      rw [List.getElem?_drop] at hj
      have := hF _ y hj
      rwa [← Nat.add_assoc] at this) (by rw [hap]; exact hrep.2)
  rw [hlen] at key
  exact key

theorem ex_slc {t : TypeId} {x : Operand} {lo hi : Option Operand} {el : TypeId} (hu : P.underlying t = some (.slice el)) (hi' : (P.info? el).isSome = true) {as : List RA}
    (ha : ArgsOk F w m ns as ((x :: (lo.toList ++ hi.toList)).map a.eval)) {e : Eff} (he : sem (.slc (P.cellsOf el) lo.isSome hi.isSome) d as = some e) (hns : ∀ n ∈ e.frz, n ∈ ns) :
    Good F m B d w e ((Instr.sliceAt t (a.eval x) (lo.map a.eval) (hi.map a.eval) none).run P w) := by
  have hrun : ∀ (o : Option Addr) (len cap l h : Nat), (Instr.sliceBounds true len cap (lo.map a.eval) (hi.map a.eval) none).run P w = .ok (l, h, cap) w →
      (Instr.sliceAt t (.slice o len cap) (lo.map a.eval) (hi.map a.eval) none).run P w = .ok (.slice (if cap = l then o else o.map (·.add (l * P.cellsOf el))) (h - l) (cap - l)) w := fun o len cap l h hb => by
    simp [Instr.sliceAt, run_underlying hu, Instr.slice, hb, run_size hi']
  simp only [sem] at he
  split at he
  · rename_i xs sp r
    simp only [Option.bind_eq_some_iff] at he
    obtain ⟨⟨l, h⟩, hb, he⟩ := he
    split at he
    · rename_i hc
      cases he
      obtain ⟨h1, h2⟩ := ha
      obtain ⟨es, b, off, cap, o, ys, hv, hw, hcap, hm, ho, hr, h1', hF⟩ := Rep.sl_inv h1
      simp only at hc
      have hbr := bnds_run (P := P) (isSlice := true) (cap := cap) h2 hb hc.1 (by omega)
      rw [hv]
      refine .pure (hrun _ _ _ l h hbr) rfl (Rep.cut hw hcap hm ho hr h1' hF hc.1 hc.2.1 _ fun hne => ?_)
      rcases hc.2.2 with e | e
      · exact .inl e
      · refine .inr ?_
        cases hL : xs ++ sp with
        | nil => exact absurd hL hne
        | cons z zs =>
          rw [hL] at e
          have := hw z (by rw [hL]; simp)
          simp [headLen] at e
          omega
    · cases he
  · rename_i n len es' xs r
    simp only [Option.bind_eq_some_iff] at he
    obtain ⟨⟨l, h⟩, hb, he⟩ := he
    obtain ⟨⟨hv, hnil, hle, hw, ys, hr, h1', hcells⟩, h2⟩ := ha
    rw [hv]
    cases hb' : (m n).1 with
    | none =>
      have := hnil hb'
      subst this
      have hl0 : len = 0 := by simpa using hle
      subst hl0
      have hrv : rowVal (m n) 0 = .slice none 0 0 := by simp [rowVal, hb']
      rw [hrv]
      split at he
      · rename_i hc
        cases he
        simp only [List.length_nil] at hc
        have e1 : l = 0 := hc.1
        have e2 : h = 0 := by omega
        subst e1; subst e2
        have hbr := bnds_run (P := P) (isSlice := true) (len := 0) (cap := 0) h2 hb (by omega) (by omega)
        exact .pure (hrun _ _ _ 0 0 hbr) rfl ⟨by simp [rowVal, hb'], fun _ => rfl⟩
      · split at he
        · rename_i hc1 hc
          simp only [List.length_nil] at hc hc1
          omega
        · cases he
    | some b =>
      obtain ⟨k1, k2, k3, k4⟩ := hcells b hb'
      have hrv : rowVal (m n) len = .slice (some ⟨b, 0, none⟩) len (m n).2 := by simp [rowVal, hb']
      rw [hrv]
      split at he
      · rename_i hc
        cases he
        simp only at hc
        have e1 : l = 0 := hc.1
        subst e1
        have hbr := bnds_run (P := P) (isSlice := true) (cap := (m n).2) h2 hb (by omega) (by omega)
        refine .pure (hrun _ _ _ 0 h hbr) rfl ⟨?_, fun e => by rw [hb'] at e; cases e⟩
        simp [rowVal, hb', Addr.add_lit]
      · split at he
        · rename_i hc
          cases he
          simp only at hc
          have hbr := bnds_run (P := P) (isSlice := true) (cap := (m n).2) h2 hb hc.1 (by omega)
          refine .pure (hrun _ _ _ l h hbr) rfl ?_
          exact Rep.cut (off := 0) hw k1 k2 (fun _ => rfl) hr h1' (fun j y e => by rw [Nat.zero_add]; exact k4 (hns n (by simp)) j y e) hc.1 hc.2.1 _ fun _ => .inr hc.2.2.symm
        · cases he
  · cases he

theorem ex_sstr {t : TypeId} {x : Operand} {lo hi : Option Operand} (hu : P.underlying t = some .string) {as : List RA}
    (ha : ArgsOk F w m ns as ((x :: (lo.toList ++ hi.toList)).map a.eval)) {e : Eff} (he : sem (.sstr lo.isSome hi.isSome) d as = some e) :
    Good F m B d w e ((Instr.sliceAt t (a.eval x) (lo.map a.eval) (hi.map a.eval) none).run P w) := by
  simp only [sem] at he
  split at he
  · rename_i s r
    simp only [Option.bind_eq_some_iff] at he
    obtain ⟨⟨l, h⟩, hb, he⟩ := he
    split at he
    · rename_i hc
      cases he
      obtain ⟨h1, h2⟩ := ha
      have hbr := bnds_run (P := P) (isSlice := false) (cap := s.size) h2 hb hc.1 hc.2
      rw [Rep.v_inv h1]
      exact .pure (by simp [Instr.sliceAt, run_underlying hu, Instr.slice, hbr]) rfl (Rep.v _)
    · cases he
  · cases he

theorem chunks_length {es : Nat} : ∀ (n : Nat) (l : List PV), (chunks es n l).length = n
  | 0, _ => rfl
  | n + 1, l => by simp [chunks, chunks_length n]
theorem chunks_width {es : Nat} : ∀ (n : Nat) (l : List PV), n * es ≤ l.length → ∀ x ∈ chunks es n l, x.length = es
  | 0, _, _, x, hx => by simp [chunks] at hx
  | n + 1, l, hl, x, hx => by
    simp only [chunks, List.mem_cons] at hx
    rw [Nat.succ_mul] at hl
    rcases hx with rfl | hx
    · simp; omega
    · exact chunks_width n (l.drop es) (by simp; omega) x hx
theorem chunks_flatten {es : Nat} : ∀ (n : Nat) (l : List PV), (chunks es n l).flatten = l.take (n * es)
  | 0, l => by simp [chunks]
  | n + 1, l => by
    have h : (n + 1) * es = es + n * es := by rw [Nat.succ_mul, Nat.add_comm]
    rw [chunks, List.flatten_cons, chunks_flatten n, h, List.take_add]

theorem ex_sarr {t : TypeId} {x : Operand} {lo hi : Option Operand} {el : TypeId} {n : Nat} (hu : P.underlying t = some (.array n el)) (hi' : (P.info? el).isSome = true) (hn : n ≤ maxLen) {as : List RA}
    (ha : ArgsOk F w m ns as ((x :: (lo.toList ++ hi.toList)).map a.eval)) {e : Eff} (he : sem (.sarr (P.cellsOf el) n lo.isSome hi.isSome) d as = some e) (hns : ∀ n ∈ e.frz, n ∈ ns) :
    Good F m B d w e ((Instr.sliceAt t (a.eval x) (lo.map a.eval) (hi.map a.eval) none).run P w) := by
  simp only [sem] at he
  split at he
  · rename_i nm o cells r
    simp only [Option.bind_eq_some_iff] at he
    obtain ⟨⟨l, h⟩, hb, he⟩ := he
    split at he
    · rename_i hc
      cases he
      simp only at hc
      obtain ⟨⟨b, ys, hb', hv, hr, h1', hcell, hfr⟩, h2⟩ := ha
      have hbr := bnds_run (P := P) (isSlice := false) (cap := n) h2 hb hc.1 hc.2.1
      rw [hv]
      have hw := chunks_width (es := P.cellsOf el) n (cells.drop o) (by simp; omega)
      have hfl := chunks_flatten (es := P.cellsOf el) n (cells.drop o)
      refine .pure (v := .slice (if n = l then some ⟨b, o, none⟩ else (some (⟨b, o, none⟩ : Addr)).map (·.add (l * P.cellsOf el))) (h - l) (n - l)) ?_ rfl ?_
      · simp only [Instr.sliceAt, Sem.run_bind, run_underlying hu, Result.andThen_ok, Instr.sureAddr, Sem.run_pure, hbr, run_size hi', Option.map_some]
        split <;> rfl
      · refine Rep.cut (L := chunks (P.cellsOf el) n (cells.drop o)) (off := o) (ys := (ys.drop o).take (n * P.cellsOf el)) hw (by rw [chunks_length]; exact Nat.le_refl _) hn (fun _ => rfl) ?_ (fun y hy => h1' y (List.mem_of_mem_drop (List.mem_of_mem_take hy))) (fun j y e => ?_) hc.1 (by rw [chunks_length]; exact hc.2.1) _ fun _ => .inr rfl
        · rw [hfl]; exact (hr.drop o).take _
        · rw [List.getElem?_take] at e
          split at e
          · rw [List.getElem?_drop] at e
            exact hfr (hns nm (by simp)) _ y e
          · cases e
    · cases he
  · cases he

theorem ex_mkmap (hB : B ≤ w.heap.size) (hf : FzIn w F) {t : TypeId} {kt et : Nat} {as : List RA} {e : Eff} (he : sem (.mkmap kt et) d as = some e) : Good F m B d w e ((Instr.makeMap t none).run P w) := by
  simp only [sem] at he
  split at he
  · cases he
    refine ⟨.map (some w.heap.size), w.alloc (.map #[] 0), by simp [Instr.makeMap], .inr ⟨_, _, 0, rfl, rfl, ⟨w.heap.size, by simp [Fw.upd], rfl⟩, w.heap.size, #[], 0, rfl, hB, heap_alloc_new w _, by simp, rfl, by simp⟩⟩
  · cases he

theorem findNow_str (k : ByteArray) : ∀ (l : List MapEntry) (es : List (ByteArray × PV)) (i : Nat), l.length = es.length → (∀ (j : Nat) (q : ByteArray) (p : PV) (e : MapEntry), es[j]? = some (q, p) → l[j]? = some e → e.key = .string q ∧ Rep F p e.val) →
    (∃ j e p, Instr.findNow .string (.string k) l i = some (some (i + j, e.val)) ∧ l[j]? = some e ∧ es[j]? = some (k, p) ∧ mfind k es = some p ∧ (∀ x, mput k x es = es.set j (k, x)) ∧ mcut k es = es.eraseIdx j) ∨
    (Instr.findNow .string (.string k) l i = some none ∧ mfind k es = none ∧ (∀ x, mput k x es = es ++ [(k, x)]) ∧ mcut k es = es)
  | [], es, i, hl, hr => by
    have : es = [] := List.eq_nil_of_length_eq_zero (by simpa using hl.symm)
    subst this
    exact .inr ⟨rfl, rfl, fun _ => rfl, rfl⟩
  | e :: l, [], i, hl, hr => by simp at hl
  | e :: l, (q, p) :: es, i, hl, hr => by
    have h0 := hr 0 q p e rfl rfl
    have hbeq : (k == q) = decide (k = q) := by rw [beq_toListBytes, toList_beq]
    have hsn : Instr.sameNow .string (.string k) e.key = some (decide (k = q)) := by rw [h0.1]; simp only [Instr.sameNow, hbeq]
    by_cases hk : k = q
    · subst hk
      refine .inl ⟨0, e, p, ?_, rfl, rfl, by simp [mfind], fun x => by simp [mput], by simp [mcut]⟩
      simp [Instr.findNow, hsn]
    · have hs' : Instr.sameNow .string (.string k) e.key = some false := by rw [hsn]; simp [hk]
      rcases findNow_str k l es (i + 1) (by simpa using hl) (fun j q' p' e' h1 h2 => hr (j + 1) q' p' e' (by simpa using h1) (by simpa using h2)) with ⟨j, e', p', g1, g2, g3, g4, g5, g6⟩ | ⟨g1, g2, g3, g4⟩
      · refine .inl ⟨j + 1, e', p', ?_, by simpa using g2, by simpa using g3, by simp [mfind, hk, g4], fun x => by simp [mput, hk, g5], by simp [mcut, hk, g6]⟩
        simp only [Instr.findNow, hs', g1]
        congr 3; omega
      · exact .inr ⟨by simp only [Instr.findNow, hs', g1], by simp [mfind, hk, g2], fun x => by simp [mput, hk, g3], by simp [mcut, hk, g4]⟩

theorem checkKey_str {kt : TypeId} (h : P.underlying kt = some .string) (b : Bool) (n : Nat) (s : ByteArray) (w : World) : (Instr.checkKey b (n + 1) kt (.string s)).run P w = .ok () w := by
  simp [Instr.checkKey, run_underlying h]

theorem zvP_rep {t : TypeId} {p : PV} (h : zvP P t = some p) : ∃ z, (∀ w, (zeroValue t).run P w = .ok z w) ∧ Rep F p z := by
  unfold zvP at h
  split at h
  · rename_i i hi
    split at h
    · rename_i cs hz
      simp only [Option.map_eq_some_iff] at h
      obtain ⟨ps, hps, rfl⟩ := h
      obtain ⟨h1, h2⟩ := zps_rep (F := F) hps
      refine ⟨_, fun w => run_zero hi hz w, ?_⟩
      have := Rep.agg (F := F) ps cs.toList h1.1 h2 h1.2
      simpa using this
    · rename_i z _ hz
      exact ⟨z, fun w => run_zero hi hz w, (zp_rep h).1⟩
    · cases h
  · cases h

theorem ex_look {t kt et : TypeId} {mo ko : Operand} {ok : Bool} {z : PV} (hu : P.underlying t = some (.map kt et)) (hku : P.underlying kt = some .string) (hz : zvP P et = some z) {as : List RA}
    (ha : ArgsOk F w m ns as ([mo, ko].map a.eval)) {e : Eff} (he : sem (.look kt z ok) d as = some e) : Good F m B d w e ((Instr.lookup t (a.eval mo) (a.eval ko) ok).run P w) := by
  simp only [sem] at he
  split at he
  · rename_i n kt' et' es k
    split at he
    · rename_i hkt
      obtain ⟨⟨b, ents, c, hb, hv, hh, hsz, hent⟩, h2, _⟩ := ha
      rw [hv, Rep.v_inv h2]
      obtain ⟨zv, hzr, hzrep⟩ := zvP_rep (F := F) hz
      have hget : (getObj b).run P w = .ok (.map ents c) w := by simp [getObj, Sem.run, hh]
      rcases findNow_str k ents.toList es 0 (by simpa using hsz) (fun j q p e h1 h2 => hent j q p e h1 (by simpa using h2)) with ⟨j, e', p', g1, g2, g3, g4, g5, g6⟩ | ⟨g1, g2, g3, g4⟩
      · have hrep : Rep F p' e'.val := (hent j k p' e' g3 (by simpa using g2)).2
        rw [g4] at he
        cases ok <;> simp only at he <;> cases he
        · exact .pure (by simp [Instr.lookup, run_underlying hu, hget, checkKey_str hku, Instr.findKey, run_underlying hku, g1]) rfl hrep
        · exact .pure (v := .tuple [e'.val, .bool true].toArray) (by simp [Instr.lookup, run_underlying hu, hget, checkKey_str hku, Instr.findKey, run_underlying hku, g1]) rfl
            (Rep.tup _ _ rfl (RepL.cons hrep (RepL.cons (Rep.v _) RepL.nil)).2)
      · rw [g2] at he
        cases ok <;> simp only at he <;> cases he
        · exact .pure (by simp [Instr.lookup, run_underlying hu, hget, checkKey_str hku, Instr.findKey, run_underlying hku, g1, hzr]) rfl hzrep
        · exact .pure (v := .tuple [zv, .bool false].toArray) (by simp [Instr.lookup, run_underlying hu, hget, checkKey_str hku, Instr.findKey, run_underlying hku, g1, hzr]) rfl
            (Rep.tup _ _ rfl (RepL.cons hzrep (RepL.cons (Rep.v _) RepL.nil)).2)
    · cases he
  · cases he
end
end Go.Fw

set_option linter.unusedVariables false
set_option linter.unusedSimpArgs false
namespace Go.Fw
open Go.RowKit

def valsEq : List Ck → List Value → List Value → Option Bool
  | [], [], [] => some true
  | .b :: ks, .bool a :: xs, .bool b :: ys => (valsEq ks xs ys).map (decide (a = b) && ·)
  | .i k :: ks, .int k1 a :: xs, .int k2 b :: ys => if k1 = k ∧ k2 = k then (valsEq ks xs ys).map (decide (a = b) && ·) else none
  | .s :: ks, .string a :: xs, .string b :: ys => (valsEq ks xs ys).map (decide (a = b) && ·)
  | _, _, _ => none

theorem cellsEq_vals {F : Fz} : ∀ {ks : List Ck} {cs ds : List PV} {us vs : List Value} {b : Bool}, RepL F cs us → RepL F ds vs → cellsEq ks cs ds = some b → valsEq ks us vs = some b := by
  intro ks
  induction ks with
  | nil =>
    intro cs ds us vs b h1 h2 h
    unfold cellsEq at h
    split at h <;> first | (cases h; done) | skip
    all_goals first | (simp_all; done) | skip
    cases h
    have e1 : us = [] := List.eq_nil_of_length_eq_zero (by simpa using h1.1)
    have e2 : vs = [] := List.eq_nil_of_length_eq_zero (by simpa using h2.1)
    subst e1; subst e2
    rfl
  | cons k ks ih =>
    intro cs ds us vs b h1 h2 h
    unfold cellsEq at h
    split at h
    · simp_all
    · rename_i e
      cases e
      obtain ⟨y, zs, rfl, hy, hz⟩ := h1.head
      obtain ⟨y', zs', rfl, hy', hz'⟩ := h2.head
      cases Rep.v_inv hy; cases Rep.v_inv hy'
      simp only [Option.map_eq_some_iff] at h
      obtain ⟨c, hc, rfl⟩ := h
      simp [valsEq, ih hz hz' hc]
    · rename_i e
      cases e
      obtain ⟨y, zs, rfl, hy, hz⟩ := h1.head
      obtain ⟨y', zs', rfl, hy', hz'⟩ := h2.head
      cases Rep.v_inv hy; cases Rep.v_inv hy'
      split at h
      · rename_i hk
        simp only [Option.map_eq_some_iff] at h
        obtain ⟨c, hc, rfl⟩ := h
        simp [valsEq, hk, ih hz hz' hc]
      · cases h
    · rename_i e
      cases e
      obtain ⟨y, zs, rfl, hy, hz⟩ := h1.head
      obtain ⟨y', zs', rfl, hy', hz'⟩ := h2.head
      cases Rep.v_inv hy; cases Rep.v_inv hy'
      simp only [Option.map_eq_some_iff] at h
      obtain ⟨c, hc, rfl⟩ := h
      simp [valsEq, ih hz hz' hc]
    · cases h

theorem valsEq_len : ∀ {ks : List Ck} {us vs : List Value} {b : Bool}, valsEq ks us vs = some b → us.length = ks.length ∧ vs.length = ks.length := by
  intro ks
  induction ks with
  | nil => intro us vs b h; unfold valsEq at h; split at h <;> simp_all
  | cons k ks ih =>
    intro us vs b h
    unfold valsEq at h
    split at h
    · simp_all
    · rename_i e; cases e; simp only [Option.map_eq_some_iff] at h; obtain ⟨c, hc, _⟩ := h; have := ih hc; simp [this.1, this.2]
    · rename_i e; cases e
      split at h
      · simp only [Option.map_eq_some_iff] at h; obtain ⟨c, hc, _⟩ := h; have := ih hc; simp [this.1, this.2]
      · cases h
    · rename_i e; cases e; simp only [Option.map_eq_some_iff] at h; obtain ⟨c, hc, _⟩ := h; have := ih hc; simp [this.1, this.2]
    · cases h

theorem valsEq_append : ∀ {js ks : List Ck} {us vs : List Value} {b : Bool}, valsEq (js ++ ks) us vs = some b →
    ∃ b1 b2, valsEq js (us.take js.length) (vs.take js.length) = some b1 ∧ valsEq ks (us.drop js.length) (vs.drop js.length) = some b2 ∧ b = (b1 && b2) := by
  intro js
  induction js with
  | nil => intro ks us vs b h; exact ⟨true, b, by simp [valsEq], by simpa using h, by simp⟩
  | cons j js ih =>
    intro ks us vs b h
    rw [List.cons_append] at h
    unfold valsEq at h
    split at h
    · simp_all
    · rename_i e; cases e; simp only [Option.map_eq_some_iff] at h; obtain ⟨c, hc, rfl⟩ := h; obtain ⟨b1, b2, h1, h2, rfl⟩ := ih hc; refine ⟨_, b2, ?_, by simpa using h2, (Bool.and_assoc _ _ _).symm⟩; simp [valsEq, h1]
    · rename_i e; cases e
      split at h
      · rename_i hk; simp only [Option.map_eq_some_iff] at h; obtain ⟨c, hc, rfl⟩ := h; obtain ⟨b1, b2, h1, h2, rfl⟩ := ih hc; refine ⟨_, b2, ?_, by simpa using h2, (Bool.and_assoc _ _ _).symm⟩; simp [valsEq, hk, h1]
      · cases h
    · rename_i e; cases e; simp only [Option.map_eq_some_iff] at h; obtain ⟨c, hc, rfl⟩ := h; obtain ⟨b1, b2, h1, h2, rfl⟩ := ih hc; refine ⟨_, b2, ?_, by simpa using h2, (Bool.and_assoc _ _ _).symm⟩; simp [valsEq, h1]
    · cases h

section
variable {P : Program}
def aggB (P : Program) (t : TypeId) : Bool := match P.underlying t with | some td => isAggD td | none => false
def valOf (P : Program) (t : TypeId) (us : List Value) : Value := if aggB P t then .agg us.toArray else us.headD undef

theorem part_val {t : TypeId} {td : TypeDesc} (hu : P.underlying t = some td) {us : List Value} {off : Nat} (hl : off + P.cellsOf t ≤ us.length) (h1 : isAggD td = false → P.cellsOf t = 1) (w : World) :
    (part t us.toArray off).run P w = .ok (valOf P t ((us.drop off).take (P.cellsOf t))) w := by
  obtain ⟨i, hi⟩ := info_of_underlying hu
  have hs := run_size (P := P) (t := t) (by simp [hi]) w
  cases hag : isAggD td with
  | true => simp [part, run_isAggD hu, hag, hs, valOf, aggB, hu, List.extract_eq_take_drop]
  | false =>
    have hc := h1 hag
    have ho : off < us.length := by omega
    rw [hc]
    have : (us.drop off).take 1 = [us[off]] := by rw [List.drop_eq_getElem_cons ho]; rfl
    simp [part, run_isAggD hu, hag, valOf, aggB, hu, this, ho]

theorem flatK_under {d : Nat} {t : TypeId} {ks : List Ck} (h : flatK P d t = some ks) : ∃ td, P.underlying t = some td ∧ (isAggD td = false → ks.length = 1) := by
  cases d with
  | zero => cases h
  | succ d =>
    unfold flatK at h
    split at h <;> first | (cases h; done) | skip
    · rename_i hu; cases h; exact ⟨_, hu, fun _ => rfl⟩
    · rename_i hu; cases h; exact ⟨_, hu, fun _ => rfl⟩
    · rename_i hu; cases h; exact ⟨_, hu, fun _ => rfl⟩
    · rename_i hu; exact ⟨_, hu, fun e => by simp [isAggD] at e⟩
    · rename_i hu; exact ⟨_, hu, fun e => by simp [isAggD] at e⟩

theorem eqFields_run {D : Nat} {g : TypeId → Option (List Ck)} (IH : ∀ t ks, g t = some ks → (∃ td, P.underlying t = some td ∧ (isAggD td = false → ks.length = 1)) ∧ ∀ us vs b w, valsEq ks us vs = some b → (Op.equalIn D t (valOf P t us) (valOf P t vs)).run P w = .ok b w) {us vs : List Value} :
    ∀ (fs : List Field) (off : Nat) (ks : List Ck), flatFs P g fs off = some ks → ∀ b, valsEq ks (us.drop off) (vs.drop off) = some b → ∀ w, (Op.eqFields D us.toArray vs.toArray fs).run P w = .ok b w
  | [], off, ks, h, b, hv, w => by
    cases h
    have : b = true := by unfold valsEq at hv; split at hv <;> simp_all
    subst this
    simp [Op.eqFields]
  | f :: fs, off, ks, h, b, hv, w => by
    simp only [flatFs, Option.bind_eq_some_iff] at h
    obtain ⟨js, hj, h⟩ := h
    split at h
    · rename_i hc
      simp only [Option.map_eq_some_iff] at h
      obtain ⟨ks', hks, rfl⟩ := h
      have hlen := valsEq_len hv
      obtain ⟨b1, b2, h1, h2, rfl⟩ := valsEq_append hv
      obtain ⟨⟨td, hu, hone⟩, hrun⟩ := IH f.type js hj
      have hlu : off + P.cellsOf f.type ≤ us.length := by have := hlen.1; simp at this; rw [hc.2.2.1]; omega
      have hlv : off + P.cellsOf f.type ≤ vs.length := by have := hlen.2; simp at this; rw [hc.2.2.1]; omega
      have hp1 := part_val hu hlu (fun e => by rw [hc.2.2.1]; exact hone e) w
      have hp2 := part_val hu hlv (fun e => by rw [hc.2.2.1]; exact hone e) w
      rw [hc.2.2.1] at hp1 hp2
      simp only [Op.eqFields, hc.1, ne_eq, not_false_eq_true, if_true, Sem.run_bind, hc.2.1, hp1, hp2, Result.andThen_ok, hrun _ _ _ w h1]
      cases b1 with
      | false => simp
      | true =>
        have := eqFields_run IH fs (off + js.length) ks' hks b2 (by rw [List.drop_drop] at h2; rw [List.drop_drop] at h2; exact h2) w
        simpa using this
    · cases h

theorem eqItems_run {D : Nat} {e : TypeId} {js : List Ck} (hjs : P.cellsOf e = js.length) (hj0 : 0 < js.length) (hu : ∃ td, P.underlying e = some td ∧ (isAggD td = false → js.length = 1))
    (IH : ∀ us vs b w, valsEq js us vs = some b → (Op.equalIn D e (valOf P e us) (valOf P e vs)).run P w = .ok b w) {us vs : List Value} :
    ∀ (n k : Nat) (b : Bool), valsEq (List.replicate n js).flatten (us.drop (k * js.length)) (vs.drop (k * js.length)) = some b → ∀ w, (Op.eqItems D e js.length us.toArray vs.toArray (List.range' k n)).run P w = .ok b w
  | 0, k, b, hv, w => by
    have : b = true := by simp at hv; unfold valsEq at hv; split at hv <;> simp_all
    subst this
    simp [Op.eqItems]
  | n + 1, k, b, hv, w => by
    rw [List.replicate_succ, List.flatten_cons] at hv
    have hlen := valsEq_len hv
    obtain ⟨b1, b2, h1, h2, rfl⟩ := valsEq_append hv
    obtain ⟨td, hu, hone⟩ := hu
    have hlu : k * js.length + P.cellsOf e ≤ us.length := by have := hlen.1; simp at this; rw [hjs]; omega
    have hlv : k * js.length + P.cellsOf e ≤ vs.length := by have := hlen.2; simp at this; rw [hjs]; omega
    have hp1 := part_val hu hlu (fun e => by rw [hjs]; exact hone e) w
    have hp2 := part_val hu hlv (fun e => by rw [hjs]; exact hone e) w
    rw [hjs] at hp1 hp2
    simp only [List.range'_succ, Op.eqItems, Sem.run_bind, hp1, hp2, Result.andThen_ok, IH _ _ _ w h1]
    cases b1 with
    | false => simp
    | true =>
      have := eqItems_run hjs hj0 ⟨td, hu, hone⟩ IH n (k + 1) b2 (by rw [List.drop_drop] at h2; rw [List.drop_drop] at h2; rw [Nat.succ_mul]; exact h2) w
      simpa using this

theorem equal_run : ∀ (d : Nat) (t : TypeId) (ks : List Ck), flatK P d t = some ks → ∀ D, d ≤ D → ∀ us vs b w, valsEq ks us vs = some b → (Op.equalIn D t (valOf P t us) (valOf P t vs)).run P w = .ok b w
  | 0, _, _, h, _, _, _, _, _, _, _ => by cases h
  | d + 1, t, ks, h, 0, hD, _, _, _, _, _ => by omega
  | d + 1, t, ks, h, D + 1, hD, us, vs, b, w, hv => by
    have IH := fun t ks h => equal_run d t ks h D (by omega)
    unfold flatK at h
    split at h <;> first | (cases h; done) | skip
    · rename_i hu
      cases h
      unfold valsEq at hv
      split at hv <;> first | (simp_all; done) | skip
      rename_i e
      cases e
      simp only [Option.map_eq_some_iff] at hv
      obtain ⟨c, hc, rfl⟩ := hv
      have : c = true := by unfold valsEq at hc; split at hc <;> simp_all
      subst this
      simp only [valOf, aggB, hu, isAggD, Bool.false_eq_true, if_false, List.headD_cons, run_equalIn_bool w D t _ _ hu]
      have hb : ∀ a b : Bool, (a == b) = decide (a = b) := by decide
      simp [hb]
    · rename_i k hu
      cases h
      unfold valsEq at hv
      split at hv <;> first | (simp_all; done) | skip
      rename_i e
      cases e
      split at hv
      · simp only [Option.map_eq_some_iff] at hv
        obtain ⟨c, hc, rfl⟩ := hv
        have : c = true := by unfold valsEq at hc; split at hc <;> simp_all
        subst this
        rename_i hk
        obtain ⟨rfl, rfl⟩ := hk
        simp only [valOf, aggB, hu, isAggD, Bool.false_eq_true, if_false, List.headD_cons, run_equalIn_int w D t _ _ _ _ hu, Bool.and_true]
        congr 1
      · cases hv
    · rename_i hu
      cases h
      unfold valsEq at hv
      split at hv <;> first | (simp_all; done) | skip
      rename_i e
      cases e
      simp only [Option.map_eq_some_iff] at hv
      obtain ⟨c, hc, rfl⟩ := hv
      have : c = true := by unfold valsEq at hc; split at hc <;> simp_all
      subst this
      simp only [valOf, aggB, hu, isAggD, Bool.false_eq_true, if_false, List.headD_cons, run_equalIn_string w D t _ _ hu, Bool.and_true, toList_beq]
    · rename_i fs hu
      split at h
      · cases h
      · rename_i hst
        have hfs : P.fieldsOf t = fs := by simp [Program.fieldsOf, hu]
        have := eqFields_run (P := P) (D := D) (g := flatK P d) (fun t ks h => ⟨flatK_under h, IH t ks h⟩) (us := us) (vs := vs) fs.toList 0 ks h b (by simpa using hv) w
        simp only [valOf, aggB, hu, isAggD, if_true]
        rw [run_equalIn_struct w D t us.toArray vs.toArray (by rw [hfs]; exact hu) (by simpa using hst), hfs]
        exact this
    · rename_i n e hu
      simp only [Option.bind_eq_some_iff] at h
      obtain ⟨js, hj, h⟩ := h
      split at h
      · rename_i hc
        cases h
        obtain ⟨td, hue, hone⟩ := flatK_under hj
        obtain ⟨i, hi⟩ := info_of_underlying hue
        have := eqItems_run (P := P) (D := D) hc.1 hc.2 ⟨td, hue, hone⟩ (fun us vs b w h => IH e js hj us vs b w h) (us := us) (vs := vs) n 0 b (by simpa using hv) w
        simp only [valOf, aggB, hu, isAggD, if_true]
        rw [run_equalIn_array w D us.toArray vs.toArray hu hi, hc.1, List.range_eq_range']
        exact this
      · cases h

theorem ex_eqs {F : Fz} {m : Mp} {B d : Nat} {w : World} {a : Act} {ns : List Nat} {neg : Bool} {op : BinOp} (hop : op = if neg then .neq else .eql) {t : TypeId} {td : TypeDesc} (hu : P.underlying t = some td) (hag : isAggD td = true) (hg : P.eqGuardType P.depth t = false) {ks : List Ck}
    (hk : flatK P 64 t = some ks) {x y : Operand} {as : List RA} (ha : ArgsOk F w m ns as ([x, y].map a.eval)) {e : Eff} (he : sem (.eqs neg ks) d as = some e) :
    Good F m B d w e (((do eqGuard op t x y (a.eval x) (a.eval y); binOp op t (a.eval x) (a.eval y)) : Sem Value).run P w) := by
  simp only [sem] at he
  split at he
  · rename_i cs ds
    simp only [Option.map_eq_some_iff] at he
    obtain ⟨r, hr, rfl⟩ := he
    obtain ⟨h1, h2, _⟩ := ha
    obtain ⟨us, hvu, hru, _⟩ := Rep.agg_inv h1
    obtain ⟨vs, hvv, hrv, _⟩ := Rep.agg_inv h2
    have hv := cellsEq_vals hru hrv hr
    have hrun := equal_run (P := P) 64 t ks hk 10000 (by omega) us vs r w hv
    have e1 : valOf P t us = .agg us.toArray := by simp [valOf, aggB, hu, hag]
    have e2 : valOf P t vs = .agg vs.toArray := by simp [valOf, aggB, hu, hag]
    rw [e1, e2] at hrun
    rw [hvu, hvv]
    subst hop
    cases neg
    · exact .pure (v := .bool r) (by simp only [Sem.run_bind, run_eqGuard_agg w _ t x y us.toArray vs.toArray hg, Result.andThen_ok, Bool.false_eq_true, if_false, run_eql_struct, hrun]) rfl (by cases r <;> exact Rep.v _)
    · exact .pure (v := .bool (!r)) (by simp only [Sem.run_bind, run_eqGuard_agg w _ t x y us.toArray vs.toArray hg, Result.andThen_ok, if_true, run_neq_struct, hrun]) rfl (by cases r <;> exact Rep.v _)
  · cases he
end
end Go.Fw

set_option linter.unusedVariables false
set_option linter.unusedSimpArgs false
namespace Go.Fw
open Go.RowKit

def GoodN (F : Fz) (m : Mp) (B d : Nat) (w : World) (e : Eff) (r : Result Next) : Prop :=
  ∃ v w', r = .ok (.value v) w' ∧ ((e.new = none ∧ w' = w ∧ RepT F m e.v v) ∨
    ∃ x obj c, e.new = some x ∧ w' = w.alloc obj ∧ RepT F (upd m d (some w.heap.size, c)) e.v v ∧ OwnOk F (w.alloc obj) B (some w.heap.size, c) x)

section
variable {P : Program} {B nt d : Nat} {w0 : World} {F0 : Fz} {s : St} {a : Act} {w : World} {F : Fz} {m : Mp} {ns : List Nat}

theorem GoodN.of {e : Eff} {c : Sem Value} (h : Good F m B d w e (c.run P w)) : GoodN F m B d w e ((do pure (Next.value (← c)) : Sem Next).run P w) := by
  obtain ⟨v, w', hr, h⟩ := h
  exact ⟨v, w', by simp [hr], h⟩

theorem exec_good {o : Oper} {k : Kd} {xs : List Operand} (hk : trKd P o.op = some (k, xs)) (hB : B ≤ w.heap.size) (hf : FzIn w F) {as : List RA} (ha : ArgsOk F w m ns as (xs.map a.eval)) {e : Eff} (he : sem k d as = some e)
    (hns : ∀ n ∈ e.frz, n ∈ ns) : GoodN F m B d w e ((execOp a.eval o).run P w) := by
  unfold execOp
  cases hop : o.op <;> rw [hop] at hk <;> simp only
  case move x => cases hk; exact .of (c := pure (a.eval x)) (ex_mv ha he)
  case assign x => cases hk; exact .of (c := pure (a.eval x)) (ex_mv ha he)
  case pick c x y =>
    cases hk
    obtain ⟨b, hb, hr, hn⟩ := ex_pick ha he
    exact ⟨_, w, by simp [hb, asBool], .inl ⟨hn, rfl, hr⟩⟩
  case alloc e => exact .of (ex_alloc hB hf hk he)
  case box t x => cases hk; exact .of (ex_box hB hf ha he hns)
  case build t parts => exact .of (ex_build hf hk ha he hns)
  case buildSlice t n parts => exact .of (ex_bsl hB hf hk ha he hns)
  case load t x => exact .of (ex_load hf hk ha he)
  case store t x y => simp only [trKd] at hk; split at hk <;> cases hk; cases he
  case binOp op t x y yt =>
    simp only [trKd] at hk
    split at hk
    · cases hk; exact .of (ex_bin ha he)
    · cases hk; exact .of (ex_bin ha he)
    · rename_i hu
      split at hk <;> cases hk
      · exact .of (ex_beq (neg := false) rfl hu ha he)
      · exact .of (ex_beq (neg := true) rfl hu ha he)
    · rename_i td _ _ _ hu
      split at hk
      · rename_i hc
        simp only [Bool.and_eq_true, Bool.not_eq_true'] at hc
        simp only [Option.bind_eq_some_iff] at hk
        obtain ⟨ks, hks, hk⟩ := hk
        split at hk <;> cases hk
        · exact .of (ex_eqs (neg := false) rfl hu hc.1 hc.2 hks ha he)
        · exact .of (ex_eqs (neg := true) rfl hu hc.1 hc.2 hks ha he)
      · cases hk
    · cases hk
  case unOp op t x => cases hk; exact .of (ex_un ha he)
  case convert src dst x => exact .of (ex_conv hk ha he)
  case makeFunc fn first caps =>
    cases fn <;> simp only [trKd] at hk <;> first | (cases hk; done) | skip
    split at hk
    · rename_i hfirst
      cases hk
      have : first = #[] := by simpa using hfirst
      subst this
      exact .of (c := Instr.makeFunc _ (#[].map a.eval) (caps.map a.eval)) (by simpa using ex_mkf ha he hns)
    · cases hk
  case slice t x lo hi mx =>
    simp only [trKd] at hk
    split at hk
    · cases hk
    · rename_i hmx
      have : mx = none := by simpa using hmx
      subst this
      split at hk
      · rename_i hu
        split at hk
        · rename_i hi; cases hk; exact .of (ex_slc hu hi ha he hns)
        · cases hk
      · rename_i hu; cases hk; exact .of (ex_sstr hu ha he)
      · rename_i n el hu
        split at hk
        · rename_i hi; cases hk; exact .of (ex_sarr hu hi.1 hi.2 ha he hns)
        · cases hk
      · cases hk
  case fieldAddr t x fi => exact .of (ex_fad hk ha hf he)
  case field t x fi => exact .of (ex_fld hk ha he)
  case indexAddr t x i => exact .of (ex_iad hf hk ha he)
  case index t x i => exact .of (ex_idx hk ha he)
  case extract x i => cases hk; exact .of (ex_ext ha he)
  case makeSlice t l c => exact .of (ex_mks hB hf hk ha he)
  case makeMap t r =>
    cases r <;> simp only [trKd] at hk
    · split at hk <;> cases hk
      exact .of (ex_mkmap hB hf he)
    · cases hk
  case lookup t x i ok =>
    simp only [trKd] at hk
    split at hk
    · rename_i hu
      split at hk
      · rename_i hku
        simp only [Option.map_eq_some_iff] at hk
        obtain ⟨z, hz, hk⟩ := hk
        cases hk
        exact .of (ex_look hu hku hz ha he)
      · cases hk
    · cases hk
  case mapUpdate t x i v =>
    simp only [trKd] at hk
    split at hk
    · split at hk
      · cases hk; cases he
      · cases hk
    · cases hk
  case call c =>
    obtain ⟨callee, args, argTypes⟩ := c
    cases callee with
    | value f =>
      cases f <;> simp only [trKd] at hk
      case func f => split at hk <;> cases hk; cases he
      all_goals (cases hk; cases he)
    | invoke r m => cases hk
    | builtin b =>
      cases b <;> simp only [trKd] at hk <;> first | (cases hk; done) | skip
      case append =>
        split at hk
        · split at hk
          · split at hk
            · split at hk
              · split at hk
                · split at hk
                  · cases hk; cases he
                  · cases hk
                · cases hk
              · cases hk
            · cases hk
          · cases hk
        · cases hk
      case delete =>
        split at hk
        · split at hk
          · split at hk
            · cases hk; cases he
            · cases hk
          · cases hk
        · cases hk
      case max =>
        split at hk
        · rename_i x y h1
          cases hk
          have e1 : args = #[x, y] := by rw [← Array.toArray_toList (xs := args), h1]
          subst e1
          have run1 : ∀ {c : Sem Value} {r : Sem Next}, r = (do pure (Next.value (← c))) → Good F m B d w e (c.run P w) → GoodN F m B d w e (r.run P w) := fun hr h => by rw [hr]; exact .of h
          have hres : ∀ ty, ((do let dd ← resolve a.eval { callee := Callee.builtin Builtin.max, args := #[x, y], argTypes := argTypes } ty; invoke dd.target dd.args) : Sem Next) = (do pure (Next.value (← Builtin.max_ argTypes ty #[a.eval x, a.eval y]))) := fun ty => by
            simp [resolve, invoke, builtin]
          rw [hres]
          exact .of (ex_max ha he)
        · cases hk
      case len =>
        split at hk
        · rename_i x t h1 h2
          have e1 : args = #[x] := by rw [← Array.toArray_toList (xs := args), h1]
          have e2 : argTypes = #[t] := by rw [← Array.toArray_toList (xs := argTypes), h2]
          subst e1; subst e2
          have run1 : ∀ {c : Sem Value} {r : Sem Next}, r = (do pure (Next.value (← c))) → Good F m B d w e (c.run P w) → GoodN F m B d w e (r.run P w) := fun hr h => by rw [hr]; exact .of h
          have hres : ∀ ty, ((do let dd ← resolve a.eval { callee := Callee.builtin Builtin.len, args := #[x], argTypes := #[t] } ty; invoke dd.target dd.args) : Sem Next) = (do pure (Next.value (← Builtin.len_ #[t] ty #[a.eval x]))) := fun ty => by
            simp [resolve, invoke, builtin]
          rw [hres]
          split at hk
          · rename_i hu; cases hk; exact .of (ex_len (c := 1) hu ha he)
          · rename_i el hu; cases hk; exact .of (ex_len (c := 0) ⟨el, hu⟩ ha he)
          · rename_i kt et hu; cases hk; exact .of (ex_len (c := 2) ⟨kt, et, hu⟩ ha he)
          · cases hk
        · cases hk
  all_goals (simp only [trKd] at hk; first | (cases hk; done) | skip)

end
end Go.Fw

set_option linter.unusedVariables false
set_option linter.unusedSimpArgs false
namespace Go.Fw
open Go.RowKit

section
variable {P : Program} {B nt : Nat} {w0 : World} {F0 : Fz} {s s' : St} {a : Act} {w : World} {F : Fz} {m : Mp}

theorem below_alloc (w : World) (o : Obj) : Below w.heap.size w (w.alloc o) := (Below.refl _ _).alloc (Nat.le_refl _) o
theorem FzIn.alloc (h : FzIn w F) (o : Obj) : FzIn (w.alloc o) F := fun b off y e => by
  have h1 := h b off y e
  rw [World.cell?_alloc_lt _ _ _ (World.block_lt_of_cell? w _ h1)]
  exact h1

theorem InvP.alloc (h : InvP B w0 F0 nt s a w F m) (o : Obj) : InvP B w0 F0 nt s a (w.alloc o) F m := h.world (below_alloc w o) (FzOn.refl _ _) (h.fin.alloc o)

theorem InvP.new (h : InvP B w0 F0 nt s a w F m) {d : Nat} {x : Own} {obj : Obj} {c : Nat} (hf : s.fresh d) (hdn : d ≠ LN) (ho : OwnOk F (w.alloc obj) B (some w.heap.size, c) x) :
    InvP B w0 F0 nt ⟨s.t, upd s.o d (some x)⟩ a (w.alloc obj) F (upd m d (some w.heap.size, c)) := by
  have h' := h.alloc obj
  refine ⟨h'.defers, h'.size, h'.below, h'.base, h'.on, h'.fin, fun k hk => (h'.tmps k hk).upd (hf k) _, fun n y hy => ?_, fun n n' b hn hn' hb hb' => ?_, fun n b hn hb => ?_, by rw [upd_ne _ _ (Ne.symm hdn)]; exact h.mfix, h.ntle⟩
  · by_cases e : n = d
    · subst e
      simp only [Fw.upd, if_true] at hy
      cases hy
      simpa [Fw.upd] using ho
    · simp only [Fw.upd, e, if_false] at hy ⊢
      exact h'.own n y hy
  · by_cases e : n = d <;> by_cases e' : n' = d
    · rw [e, e']
    · subst e
      simp only [Fw.upd, e', if_true, if_false] at hb hb' hn'
      cases hb
      obtain ⟨y, hy⟩ := Option.isSome_iff_exists.1 hn'
      have := ((h.own n' y hy).lt hb').2
      omega
    · subst e'
      simp only [Fw.upd, e, if_true, if_false] at hb hb' hn
      cases hb'
      obtain ⟨y, hy⟩ := Option.isSome_iff_exists.1 hn
      have := ((h.own n y hy).lt hb).2
      omega
    · simp only [Fw.upd, e, e', if_false] at hn hn' hb hb'
      exact h.inj n n' b hn hn' hb hb'
  · by_cases e : n = d
    · subst e
      simp only [Fw.upd, if_true] at hb
      cases hb
      exact .inr h.below.size
    · simp only [Fw.upd, e, if_false] at hn hb
      exact h.ownL n b hn hb

theorem putT_put {d : Option Nat} {t : Nat → T} {v : T} : (⟨putT t d v, s.o⟩ : St) = ⟨putT t d v, s.o⟩ := rfl

theorem good_inv {ns : List Nat} (h : InvP B w0 F0 nt ⟨s.t, frzO s.o ns⟩ a w F m) {dst : Option Nat} {e : Eff} (hns : e.frz = ns) (hd : dstOk nt dst = true) (hnew : e.new.isSome = true → ∃ d, dst = some d ∧ s.fresh d) {r : Result Next}
    (hg : GoodN F m B (dst.getD 0) w e r) {o : Oper} (ho : o.dst = dst) {K : Act → World → Prop} {Q : Exit → Act → World → Prop} (hK : ∀ a' w', Inv B w0 F0 nt (s.eff dst e) a' w' → K a' w') : o.upon P a K Q r := by
  obtain ⟨v, w', hr, h1⟩ := hg
  subst hr
  rw [Oper.upon_value, ho]
  apply hK
  rcases h1 with ⟨hn, rfl, hrep⟩ | ⟨x, obj, c, hn, rfl, hrep, hown⟩
  · refine ⟨F, m, ?_⟩
    have := h.put (d := dst) hrep hd
    simpa [St.eff, newO, hn, hns] using this
  · obtain ⟨d, rfl, hfr⟩ := hnew (by simp [hn])
    simp only [Option.getD_some] at hrep hown
    have hdl : d < nt := by simpa [dstOk] using hd
    have h2 := h.new (d := d) (x := x) (c := c) hfr (by have := h.ntle; omega) hown
    refine ⟨F, upd m d (some w.heap.size, c), ?_⟩
    have := h2.put (d := some d) hrep hd
    simpa [St.eff, newO, hn, hns] using this

theorem want_ok (h : InvP B w0 F0 nt s a w F m) {ops : Array Oper} {o : Oper} {g : Option (Nat × Bool)} (hg : trGuard ops nt o.guard = some g) {b : Bool} (hw : s.want g = some b) : Region.wanted o (yielded ops a.tmps) = b := by
  unfold trGuard at hg
  split at hg
  · rename_i e
    cases hg
    simp only [St.want] at hw
    cases hw
    simp [Region.wanted, e]
  · rename_i j want e
    simp only [Option.bind_eq_some_iff] at hg
    obtain ⟨t, ⟨oj, hj, hdst⟩, hg⟩ := hg
    split at hg
    · rename_i hlt
      cases hg
      simp only [St.want] at hw
      split at hw
      · rename_i v hc
        cases hw
        have h1 := h.tmps t hlt
        rw [hc] at h1
        have h2 := Rep.v_inv h1
        have h3 : a.tmps[t]? = some v := by
          rw [Array.getD_eq_getD_getElem?] at h2
          cases hh : a.tmps[t]? with
          | none => rw [Array.getElem?_eq_none_iff, h.size] at hh; exact absurd hlt (Nat.not_lt.2 hh)
          | some z => rw [hh] at h2; simpa using h2
        simp only [Region.wanted, e, yielded, hj, hdst, Option.bind_some, h3]
        cases v <;> rfl
      · cases hw
    · cases hg

theorem trOp_inv {ops : Array Oper} {o : Oper} {r : RG} (h : trOp P nt ops o = some r) : ∃ xs, trKd P o.op = some (r.k, xs) ∧ mapO (trOpd nt) xs = some r.a ∧ trGuard ops nt o.guard = some r.g ∧ o.dst = r.d ∧ dstOk nt r.d = true := by
  simp only [trOp, Option.bind_eq_some_iff] at h
  obtain ⟨⟨k, xs⟩, hk, as, has, g, hg, h⟩ := h
  split at h
  · rename_i hd
    cases h
    exact ⟨xs, hk, has, hg, rfl, hd⟩
  · cases h

theorem trKd_call {op : Op} {f : FuncId} {xs : List Operand} (h : trKd P op = some (.call f, xs)) : ∃ args ats, op = .call { callee := .value (.func f), args, argTypes := ats } ∧ xs = args.toList := by
  cases op
  case call c =>
    obtain ⟨callee, args, ats⟩ := c
    cases callee with
    | value fo =>
      cases fo <;> simp only [trKd] at h <;> first | (cases h; done) | skip
      split at h <;> cases h
      exact ⟨args, ats, rfl, rfl⟩
    | invoke _ _ => cases h
    | builtin b => cases b <;> simp only [trKd] at h <;> first | (cases h; done) | (repeat' (split at h)) <;> cases h
  all_goals (simp only [trKd] at h; (repeat' (split at h)) <;> simp_all [Option.bind_eq_some_iff, Option.map_eq_some_iff])
theorem trKd_callv {op : Op} {xs : List Operand} (h : trKd P op = some (.callv, xs)) : ∃ x args ats, op = .call { callee := .value x, args, argTypes := ats } ∧ xs = x :: args.toList := by
  cases op
  case call c =>
    obtain ⟨callee, args, ats⟩ := c
    cases callee with
    | value fo =>
      cases fo <;> simp only [trKd] at h
      case func => split at h <;> cases h
      all_goals (cases h; exact ⟨_, args, ats, rfl, rfl⟩)
    | invoke _ _ => cases h
    | builtin b => cases b <;> simp only [trKd] at h <;> first | (cases h; done) | (repeat' (split at h)) <;> cases h
  all_goals (simp only [trKd] at h; (repeat' (split at h)) <;> simp_all [Option.bind_eq_some_iff, Option.map_eq_some_iff])

def Does (P : Program) (ops : Array Oper) (o : Oper) (a : Act) (w : World) (Inv' : Act → World → Prop) : Prop :=
  ∀ (K : Act → World → Prop) (Q : Exit → Act → World → Prop), (∀ a' w', Inv' a' w' → K a' w') → if Region.wanted o (yielded ops a.tmps) = true then o.wp P a w K Q else K (a.put o.dst undef) w

theorem does_skip (h : Inv B w0 F0 nt s a w) {ops : Array Oper} {o : Oper} {r : RG} (ht : trOp P nt ops o = some r) (hw : s.want r.g = some false) : Does P ops o a w (Inv B w0 F0 nt ⟨putT s.t r.d (.p (.v undef)), s.o⟩) := by
  intro K Q hK
  obtain ⟨xs, _, _, hg, ho, hd⟩ := trOp_inv ht
  obtain ⟨F, m, h⟩ := h
  rw [want_ok h hg hw, if_neg (by simp), ho]
  exact hK _ _ ⟨F, m, h.put (Rep.v undef) hd⟩

theorem ret_call {f : FuncId} {ps : List PV} {r : PV} (hret : Ret P f ps r) {ys : List Value} (hfin : FzIn w F) (hrep : RepL F ps ys) (h : InvP B w0 F0 nt s a w F m) {dst : Option Nat} (hd : dstOk nt dst = true) {o : Oper} (ho : o.dst = dst) {K : Act → World → Prop} {Q : Exit → Act → World → Prop}
    (hK : ∀ a' w', Inv B w0 F0 nt ⟨putT s.t dst (.p r), s.o⟩ a' w' → K a' w') {x : Sem Next} (hx : x.run P w = (callFunc f ys.toArray).run P w) : o.upon P a K Q (x.run P w) := by
  rw [hx, hret.1, Oper.upon_enter]
  refine (hret.2 w F ys hfin hrep).mono fun e w' he => ?_
  obtain ⟨v, F', rfl, h1, h2, h3, h4⟩ := he
  have := (h.world h4 h3 h2).put (d := dst) (t := .p r) h1 hd
  exact hK _ _ ⟨F', m, by rw [ho]; exact this⟩

theorem does_plain (h : Inv B w0 F0 nt s a w) {ops : Array Oper} {o : Oper} {r : RG} (ht : trOp P nt ops o = some r) {as : List RA} {e : Eff} (hk : r.k.solo = false) (hw : s.want r.g = some true) (ha : s.resL r.a = some as)
    (he : SemA P r.k (r.d.getD 0) as e) (hn : e.new.isSome = true → ∃ d, r.d = some d ∧ s.fresh d) : Does P ops o a w (Inv B w0 F0 nt (s.eff r.d e)) := by
  intro K Q hK
  obtain ⟨xs, hkd, hxs, hg, ho, hd⟩ := trOp_inv ht
  obtain ⟨F, m, h⟩ := h
  rw [want_ok h hg hw, if_pos rfl]
  obtain ⟨F', h', hle, hfil⟩ := h.frz e.frz
  have hargs := h'.args hfil hxs ha
  have hB : B ≤ w.heap.size := h'.hB
  unfold Oper.wp
  have plain : sem r.k (r.d.getD 0) as = some e → o.upon P a K Q ((execOp a.eval o).run P w) := fun he => good_inv h' rfl hd hn (exec_good hkd hB h'.fin hargs he (fun n hn => hn)) ho hK
  have hcallK : ∀ rv, e.v = .p rv → e.new = none → ∀ a' w', Inv B w0 F0 nt ⟨putT s.t r.d (.p rv), frzO s.o e.frz⟩ a' w' → K a' w' := fun rv hv hn a' w' hi => hK a' w' (by simpa [St.eff, newO, hv, hn] using hi)
  cases hkk : r.k <;> rw [hkk] at he hk <;> first | (exact plain (by rw [hkk]; exact he)) | (simp [Kd.solo] at hk; done) | skip
  case call f =>
    obtain ⟨ps, rv, hps, hret, rfl⟩ := he
    have hrep := hargs.pvs (fun n hn => hn) hps
    rw [hkk] at hkd
    obtain ⟨⟨args⟩, ats, hop, rfl⟩ := trKd_call hkd
    refine ret_call hret h'.fin hrep h' hd ho (hcallK rv rfl rfl) ?_
    unfold execOp
    rw [hop]
    simp [resolve, invoke, Deferred.ofValue, Act.eval]
  case callv =>
    obtain ⟨f, caps, rest, ps, rv, rfl, hps, hret, rfl⟩ := he
    rw [hkk] at hkd
    obtain ⟨x, ⟨args⟩, ats, hop, rfl⟩ := trKd_callv hkd
    obtain ⟨h1, h2⟩ := hargs
    have hrep := h2.pvs (fun n hn => by simpa [frzs, RA.frz] using hn) hps
    obtain ⟨ys, hv, hcaps⟩ := Rep.clo_inv h1
    refine ret_call hret h'.fin (hrep.append hcaps) h' hd ho (hcallK rv rfl rfl) ?_
    unfold execOp
    rw [hop]
    simp [resolve, invoke, Deferred.ofValue, hv]
end
end Go.Fw

set_option linter.unusedVariables false
set_option linter.unusedSimpArgs false
namespace Go.Fw
open Go.RowKit

section
variable {P : Program} {B nt : Nat} {w0 : World} {F0 : Fz} {s s' : St} {a : Act} {w : World} {F : Fz} {m : Mp}

theorem trKd_store {op : Op} {sz : Nat} {xs : List Operand} (h : trKd P op = some (.store sz, xs)) : ∃ t x y, op = .store t x y ∧ xs = [x, y] ∧ sz = P.cellsOf t ∧ (P.info? t).isSome = true := by
  cases op
  case store t x y =>
    simp only [trKd] at h
    split at h
    · rename_i hi; cases h; exact ⟨t, x, y, rfl, rfl, rfl, hi⟩
    · cases h
  case call c =>
    obtain ⟨callee, args, ats⟩ := c
    cases callee with
    | value fo =>
      cases fo <;> simp only [trKd] at h
      case func => split at h <;> cases h
      all_goals (cases h)
    | invoke _ _ => cases h
    | builtin b => cases b <;> simp only [trKd] at h <;> first | (cases h; done) | (repeat' (split at h)) <;> cases h
  all_goals (simp only [trKd] at h; (repeat' (split at h)) <;> simp_all [Option.bind_eq_some_iff, Option.map_eq_some_iff])

theorem InvP.write (h : InvP B w0 F0 nt s a w F m) {n b : Nat} {x x' : Own} (hx : s.o n = some x) (hb : (m n).1 = some b) {w1 : World} (hos : w1.os = w.os) (htape : w1.tape = w.tape) (hout : w1.output = w.output) (hsz : w1.heap.size = w.heap.size)
    (hblk : ∀ k, k ≠ b → w1.heap[k]? = w.heap[k]?) (hf : FzIn w1 F) (ho : OwnOk F w1 B (m n) x') : InvP B w0 F0 nt ⟨s.t, upd s.o n (some x')⟩ a w1 F m := by
  have hlt := (h.own n x hx).lt hb
  refine ⟨h.defers, h.size, ⟨hos.trans h.below.os, htape.trans h.below.tape, hout.trans h.below.output, by rw [hsz]; exact h.below.size, fun k hk hne => (hblk k (fun e => by subst e; rcases h.ownL n k (by simp [hx]) hb with e | e <;> omega)).trans (h.below.block k hk hne)⟩, h.base, h.on, hf, h.tmps, fun k y hy => ?_, fun k k' b' hk hk' hb' hb'' => ?_, fun k b' hk hb' => h.ownL k b' (by by_cases e : k = n; subst e; simp [hx]; simpa [Fw.upd, e] using hk) hb', h.mfix, h.ntle⟩
  · by_cases e : k = n
    · subst e; simp only [Fw.upd, if_true] at hy; cases hy; exact ho
    · simp only [Fw.upd, e, if_false] at hy
      refine (h.own k y hy).keep (fun b' hb' => hblk b' fun e' => ?_) F.le_refl fun _ _ _ => rfl
      subst e'
      exact e (h.inj k n b' (by simp [hy]) (by simp [hx]) hb' hb)
  · refine h.inj k k' b' ?_ ?_ hb' hb''
    · by_cases e : k = n
      · subst e; simp [hx]
      · simpa [Fw.upd, e] using hk
    · by_cases e : k' = n
      · subst e; simp [hx]
      · simpa [Fw.upd, e] using hk'

theorem FzIn.setRow (h : FzIn w F) {b : Nat} (hb : noneF F b) (cs : Array Value) : FzIn (w.setRow b cs) F := fun b' o y e => by
  by_cases e' : b' = b
  · subst e'; rw [hb o] at e; cases e
  · have := h b' o y e
    rw [World.cell?_of_block (w := w) (setRow_other w b b' cs e')]
    exact this

theorem run_store {t : TypeId} (hi : (P.info? t).isSome = true) {b off : Nat} {v : Value} (hsz : v.cells.size = P.cellsOf t) {cur : Array Value} {ty : TypeId} (hg : w.heap[b]? = some (.cells cur ty (0, 0))) (hl : off + v.cells.size ≤ cur.size) (h1 : ∀ y ∈ v.cells.toList, y.oneCell' = true) :
    (Instr.storeAt t (.pointer (some ⟨b, off, none⟩)) v).run P w = .ok () (w.setRow b (splice cur.toList off v.cells.toList).toArray) := by
  have hst := run_storeCells_at P b off ty v.cells.toList 0 cur w hg (by simpa using hl) h1
  simp only [Nat.add_zero] at hst
  simp [Instr.storeAt, Instr.sureAddr, storeVar, run_size hi, hsz, hst, splice]

theorem opd2 {x y : Opd} {xo yo : Operand} (hxs : mapO (trOpd nt) [xo, yo] = some [x, y]) : trOpd nt xo = some x ∧ trOpd nt yo = some y := by
  simp only [mapO, Option.bind_eq_some_iff, Option.map_eq_some_iff] at hxs
  obtain ⟨a1, h1, l, ⟨a2, h2, l2, h3, rfl⟩, h4⟩ := hxs
  cases h3
  cases h4
  exact ⟨h1, h2⟩

theorem argPv {ns : List Nat} (h : InvP B w0 F0 nt ⟨s.t, frzO s.o ns⟩ a w F m) (hfil : ∀ n ∈ ns, ∀ x, s.o n = some x → Filled F (m n) x) {yo : Operand} {y : Opd} (hy : trOpd nt yo = some y) {ra : RA} (hres : s.res y = some ra) (hfr : ra.frz = ns) {p : PV} (hp : ra.pv = some p) : Rep F p (a.eval yo) := by
  have h1 := trOpd_rep (s := ⟨s.t, frzO s.o ns⟩) h hy
  have h2 : RepT F m (s.ev y) (a.eval yo) := by cases y <;> exact h1
  exact (h.arg hfil hres h2).pv (by rw [hfr]; exact fun _ h => h) hp

theorem does_storeBox (h : Inv B w0 F0 nt s a w) {ops : Array Oper} {o : Oper} {r : RG} (ht : trOp P nt ops o = some r) {sz : Nat} {x y : Opd} {n off : Nat} {cells cs : List PV} {ra : RA} {p : PV} (hk : r.k = .store sz) (hd : r.d = none) (hw : s.want r.g = some true) (ha : r.a = [x, y])
    (hx : s.ev x = .own n off) (ho : s.o n = some (.box cells false)) (hy : s.res y = some ra) (hp : ra.pv = some p) (hc : p.cells = some cs) (hl : cs.length = sz ∧ off + sz ≤ cells.length) (hn : n ∉ ra.frz) :
    Does P ops o a w (Inv B w0 F0 nt ⟨s.t, upd (frzO s.o ra.frz) n (some (.box (splice cells off cs) false))⟩) := by
  intro K Q hK
  obtain ⟨xs, hkd, hxs, hg, hdst, hdo⟩ := trOp_inv ht
  rw [hk] at hkd
  obtain ⟨t, xo, yo, hop, rfl, hsz, hi⟩ := trKd_store hkd
  rw [ha] at hxs
  obtain ⟨hxo, hyo⟩ := opd2 hxs
  obtain ⟨F, m, h⟩ := h
  rw [want_ok h hg hw, if_pos rfl]
  obtain ⟨F', h', hle, hfil⟩ := h.frz ra.frz
  have hrep := argPv h' hfil hyo hy rfl hp
  obtain ⟨hr1, hr2⟩ := hrep.cells hc
  have hxv : RepT F' m (s.ev x) (a.eval xo) := by have := trOpd_rep (s := ⟨s.t, frzO s.o ra.frz⟩) h' hxo; cases x <;> exact this
  rw [hx] at hxv
  obtain ⟨b, hb, hxe⟩ := hxv
  have hon : (frzO s.o ra.frz) n = some (.box cells false) := by simp [frzO, hn, ho]
  obtain ⟨b', cur, ty, g1, g2, g3, g4, g5, g6⟩ := h'.own n _ hon
  rw [hb] at g1; cases g1
  have hvs : (a.eval yo).cells.size = P.cellsOf t := by rw [← hsz, ← hl.1, ← hr1.1]; simp
  have hcl : cur.size = cells.length := by rw [← g4.1]; simp
  have hrun := run_store (w := w) hi (off := off) hvs g3 (by rw [hvs, ← hsz, hcl]; exact hl.2) hr2
  unfold Oper.wp execOp
  rw [hop]
  simp only [hxe, Sem.run_bind, hrun, Result.andThen_ok, Sem.run_pure, Oper.upon_skip, hdst, hd, Act.put]
  refine hK _ _ ⟨F', m, h'.write hon hb rfl rfl rfl (by simp) (fun k hk => setRow_other w b k _ hk) (h'.fin.setRow (g6 rfl) _) ?_⟩
  refine ⟨b, _, ty, hb, g2, setRow_heap w b cur _ ty _ g3, ?_, ?_, g6⟩
  · simpa using g4.splice off hr1
  · intro z hz
    simp only [splice, List.mem_append] at hz
    rcases hz with (hz | hz) | hz
    · exact g5 z (List.mem_of_mem_take hz)
    · exact hr2 z hz
    · exact g5 z (List.mem_of_mem_drop hz)

theorem splice_get {α : Type} (L : List α) (o : Nat) (l : List α) (hol : o + l.length ≤ L.length) (j : Nat) : (splice L o l)[j]? = if j < o then L[j]? else if j < o + l.length then l[j - o]? else L[j]? := by
  unfold splice
  by_cases h1 : j < o
  · rw [if_pos h1, List.append_assoc, List.getElem?_append_left (by simp; omega), List.getElem?_take, if_pos h1]
  · rw [if_neg h1]
    by_cases h2 : j < o + l.length
    · rw [if_pos h2, List.append_assoc, List.getElem?_append_right (by simp; omega), List.getElem?_append_left (by simp; omega)]
      congr 1; simp; omega
    · rw [if_neg h2, List.getElem?_append_right (by simp; omega), List.getElem?_drop]
      congr 1; simp; omega
theorem splice_take {α : Type} (L : List α) (o : Nat) (l : List α) (n : Nat) (hn : n ≤ L.length) (hol : o + l.length ≤ n) : splice (L.take n) o l = (splice L o l).take n := by
  apply List.ext_getElem?
  intro j
  rw [splice_get _ _ _ (by simp; omega), List.getElem?_take, List.getElem?_take, splice_get _ _ _ (by omega)]
  by_cases h1 : j < n
  · rw [if_pos h1, if_pos h1]
  · rw [if_neg h1, if_neg h1]
    have e1 : ¬ j < o := by omega
    have e2 : ¬ j < o + l.length := by omega
    rw [if_neg e1, if_neg e2]

theorem splice_flatten' {α : Type} {es : Nat} {xs : List (List α)} (h : ∀ x ∈ xs, x.length = es) {i : Nat} {c : List α} (hc : xs[i]? = some c) {off : Nat} {cs : List α} (hl : off + cs.length ≤ es) :
    splice xs.flatten (i * es + off) cs = (xs.set i (splice c off cs)).flatten := by
  have hi : i < xs.length := (List.getElem?_eq_some_iff.1 hc).1
  have hce : c.length = es := h c (List.mem_of_getElem? hc)
  have hsl : (splice c off cs).length = es := by rw [splice_length _ _ _ (by omega), hce]
  rw [← splice_flatten h hi hsl]
  have hlen := flatten_length h
  have hle : (i + 1) * es ≤ xs.length * es := Nat.mul_le_mul_right _ hi
  rw [Nat.succ_mul] at hle
  apply List.ext_getElem?
  intro j
  have hget : ∀ q, q < es → xs.flatten[i * es + q]? = c[q]? := fun q hq => by rw [flatten_get h i q hq, hc]; rfl
  rw [splice_get _ _ _ (by omega), splice_get _ _ _ (by omega), hsl]
  by_cases h1 : j < i * es
  · rw [if_pos (by omega), if_pos h1]
  · rw [if_neg h1]
    by_cases h2 : j < i * es + es
    · rw [if_pos h2, splice_get _ _ _ (by omega)]
      have hq := hget (j - i * es) (by omega)
      rw [show i * es + (j - i * es) = j by omega] at hq
      by_cases h3 : j < i * es + off
      · have e1 : j - i * es < off := by omega
        rw [if_pos h3, if_pos e1, hq]
      · have e1 : ¬ j - i * es < off := by omega
        rw [if_neg h3, if_neg e1]
        by_cases h4 : j < i * es + off + cs.length
        · have e2 : j - i * es < off + cs.length := by omega
          rw [if_pos h4, if_pos e2]; congr 1; omega
        · have e2 : ¬ j - i * es < off + cs.length := by omega
          rw [if_neg h4, if_neg e2, hq]
    · have e1 : ¬ j < i * es + off := by omega
      have e2 : ¬ j < i * es + off + cs.length := by omega
      rw [if_neg h2, if_neg e1, if_neg e2]

theorem does_storeRow (h : Inv B w0 F0 nt s a w) {ops : Array Oper} {o : Oper} {r : RG} (ht : trOp P nt ops o = some r) {sz : Nat} {x y : Opd} {n es i off ty : Nat} {xs : List (List PV)} {c cs : List PV} {ra : RA} {p : PV} (hk : r.k = .store sz) (hd : r.d = none) (hw : s.want r.g = some true) (ha : r.a = [x, y])
    (hx : s.ev x = .rp n es i off) (ho : s.o n = some (.row ty es xs false)) (hi : xs[i]? = some c) (hy : s.res y = some ra) (hp : ra.pv = some p) (hc : p.cells = some cs) (hl : cs.length = sz ∧ off + sz ≤ es) (hn : n ∉ ra.frz) :
    Does P ops o a w (Inv B w0 F0 nt ⟨s.t, upd (frzO s.o ra.frz) n (some (.row ty es (xs.set i (splice c off cs)) false))⟩) := by
  intro K Q hK
  obtain ⟨xs', hkd, hxs, hg, hdst, hdo⟩ := trOp_inv ht
  rw [hk] at hkd
  obtain ⟨t, xo, yo, hop, rfl, hsz, hinf⟩ := trKd_store hkd
  rw [ha] at hxs
  obtain ⟨hxo, hyo⟩ := opd2 hxs
  obtain ⟨F, m, h⟩ := h
  rw [want_ok h hg hw, if_pos rfl]
  obtain ⟨F', h', hle, hfil⟩ := h.frz ra.frz
  have hrep := argPv h' hfil hyo hy rfl hp
  obtain ⟨hr1, hr2⟩ := hrep.cells hc
  have hxv : RepT F' m (s.ev x) (a.eval xo) := by have := trOpd_rep (s := ⟨s.t, frzO s.o ra.frz⟩) h' hxo; cases x <;> exact this
  rw [hx] at hxv
  obtain ⟨b, hb, hxe⟩ := hxv
  have hon : (frzO s.o ra.frz) n = some (.row ty es xs false) := by simp [frzO, hn, ho]
  obtain ⟨g1, ys, g2, g3, g4, g5, g6⟩ := h'.own n _ hon
  have hil : i < xs.length := (List.getElem?_eq_some_iff.1 hi).1
  have hce : c.length = es := g1 c (List.mem_of_getElem? hi)
  have hrv : rowVal (m n) xs.length = .slice (some ⟨b, 0, none⟩) xs.length (m n).2 := by simp [rowVal, hb]
  obtain ⟨q1, q2⟩ := g2
  rw [hrv] at q2
  rcases q2 with ⟨e, _⟩ | ⟨g, cap, cur, e, hBg, hgg, hnc, hcm, hcs, htake⟩
  · cases e
  · simp only [Value.slice.injEq, Option.some.injEq, Addr.mk.injEq] at e
    obtain ⟨⟨rfl, _⟩, _, hcap⟩ := e
    have hvs : (a.eval yo).cells.size = P.cellsOf t := by rw [← hsz, ← hl.1, ← hr1.1]; simp
    have hle1 : (i + 1) * es ≤ xs.length * es := Nat.mul_le_mul_right _ hil
    rw [Nat.succ_mul] at hle1
    have hle2 : xs.length * es ≤ cap * es := Nat.mul_le_mul_right _ hnc
    have hrun := run_store (w := w) hinf (off := i * es + off) hvs hgg (by rw [hvs, ← hsz]; omega) hr2
    unfold Oper.wp execOp
    rw [hop]
    simp only [hxe, Sem.run_bind, hrun, Result.andThen_ok, Sem.run_pure, Oper.upon_skip, hdst, hd, Act.put]
    refine hK _ _ ⟨F', m, h'.write hon hb rfl rfl rfl (by simp) (fun k hk => setRow_other w b k _ hk) (h'.fin.setRow ((g6 b hb).2 rfl) _) ?_⟩
    have hcl : (a.eval yo).cells.toList.length = cs.length := hr1.1
    have hsl : (splice c off cs).length = es := by rw [splice_length _ _ _ (by omega), hce]
    have hnew : splice ys (i * es + off) (a.eval yo).cells.toList = (splice cur.toList (i * es + off) (a.eval yo).cells.toList).take (xs.length * es) := by
      rw [← htake]
      exact splice_take _ _ _ _ (by simp; omega) (by omega)
    refine ⟨fun z hz => ?_, splice ys (i * es + off) (a.eval yo).cells.toList, ⟨?_, .inr ⟨b, cap, _, ?_, hBg, setRow_heap w b cur _ ty _ hgg, by simpa using hnc, hcm, ?_, ?_⟩⟩, ?_, ?_, ?_, ?_⟩
    · rcases List.mem_or_eq_of_mem_set hz with hz | rfl
      · exact g1 z hz
      · exact hsl
    · rw [splice_length _ _ _ (by rw [q1]; omega), q1]; simp
    · simp [rowVal, hb, hcap]
    · simp only [List.size_toArray]; rw [splice_length _ _ _ (by simp; omega)]; simpa using hcs
    · simp only [List.length_set]; rw [hnew]
    · rw [← splice_flatten' g1 hi (by omega)]; exact g3.splice _ hr1
    · intro z hz
      simp only [splice, List.mem_append] at hz
      rcases hz with (hz | hz) | hz
      · exact g4 z (List.mem_of_mem_take hz)
      · exact hr2 z hz
      · exact g4 z (List.mem_of_mem_drop hz)
    · intro e; rw [hb] at e; cases e
    · intro b' hb'
      obtain ⟨k1, k2⟩ := g6 b' hb'
      exact ⟨fun o y e => by simpa using k1 o y e, k2⟩
end
end Go.Fw

set_option linter.unusedVariables false
set_option linter.unusedSimpArgs false
namespace Go.Fw
open Go.RowKit

section
variable {P : Program} {B nt : Nat} {w0 : World} {F0 : Fz} {s s' : St} {a : Act} {w : World} {F : Fz} {m : Mp}

theorem trKd_app {op : Op} {ty es bytes : Nat} {xs : List Operand} (h : trKd P op = some (.app ty es bytes, xs)) : ∃ t x y i z, op = .call { callee := .builtin .append, args := #[x, y], argTypes := #[t, t] } ∧ xs = [x, y] ∧ P.underlying t = some (.slice ty) ∧ P.info? ty = some i ∧ i.zero = some z ∧ z.cells.size = i.size ∧ i.size = es ∧ i.bytes = bytes ∧ 0 < es ∧ 0 < bytes := by
  cases op
  case call c =>
    obtain ⟨callee, ⟨args⟩, ⟨ats⟩⟩ := c
    cases callee with
    | value fo =>
      cases fo <;> simp only [trKd] at h
      case func => split at h <;> cases h
      all_goals (cases h)
    | invoke _ _ => cases h
    | builtin b =>
      cases b
      case append =>
        simp only [trKd] at h
        split at h
        · rename_i x y t t'
          split at h
          · rename_i e; subst e
            split at h
            · rename_i e hu
              split at h
              · rename_i i hi
                split at h
                · rename_i z hz
                  split at h
                  · rename_i hh
                    cases h
                    exact ⟨t, x, y, i, z, rfl, rfl, hu, hi, hz, hh.1, rfl, rfl, hh.2.1, hh.2.2⟩
                  · cases h
                · cases h
              · cases h
            · cases h
          · cases h
        · cases h
      all_goals (simp only [trKd] at h; first | (cases h; done) | (repeat' (split at h)) <;> cases h)
  all_goals (simp only [trKd] at h; (repeat' (split at h)) <;> simp_all [Option.bind_eq_some_iff, Option.map_eq_some_iff])

theorem rep_sl {F : Fz} {zs sp : List (List PV)} {u : Value} (h : Rep F (.sl zs sp) u) {es : Nat} (he : ∀ z ∈ zs, z.length = es) (hfin : FzIn w F) :
    ∃ o cap news, u = .slice o zs.length cap ∧ RepL F zs.flatten news ∧ (∀ y ∈ news, y.oneCell' = true) ∧ news.length = zs.length * es ∧ cap ≤ maxLen ∧ zs.length ≤ cap ∧ (zs ≠ [] → ∃ ad, o = some ad ∧ ∀ j y, news[j]? = some y → w.cell? (ad.add j) = some y) := by
  cases h with
  | sl xs sp es' b off cap o ys hw hcap hm ho hl h1 hF hr =>
    refine ⟨o, cap, ys.take (zs.length * es), rfl, ⟨?_, ?_⟩, fun y hy => h1 y (List.mem_of_mem_take hy), ?_, hm, by simp at hcap; omega, fun hne => ?_⟩
    · have h2 := flatten_length he
      simp only [List.length_take, h2]
      have : zs.length * es ≤ ys.length := by rw [hl, List.flatten_append, List.length_append, h2]; omega
      omega
    · intro j p y hp hy
      have h2 := flatten_length he
      have hj : j < zs.flatten.length := (List.getElem?_eq_some_iff.1 hp).1
      rw [List.getElem?_take, if_pos (by omega)] at hy
      exact hr j p y (by rw [List.flatten_append, List.getElem?_append_left hj]; exact hp) hy
    · have h2 := flatten_length he
      have : zs.length * es ≤ ys.length := by rw [hl, List.flatten_append, List.length_append, h2]; omega
      simp only [List.length_take]; omega
    · refine ⟨_, ho (by simp [hne]), fun j y hy => ?_⟩
      rw [List.getElem?_take] at hy
      split at hy
      · have := hfin _ _ _ (hF j y hy)
        have e : (⟨b, off, none⟩ : Addr).add j = ⟨b, off + j, none⟩ := by cases j <;> simp [Addr.add]
        rw [e]; exact this
      · cases hy

theorem run_app {t ty : TypeId} {e : TypeId} {i : TypeInfo} {z : Value} (ht : P.underlying t = some (.slice e)) (hi : P.info? e = some i) (hz : i.zero = some z) (hzs : z.cells.size = i.size) (hsz : 0 < i.size) (hby : 0 < i.bytes)
    {v : Value} {n : Nat} {xs : List Value} (hown : w.ownsRow B e i.size v n xs) {u : Value} {zs sp : List (List PV)} (hu : Rep F (.sl zs sp) u) (he : ∀ z ∈ zs, z.length = i.size) (hfin : FzIn w F) (hbase : B ≤ w.heap.size)
    (hbytes : (n + zs.length) * i.bytes ≤ 140737488355328) :
    ∃ v' w' news, (Builtin.append_ #[t, t] ty #[v, u]).run P w = .ok v' w' ∧ RepL F zs.flatten news ∧ (∀ y ∈ news, y.oneCell' = true) ∧ w'.ownsRow B e i.size v' (n + zs.length) (xs ++ news) ∧ w.grownBy w' v.ownBlock ∧
      (v'.ownBlock = none → n + zs.length = 0) ∧ (v'.ownBlock = v.ownBlock ∧ (∀ g, v.ownBlock = some g → ∀ j, j < n * i.size → w'.cell? ⟨g, j, none⟩ = w.cell? ⟨g, j, none⟩) ∨ v'.ownBlock = some w.heap.size ∧ w.heap.size < w'.heap.size ∧ ∀ k, k < w.heap.size → w'.heap[k]? = w.heap[k]?) := by
  obtain ⟨o, c, news, rfl, hrep, h1, hl, hcm', hcap', hnews⟩ := rep_sl hu he hfin
  have hle : n + zs.length ≤ 140737488355328 := by
    have : (n + zs.length) * 1 ≤ (n + zs.length) * i.bytes := Nat.mul_le_mul_left _ hby
    omega
  have hml : (140737488355328 : Nat) ≤ maxLen := by simp [maxLen]
  have hlen : (xs ++ news).length = (n + zs.length) * i.size := by rw [List.length_append, hown.1, hl, Nat.add_mul]
  by_cases hzn : zs = []
  · subst hzn
    have hn : news = [] := List.eq_nil_of_length_eq_zero (by simpa using hl)
    subst hn
    refine ⟨v, w, [], ?_, hrep, h1, by simpa using hown, ⟨rfl, rfl, rfl, Nat.le_refl _, fun _ _ _ => rfl⟩, ?_, .inl ⟨rfl, fun _ _ _ _ => rfl⟩⟩
    · rcases hown.2 with ⟨rfl, rfl⟩ | ⟨g, cap, cur, rfl, hbg, hg, hnc, hcm, hcs, htake⟩
      · cases o <;> simp [Builtin.append_, run_underlying ht, sizeOf, typeInfo, hi, Builtin.lenOf, Builtin.firstCells, loadCells, loadCellsFrom]
      · cases o <;> simp [Builtin.append_, run_underlying ht, sizeOf, typeInfo, hi, Builtin.lenOf, Builtin.firstCells, hnc, storeCells, loadCells, loadCellsFrom]
    · rcases hown.2 with ⟨rfl, rfl⟩ | ⟨g, cap, cur, rfl, hbg, hg, hnc, hcm, hcs, htake⟩
      · simp
      · simp [Value.ownBlock]
  · obtain ⟨ad, rfl, hnews'⟩ := hnews hzn
    clear hnews
    have hnews := hnews'
    clear hnews'
    have hpos : 0 < zs.length := List.length_pos_iff.2 hzn
    have grown : ∀ (old : Nat), old < n + zs.length →
        (w.drew.alloc (.cells (xs.toArray ++ news.toArray ++ Builtin.zeroCells z.cells (grownCap w (n + zs.length) old e - (n + zs.length))) e)).ownsRow B e i.size
          (.slice (some ⟨w.heap.size, 0, none⟩) (n + zs.length) (grownCap w (n + zs.length) old e)) (n + zs.length) (xs ++ news) := by
      intro old ho
      refine ⟨hlen, .inr ⟨w.heap.size, _, _, rfl, hbase, heap_alloc_new w.drew _, grownCap_ge w _ old e, grownCap_le_maxLen w _ old e (by omega), ?_, ?_⟩⟩
      · have hge := grownCap_ge w (n + zs.length) old e
        simp only [Array.size_append, List.size_toArray, size_zeroCells, hzs, hown.1, hl, ← Nat.add_mul]
        congr 1
        omega
      · simp only [Array.toList_append, List.append_assoc]
        rw [← List.append_assoc, ← hlen]
        exact List.take_left
    have after : ∀ c', (∀ k, k < w.heap.size → (w.drew.alloc c').heap[k]? = w.heap[k]?) := fun c' k hk => heap_alloc_old w.drew c' hk
    rcases hown.2 with ⟨rfl, rfl⟩ | ⟨g, cap, cur, rfl, hbg, hg, hnc, hcm, hcs, htake⟩
    · have hx : xs = [] := List.eq_nil_of_length_eq_zero (by simpa using hown.1)
      subst hx
      have hfit := growslice_fits (need := 0 + zs.length) (old := 0) (bytes := i.bytes) (by omega) hbytes
      have hr := run_append_nil (P := P) w t ty e i z ht hi hz ad zs.length c news hl hnews (by omega) (by omega) (by have hb := hbytes; simp only [Nat.zero_add] at hb; omega)
      have hgr := grown 0 (by omega)
      simp only [Nat.zero_add, List.nil_append, Array.empty_append] at hgr ⊢
      exact ⟨_, _, news, hr, hrep, h1, hgr, ⟨rfl, rfl, rfl, by simp, fun k hk _ => after _ k hk⟩, by simp [Value.ownBlock], .inr ⟨rfl, by simp, after _⟩⟩
    · by_cases hroom : n + zs.length ≤ cap
      · have hfit : n * i.size + news.length ≤ cur.size := by rw [hl, hcs, ← Nat.add_mul]; exact Nat.mul_le_mul_right _ hroom
        have hr := run_append_room (P := P) w t ty e i ht hi g n cap cur hg ad zs.length c news hl hnews h1 hroom hfit
        refine ⟨_, _, news, hr, hrep, h1, ⟨hlen, .inr ⟨g, cap, _, rfl, hbg, setRow_heap w g cur _ e _ hg, hroom, hcm, ?_, ?_⟩⟩, ⟨rfl, rfl, rfl, by simp, fun k _ hk => setRow_other w g k _ (fun e => hk (by simp [Value.ownBlock, e]))⟩, by simp [Value.ownBlock], .inl ⟨rfl, fun g' hg' j hj => ?_⟩⟩
        · simp only [List.size_toArray, List.length_append, List.length_take, List.length_drop, Array.length_toList]
          omega
        · rw [htake, ← hlen]
          exact List.take_left
        · simp only [Value.ownBlock, Option.some.injEq] at hg'
          subst hg'
          rw [cell_of_row _ g j _ e (0, 0) (setRow_heap w g cur _ e _ hg), cell_of_row w g j cur e (0, 0) hg]
          have h2 : j < xs.length := by rw [hown.1]; exact hj
          have h3 : xs[j]? = cur[j]? := by rw [← htake, List.getElem?_take, if_pos hj]; simp
          rw [← h3]
          simp only [List.getElem?_toArray, htake, List.append_assoc]
          rw [List.getElem?_append_left h2]
      · have holds : ∀ j u, xs[j]? = some u → w.cell? ((⟨g, 0, none⟩ : Addr).add j) = some u := hown.cells (g := g) rfl
        have hr := run_append_grow (P := P) w t ty e i z ht hi hz ⟨g, 0, none⟩ n cap xs hown.1 holds ad zs.length c news hl hnews (by omega) (by omega) (growslice_fits (by omega) hbytes)
        exact ⟨_, _, news, hr, hrep, h1, grown cap (by omega), ⟨rfl, rfl, rfl, by simp, fun k hk _ => after _ k hk⟩, by simp [Value.ownBlock], .inr ⟨rfl, by simp, after _⟩⟩

def capOf : Value → Nat
  | .slice _ _ c => c
  | _ => 0
theorem ownBlock_none {n es ty : Nat} {v : Value} {xs : List Value} (h : w.ownsRow B ty es v n xs) : v = rowVal (v.ownBlock, capOf v) n := by
  rcases h.2 with ⟨rfl, rfl⟩ | ⟨g, cap, cur, rfl, _⟩ <;> simp [rowVal, Value.ownBlock, capOf]

theorem InvP.grow (h : InvP B w0 F0 nt s a w F m) {row : Option Nat} {w1 : World} (hg : w.grownBy w1 row) (hrow : ∀ k, row = some k → k = B ∨ w0.heap.size ≤ k) {t' : Nat → T} (ht' : ∀ k, t' k = s.t k ∨ t' k = .p .any) {o' : Nat → Option Own}
    (ho' : ∀ k x, o' k = some x → s.o k = some x ∧ ∀ b, (m k).1 = some b → row ≠ some b) (hfin : FzIn w1 F) {d : Nat} (hdn : d < nt) (hd : ∀ k, (t' k).name ≠ some d) {mo : Option Nat} {c : Nat} (hmo : ∀ b, mo = some b → row = some b ∨ w.heap.size ≤ b) {x : Own} (hx : OwnOk F w1 B (mo, c) x) :
    InvP B w0 F0 nt ⟨t', upd o' d (some x)⟩ a w1 F (upd m d (mo, c)) := by
  have hB : B ≤ w.heap.size := h.hB
  have hb1 : BelowX B w0 w1 := ⟨hg.os.trans h.below.os, hg.tape.trans h.below.tape, hg.output.trans h.below.output, Nat.le_trans h.below.size hg.size, fun k hk hne => (hg.block k (Nat.lt_of_lt_of_le hk h.below.size) fun e => by rcases hrow k e.symm with e' | e' <;> omega).trans (h.below.block k hk hne)⟩
  refine ⟨h.defers, h.size, hb1, h.base, h.on, hfin, fun k hk => ?_, fun n y hy => ?_, fun n n' b hn hn' hb hb' => ?_, fun n b hn hb => ?_, by rw [upd_ne _ _ (by have := h.ntle; omega)]; exact h.mfix, h.ntle⟩
  · rcases ht' k with e | e
    · exact RepT.upd (by simp only [e]; exact h.tmps k hk) (hd k) _
    · simp only [e]; exact Rep.any _
  · by_cases e : n = d
    · subst e
      simp only [Fw.upd, if_true] at hy
      cases hy
      simpa [Fw.upd] using hx
    · simp only [Fw.upd, e, if_false] at hy ⊢
      obtain ⟨h1, h2⟩ := ho' n y hy
      exact (h.own n y h1).keep (fun b hb => hg.block b ((h.own n y h1).lt hb).2 (fun e => h2 b hb e.symm)) F.le_refl fun _ _ _ => rfl
  · have old : ∀ q b, q ≠ d → (upd o' d (some x) q).isSome = true → (upd m d (mo, c) q).1 = some b → (s.o q).isSome = true ∧ (m q).1 = some b ∧ row ≠ some b ∧ b < w.heap.size := fun q b e h1 h2 => by
      simp only [Fw.upd, e, if_false] at h1 h2
      obtain ⟨y, hy⟩ := Option.isSome_iff_exists.1 h1
      obtain ⟨k1, k2⟩ := ho' q y hy
      exact ⟨by simp [k1], h2, k2 b h2, ((h.own q y k1).lt h2).2⟩
    by_cases e : n = d <;> by_cases e' : n' = d
    · rw [e, e']
    · obtain ⟨_, _, k3, k4⟩ := old n' b e' hn' hb'
      subst e
      simp only [Fw.upd, if_true] at hb
      rcases hmo b hb with k | k
      · exact absurd k k3
      · omega
    · obtain ⟨_, _, k3, k4⟩ := old n b e hn hb
      subst e'
      simp only [Fw.upd, if_true] at hb'
      rcases hmo b hb' with k | k
      · exact absurd k k3
      · omega
    · obtain ⟨k1, k2, _, _⟩ := old n b e hn hb
      obtain ⟨l1, l2, _, _⟩ := old n' b e' hn' hb'
      exact h.inj n n' b k1 l1 k2 l2
  · by_cases e : n = d
    · subst e
      simp only [Fw.upd, if_true] at hb
      rcases hmo b hb with k | k
      · exact hrow b k
      · exact .inr (Nat.le_trans h.below.size k)
    · simp only [Fw.upd, e, if_false] at hn hb
      obtain ⟨y, hy⟩ := Option.isSome_iff_exists.1 hn
      exact h.ownL n b (by simp [(ho' n y hy).1]) hb

theorem FzIn.noneF (h : FzIn w F) {b : Nat} (hb : w.heap.size ≤ b) : noneF F b := fun o => by
  cases e : F b o with
  | none => rfl
  | some y => have := World.block_lt_of_cell? w _ (h b o y e); simp only at this; omega

theorem FzIn.blocks (h : FzIn w F) {w1 : World} (hb : ∀ k, k < w.heap.size → w1.heap[k]? = w.heap[k]?) : FzIn w1 F := fun b o y e => by
  have h1 := h b o y e
  exact (World.cell?_of_block (hb b (World.block_lt_of_cell? w _ h1))).trans h1

theorem does_appNil (h : Inv B w0 F0 nt s a w) {ops : Array Oper} {o : Oper} {r : RG} (ht : trOp P nt ops o = some r) {ty es bytes d : Nat} {x y : Opd} {ra : RA} {ys sp : List (List PV)} (hk : r.k = .app ty es bytes) (hd : r.d = some d) (hw : s.want r.g = some true) (ha : r.a = [x, y])
      (hx : s.ev x = .nil) (hy : s.res y = some ra) (hp : ra.pv = some (.sl ys sp)) (he : ∀ z ∈ ys, z.length = es) (hl : ys.length * bytes ≤ 140737488355328) (hf : s.fresh d) :
      Does P ops o a w (Inv B w0 F0 nt ⟨upd s.t d (.row d ys.length), upd (frzO s.o ra.frz) d (some (.row ty es ys false))⟩) := by
  intro K Q hK
  obtain ⟨xs, hkd, hxs, hg, hdst, hdo⟩ := trOp_inv ht
  rw [hk] at hkd
  obtain ⟨t, xo, yo, i, z, hop, rfl, hu, hi, hz, hzs, rfl, rfl, hsz, hby⟩ := trKd_app hkd
  rw [ha] at hxs
  obtain ⟨hxo, hyo⟩ := opd2 hxs
  obtain ⟨F, m, h⟩ := h
  rw [want_ok h hg hw, if_pos rfl]
  obtain ⟨F', h', hle, hfil⟩ := h.frz ra.frz
  have hrep := argPv h' hfil hyo hy rfl hp
  have hxv : RepT F' m (s.ev x) (a.eval xo) := by have := trOpd_rep (s := ⟨s.t, frzO s.o ra.frz⟩) h' hxo; cases x <;> exact this
  rw [hx] at hxv
  have hB : B ≤ w.heap.size := h'.hB
  obtain ⟨v', w1, news, hr, q1, q2, q3, q4, q5, q6⟩ := run_app (ty := o.type) hu hi hz hzs hsz hby (World.ownsRow_nil w B ty i.size) hrep he h'.fin hB (by simpa using hl)
  simp only [Nat.zero_add, List.nil_append] at q3 q5
  unfold Oper.wp execOp
  have hx0 : a.eval xo = .slice none 0 0 := hxv
  simp only [hop, resolve, invoke, builtin, Sem.run_bind, Sem.run_pure, Result.andThen_ok, List.map_toArray, List.map_cons, List.map_nil, hx0, hr, Oper.upon_value, hdst, hd]
  have hv := ownBlock_none q3
  have hblk : ∀ b, v'.ownBlock = some b → w.heap.size ≤ b := fun b hb => by
    rcases q6 with ⟨e, _⟩ | ⟨e, _⟩
    · rw [e] at hb; simp [Value.ownBlock] at hb
    · rw [e] at hb; cases hb; exact Nat.le_refl _
  have hfin : FzIn w1 F' := h'.fin.blocks fun k hk => q4.block k hk (by simp [Value.ownBlock])
  have hown : OwnOk F' w1 B (v'.ownBlock, capOf v') (.row ty i.size ys false) := by
    refine ⟨he, news, by rw [← hv]; exact q3, q1, q2, fun e => List.eq_nil_of_length_eq_zero (by simpa using q5 e), fun b hb => ?_⟩
    have hn := h'.fin.noneF (hblk b hb)
    exact ⟨fun o y e => (by have := hn o; rw [this] at e; cases e), fun _ => hn⟩
  have hh := h'.grow (t' := s.t) (o' := frzO s.o ra.frz) (d := d) q4 (by simp [Value.ownBlock]) (fun k => .inl rfl) (fun k x hx => ⟨hx, fun b _ => by simp [Value.ownBlock]⟩) hfin (by rw [hd] at hdo; simpa [dstOk] using hdo) hf (fun b hb => .inr (hblk b hb)) hown
  refine hK _ _ ⟨F', _, hh.put (d := some d) (t := .row d ys.length) ?_ (by rw [← hd]; exact hdo)⟩
  refine ⟨?_, ?_⟩
  · simp only [upd_same]; exact hv
  · simp only [upd_same]; exact fun e => q5 e

theorem does_appRow (h : Inv B w0 F0 nt s a w) {ops : Array Oper} {o : Oper} {r : RG} (ht : trOp P nt ops o = some r) {ty es bytes d n : Nat} {x y : Opd} {ra : RA} {xs ys sp : List (List PV)} {fz : Bool} (hk : r.k = .app ty es bytes) (hd : r.d = some d) (hw : s.want r.g = some true) (ha : r.a = [x, y])
      (hx : s.ev x = .row n xs.length) (ho : s.o n = some (.row ty es xs fz)) (hy : s.res y = some ra) (hp : ra.pv = some (.sl ys sp)) (he : ∀ z ∈ ys, z.length = es) (hl : (xs.length + ys.length) * bytes ≤ 140737488355328)
      (hn : n ∉ ra.frz) (hf : d ≠ n → s.fresh d) :
      Does P ops o a w (Inv B w0 F0 nt ⟨upd (killT s.t n) d (.row d (xs.length + ys.length)), upd (upd (frzO s.o ra.frz) n none) d (some (.row ty es (xs ++ ys) fz))⟩) := by
  intro K Q hK
  obtain ⟨xs', hkd, hxs, hg, hdst, hdo⟩ := trOp_inv ht
  rw [hk] at hkd
  obtain ⟨t, xo, yo, i, z, hop, rfl, hu, hi, hz, hzs, rfl, rfl, hsz, hby⟩ := trKd_app hkd
  rw [ha] at hxs
  obtain ⟨hxo, hyo⟩ := opd2 hxs
  obtain ⟨F, m, h⟩ := h
  rw [want_ok h hg hw, if_pos rfl]
  obtain ⟨F', h', hle, hfil⟩ := h.frz ra.frz
  have hrep := argPv h' hfil hyo hy rfl hp
  have hxv : RepT F' m (s.ev x) (a.eval xo) := by have := trOpd_rep (s := ⟨s.t, frzO s.o ra.frz⟩) h' hxo; cases x <;> exact this
  rw [hx] at hxv
  have hB : B ≤ w.heap.size := h'.hB
  have hon : (frzO s.o ra.frz) n = some (.row ty i.size xs fz) := by simp [frzO, hn, ho]
  have hok := h'.own n _ hon
  have hlt : ∀ b, (m n).1 = some b → b = B ∨ w0.heap.size ≤ b := fun b hb => h'.ownL n b (by simp [hon]) hb
  obtain ⟨g1, ys0, g2, g3, g4, g5, g6⟩ := hok
  obtain ⟨v', w1, news, hr, q1, q2, q3, q4, q5, q6⟩ := run_app (ty := o.type) hu hi hz hzs hsz hby g2 hrep he h'.fin hB hl
  unfold Oper.wp execOp
  have hx0 : a.eval xo = rowVal (m n) xs.length := hxv.1
  simp only [hop, resolve, invoke, builtin, Sem.run_bind, Sem.run_pure, Result.andThen_ok, List.map_toArray, List.map_cons, List.map_nil, hx0, hr, Oper.upon_value, hdst, hd]
  have hv := ownBlock_none q3
  have hob : (rowVal (m n) xs.length).ownBlock = (m n).1 := by unfold rowVal; cases e : (m n).1 <;> simp [Value.ownBlock]
  rw [hob] at q4 q6
  have hblk : ∀ b, v'.ownBlock = some b → (m n).1 = some b ∨ w.heap.size ≤ b := fun b hb => by
    rcases q6 with ⟨e, _⟩ | ⟨e, _⟩
    · rw [e] at hb; exact .inl hb
    · rw [e] at hb; cases hb; exact .inr (Nat.le_refl _)
  have hfin : FzIn w1 F' := by
    rcases q6 with ⟨e, k⟩ | ⟨e, _, k⟩
    · intro b off y hy
      have h1 := h'.fin b off y hy
      by_cases eb : (m n).1 = some b
      · rw [k b eb off ((g6 b eb).1 off y hy)]; exact h1
      · exact (World.cell?_of_block (q4.block b (World.block_lt_of_cell? w _ h1) (fun e => eb e.symm))).trans h1
    · exact h'.fin.blocks k
  have hown : OwnOk F' w1 B (v'.ownBlock, capOf v') (.row ty i.size (xs ++ ys) fz) := by
    refine ⟨fun z hz => ?_, ys0 ++ news, ?_, ?_, fun y hy => ?_, fun e => List.eq_nil_of_length_eq_zero (by simpa using q5 e), fun b hb => ?_⟩
    · rcases List.mem_append.1 hz with hz | hz
      · exact g1 z hz
      · exact he z hz
    · rw [List.length_append, ← hv]; exact q3
    · rw [List.flatten_append]; exact g3.append q1
    · rcases List.mem_append.1 hy with hy | hy
      · exact g4 y hy
      · exact q2 y hy
    · rcases hblk b hb with k | k
      · refine ⟨fun o y e => ?_, (g6 b k).2⟩
        have := (g6 b k).1 o y e
        rw [List.length_append, Nat.add_mul]; omega
      · have hn := h'.fin.noneF k
        exact ⟨fun o y e => (by have := hn o; rw [this] at e; cases e), fun _ => hn⟩
  have hfr : ∀ k, (killT s.t n k).name ≠ some d := fun k => by
    unfold killT
    split
    · simp [T.name]
    · rename_i e
      by_cases e' : d = n
      · subst e'; exact e
      · exact hf e' k
  have hh := h'.grow (t' := killT s.t n) (o' := upd (frzO s.o ra.frz) n none) (d := d) q4 hlt (fun k => by unfold killT; split; exact .inr rfl; exact .inl rfl)
    (fun k x hx => by
      by_cases e : k = n
      · subst e; simp [Fw.upd] at hx
      · simp only [Fw.upd, e, if_false] at hx
        refine ⟨hx, fun b hb eb => ?_⟩
        exact e (h'.inj k n b (by simp [hx]) (by simp [hon]) hb eb)) hfin (by rw [hd] at hdo; simpa [dstOk] using hdo) hfr hblk hown
  refine hK _ _ ⟨F', _, hh.put (d := some d) (t := .row d (xs.length + ys.length)) ?_ (by rw [← hd]; exact hdo)⟩
  refine ⟨?_, ?_⟩
  · simp only [upd_same]; exact hv
  · simp only [upd_same]; exact fun e => q5 e
end
end Go.Fw

set_option linter.unusedVariables false
set_option linter.unusedSimpArgs false
namespace Go.Fw
open Go.RowKit

section
variable {P : Program} {B nt : Nat} {w0 : World} {F0 : Fz} {s s' : St} {a : Act} {w : World} {F : Fz} {m : Mp}

theorem trKd_mset {op : Op} {kt et : Nat} {xs : List Operand} (h : trKd P op = some (.mset kt et, xs)) : ∃ t x y z, op = .mapUpdate t x y z ∧ xs = [x, y, z] ∧ P.underlying t = some (.map kt et) ∧ P.underlying kt = some .string := by
  cases op
  case call c =>
    obtain ⟨callee, args, ats⟩ := c
    cases callee with
    | value fo =>
      cases fo <;> simp only [trKd] at h
      case func => split at h <;> cases h
      all_goals (cases h)
    | invoke _ _ => cases h
    | builtin b => cases b <;> simp only [trKd] at h <;> first | (cases h; done) | (repeat' (split at h)) <;> cases h
  case mapUpdate t x y z =>
    simp only [trKd] at h
    split at h
    · rename_i k e hu
      split at h
      · rename_i hk
        cases h
        exact ⟨t, x, y, z, rfl, rfl, hu, hk⟩
      · cases h
    · cases h
  all_goals (simp only [trKd] at h; (repeat' (split at h)) <;> simp_all [Option.bind_eq_some_iff, Option.map_eq_some_iff])

theorem trKd_mdel {op : Op} {kt : Nat} {xs : List Operand} (h : trKd P op = some (.mdel kt, xs)) : ∃ t t' et x y, op = .call { callee := .builtin .delete, args := #[x, y], argTypes := #[t, t'] } ∧ xs = [x, y] ∧ P.underlying t = some (.map kt et) ∧ P.underlying kt = some .string := by
  cases op
  case call c =>
    obtain ⟨callee, ⟨args⟩, ⟨ats⟩⟩ := c
    cases callee with
    | value fo =>
      cases fo <;> simp only [trKd] at h
      case func => split at h <;> cases h
      all_goals (cases h)
    | invoke _ _ => cases h
    | builtin b =>
      cases b
      case delete =>
        simp only [trKd] at h
        split at h
        · rename_i x y t t'
          split at h
          · rename_i k e hu
            split at h
            · rename_i hk
              cases h
              exact ⟨t, t', e, x, y, rfl, rfl, hu, hk⟩
            · cases h
          · cases h
        · cases h
      all_goals (simp only [trKd] at h; first | (cases h; done) | (repeat' (split at h)) <;> cases h)
  all_goals (simp only [trKd] at h; (repeat' (split at h)) <;> simp_all [Option.bind_eq_some_iff, Option.map_eq_some_iff])

theorem opd3 {x y z : Opd} {xo yo zo : Operand} (hxs : mapO (trOpd nt) [xo, yo, zo] = some [x, y, z]) : trOpd nt xo = some x ∧ trOpd nt yo = some y ∧ trOpd nt zo = some z := by
  simp only [mapO, Option.bind_eq_some_iff, Option.map_eq_some_iff] at hxs
  obtain ⟨a1, h1, l, ⟨a2, h2, l2, ⟨a3, h3, l3, h4, rfl⟩, rfl⟩, h5⟩ := hxs
  cases h4; cases h5
  exact ⟨h1, h2, h3⟩

theorem FzIn.setMap (h : FzIn w F) {b : Nat} {ents : Array MapEntry} {c : Nat} (hb : w.heap[b]? = some (.map ents c)) {w1 : World} (hw : ∀ k, k ≠ b → w1.heap[k]? = w.heap[k]?) : FzIn w1 F := fun b' o y e => by
  have h1 := h b' o y e
  by_cases e' : b' = b
  · subst e'; simp [World.cell?, hb] at h1
  · exact (World.cell?_of_block (hw b' e')).trans h1

theorem run_setMap {b : Nat} {ents : Array MapEntry} {c : Nat} (hb : w.heap[b]? = some (.map ents c)) (o : Obj) : (setObj b o).run P w = .ok () { w with heap := w.heap.setIfInBounds b o } := by simp [setObj, Sem.run, hb]

theorem InvP.setMap (h : InvP B w0 F0 nt s a w F m) {n b : Nat} {kt et : Nat} {es es' : List (ByteArray × PV)} (hon : s.o n = some (.mp kt et es)) (hb : (m n).1 = some b) {ents ents' : Array MapEntry} {c c' : Nat} (g3 : w.heap[b]? = some (.map ents c))
    (hclock : ∀ e ∈ ents'.toList, e.born < c') (hsz : ents'.size = es'.length) (hrep : ∀ (j : Nat) (k : ByteArray) (p : PV) (e : MapEntry), es'[j]? = some (k, p) → ents'[j]? = some e → e.key = .string k ∧ Rep F p e.val) :
    InvP B w0 F0 nt ⟨s.t, upd s.o n (some (.mp kt et es'))⟩ a { w with heap := w.heap.setIfInBounds b (.map ents' c') } F m := by
  have hbl : b < w.heap.size := (Array.getElem?_eq_some_iff.1 g3).1
  have hoth : ∀ k, k ≠ b → (w.heap.setIfInBounds b (.map ents' c'))[k]? = w.heap[k]? := fun k hk => by simp [Array.getElem?_setIfInBounds, Ne.symm hk]
  have hB : B ≤ b := ((h.own n _ hon).lt hb).1
  exact h.write hon hb rfl rfl rfl (by simp) hoth (h.fin.setMap g3 hoth) ⟨b, ents', c', hb, hB, by simp [hbl], hclock, hsz, hrep⟩

theorem does_mset (h : Inv B w0 F0 nt s a w) {ops : Array Oper} {o : Oper} {r : RG} (ht : trOp P nt ops o = some r) {kt et n : Nat} {x y z : Opd} {ra : RA} {k : ByteArray} {p : PV} {es : List (ByteArray × PV)} (hk : r.k = .mset kt et) (hd : r.d = none) (hw : s.want r.g = some true) (ha : r.a = [x, y, z])
      (hx : s.ev x = .mp n) (ho : s.o n = some (.mp kt et es)) (hy : s.ev y = .p (.v (.string k))) (hz : s.res z = some ra) (hp : ra.pv = some p) (hn : n ∉ ra.frz) :
      Does P ops o a w (Inv B w0 F0 nt ⟨s.t, upd (frzO s.o ra.frz) n (some (.mp kt et (mput k p es)))⟩) := by
  intro K Q hK
  obtain ⟨xs', hkd, hxs, hg, hdst, hdo⟩ := trOp_inv ht
  rw [hk] at hkd
  obtain ⟨t, xo, yo, zo, hop, rfl, hu, hku⟩ := trKd_mset hkd
  rw [ha] at hxs
  obtain ⟨hxo, hyo, hzo⟩ := opd3 hxs
  obtain ⟨F, m, h⟩ := h
  rw [want_ok h hg hw, if_pos rfl]
  obtain ⟨F', h', hle, hfil⟩ := h.frz ra.frz
  have hrep := argPv h' hfil hzo hz rfl hp
  have hxv : RepT F' m (s.ev x) (a.eval xo) := by have := trOpd_rep (s := ⟨s.t, frzO s.o ra.frz⟩) h' hxo; cases x <;> exact this
  have hyv : RepT F' m (s.ev y) (a.eval yo) := by have := trOpd_rep (s := ⟨s.t, frzO s.o ra.frz⟩) h' hyo; cases y <;> exact this
  rw [hx] at hxv
  rw [hy] at hyv
  obtain ⟨b, hb, hxe⟩ := hxv
  have hye : a.eval yo = .string k := Rep.v_inv hyv
  have hon : (frzO s.o ra.frz) n = some (.mp kt et es) := by simp [frzO, hn, ho]
  obtain ⟨b', ents, c, g1, g2, g3, g4, g5, g6⟩ := h'.own n _ hon
  rw [hb] at g1; cases g1
  have hget : (getObj b).run P w = .ok (.map ents c) w := by simp [getObj, Sem.run, g3]
  have hbl : b < w.heap.size := (Array.getElem?_eq_some_iff.1 g3).1
  unfold Oper.wp execOp
  rw [hop]
  rcases findNow_str k ents.toList es 0 (by simpa using g5) (fun j q p e h1 h2 => g6 j q p e h1 (by simpa using h2)) with ⟨j, e', p', q1, q2, q3, q4, q5, q6⟩ | ⟨q1, q2, q3, q4⟩
  · have hkey : e'.key = .string k := (g6 j k p' e' q3 (by simpa using q2)).1
    have q2' : ents[j]? = some e' := by simpa using q2
    have hkk : (k == k) = true := by rw [beq_toListBytes]; simp
    have hrun : (Instr.mapUpdate t (.map (some b)) (.string k) (a.eval zo)).run P w = .ok () { w with heap := w.heap.setIfInBounds b (.map (ents.modify j fun e => { e with key := .string k, val := a.eval zo }) c) } := by
      simp [Instr.mapUpdate, run_underlying hu, hget, checkKey_str hku, Instr.findKey, run_underlying hku, q1, q2', hkey, Instr.keyThatStays, Instr.sameBits, hkk, run_setMap g3]
    simp only [hxe, hye, Sem.run_bind, hrun, Result.andThen_ok, Sem.run_pure, Oper.upon_skip, hdst, hd, Act.put]
    refine hK _ _ ⟨F', m, h'.setMap hon hb g3 (fun e he => ?_) (by rw [q5]; simpa using g5) (fun i k' p2 e h1 h2 => ?_)⟩
    · obtain ⟨i, hi, he⟩ := List.mem_iff_getElem.1 he
      simp only [Array.getElem_toList, Array.getElem_modify] at he
      simp only [Array.length_toList, Array.size_modify] at hi
      have hin : ents[i] ∈ ents.toList := by simp
      have hbn := g4 _ hin
      split at he
      · rw [← he]; exact hbn
      · rw [← he]; exact hbn
    · rw [q5, List.getElem?_set] at h1
      rw [Array.getElem?_modify] at h2
      by_cases e1 : j = i
      · subst e1
        simp only [if_true, q2', Option.map_some, Option.some.injEq] at h2
        have hjl : j < es.length := (List.getElem?_eq_some_iff.1 q3).1
        rw [if_pos rfl, if_pos hjl] at h1
        cases h1; subst h2; exact ⟨rfl, hrep⟩
      · rw [if_neg e1] at h1 h2
        exact g6 i k' p2 e h1 h2
  · have hrun : (Instr.mapUpdate t (.map (some b)) (.string k) (a.eval zo)).run P w = .ok () { w with heap := w.heap.setIfInBounds b (.map (ents.push { key := .string k, val := a.eval zo, born := c }) (c + 1)) } := by
      simp [Instr.mapUpdate, run_underlying hu, hget, checkKey_str hku, Instr.findKey, run_underlying hku, q1, run_setMap g3]
    simp only [hxe, hye, Sem.run_bind, hrun, Result.andThen_ok, Sem.run_pure, Oper.upon_skip, hdst, hd, Act.put]
    refine hK _ _ ⟨F', m, h'.setMap hon hb g3 (fun e he => ?_) (by rw [q3]; simp [g5]) (fun i k' p2 e h1 h2 => ?_)⟩
    · simp only [Array.toList_push, List.mem_append, List.mem_singleton] at he
      rcases he with he | rfl
      · have := g4 e he; omega
      · simp
    · rw [q3] at h1
      rw [Array.getElem?_push] at h2
      by_cases e1 : i = ents.size
      · rw [if_pos e1] at h2
        rw [e1, g5] at h1
        simp only [Option.some.injEq] at h2
        rw [List.getElem?_append_right (by omega)] at h1
        simp at h1
        subst h2
        obtain ⟨rfl, rfl⟩ := h1
        exact ⟨rfl, hrep⟩
      · rw [if_neg e1] at h2
        have hi : i < ents.size := (Array.getElem?_eq_some_iff.1 h2).1
        rw [List.getElem?_append_left (by omega)] at h1
        exact g6 i k' p2 e h1 h2

theorem does_mdel (h : Inv B w0 F0 nt s a w) {ops : Array Oper} {o : Oper} {r : RG} (ht : trOp P nt ops o = some r) {kt et n : Nat} {x y : Opd} {k : ByteArray} {es : List (ByteArray × PV)} (hk : r.k = .mdel kt) (hd : r.d = none) (hw : s.want r.g = some true) (ha : r.a = [x, y])
      (hx : s.ev x = .mp n) (ho : s.o n = some (.mp kt et es)) (hy : s.ev y = .p (.v (.string k))) :
      Does P ops o a w (Inv B w0 F0 nt ⟨s.t, upd s.o n (some (.mp kt et (mcut k es)))⟩) := by
  intro K Q hK
  obtain ⟨xs', hkd, hxs, hg, hdst, hdo⟩ := trOp_inv ht
  rw [hk] at hkd
  obtain ⟨t, t', et', xo, yo, hop, rfl, hu, hku⟩ := trKd_mdel hkd
  rw [ha] at hxs
  obtain ⟨hxo, hyo⟩ := opd2 hxs
  obtain ⟨F, m, h⟩ := h
  rw [want_ok h hg hw, if_pos rfl]
  have hxv : RepT F m (s.ev x) (a.eval xo) := trOpd_rep h hxo
  have hyv : RepT F m (s.ev y) (a.eval yo) := trOpd_rep h hyo
  rw [hx] at hxv
  rw [hy] at hyv
  obtain ⟨b, hb, hxe⟩ := hxv
  have hye : a.eval yo = .string k := Rep.v_inv hyv
  obtain ⟨b', ents, c, g1, g2, g3, g4, g5, g6⟩ := h.own n _ ho
  rw [hb] at g1; cases g1
  have hget : (getObj b).run P w = .ok (.map ents c) w := by simp [getObj, Sem.run, g3]
  unfold Oper.wp execOp
  rw [hop]
  rcases findNow_str k ents.toList es 0 (by simpa using g5) (fun j q p e h1 h2 => g6 j q p e h1 (by simpa using h2)) with ⟨j, e', p', q1, q2, q3, q4, q5, q6⟩ | ⟨q1, q2, q3, q4⟩
  · have hjl : j < ents.size := by have := (List.getElem?_eq_some_iff.1 q2).1; simpa using this
    have hrun : (Builtin.delete_ #[t, t'] o.type #[.map (some b), .string k]).run P w = .ok (.tuple #[]) { w with heap := w.heap.setIfInBounds b (.map (ents.eraseIdxIfInBounds j) c) } := by
      simp [Builtin.delete_, run_underlying hu, hget, checkKey_str hku, Instr.findKey, run_underlying hku, q1, run_setMap g3]
    simp only [resolve, invoke, builtin, List.map_toArray, List.map_cons, List.map_nil, hxe, hye, Sem.run_bind, hrun, Result.andThen_ok, Sem.run_pure, Oper.upon_value, hdst, hd, Act.put]
    have hlist : (ents.eraseIdxIfInBounds j).toList = ents.toList.eraseIdx j := by
      unfold Array.eraseIdxIfInBounds
      rw [dif_pos hjl]; simp
    refine hK _ _ ⟨F, m, h.setMap ho hb g3 (fun e he => ?_) ?_ (fun i k' p2 e h1 h2 => ?_)⟩
    · rw [hlist] at he; exact g4 e (List.mem_of_mem_eraseIdx he)
    · rw [← Array.length_toList, hlist, q6, List.length_eraseIdx, List.length_eraseIdx]
      simp [g5]
    · rw [← Array.getElem?_toList, hlist, List.getElem?_eraseIdx] at h2
      rw [q6, List.getElem?_eraseIdx] at h1
      split at h1
      · rename_i e1; rw [if_pos e1] at h2; exact g6 i k' p2 e h1 (by simpa using h2)
      · rename_i e1; rw [if_neg e1] at h2; exact g6 _ k' p2 e h1 (by simpa using h2)
  · have hrun : (Builtin.delete_ #[t, t'] o.type #[.map (some b), .string k]).run P w = .ok (.tuple #[]) { w with heap := w.heap.setIfInBounds b (.map ents c) } := by
      simp [Builtin.delete_, run_underlying hu, hget, checkKey_str hku, Instr.findKey, run_underlying hku, q1, run_setMap g3]
    simp only [resolve, invoke, builtin, List.map_toArray, List.map_cons, List.map_nil, hxe, hye, Sem.run_bind, hrun, Result.andThen_ok, Sem.run_pure, Oper.upon_value, hdst, hd, Act.put]
    exact hK _ _ ⟨F, m, h.setMap ho hb g3 g4 (by rw [q4]; exact g5) (by rw [q4]; exact g6)⟩

theorem InvP.grow2 (h : InvP B w0 F0 nt s a w F m) {row : Option Nat} {w1 : World} {F1 : Fz} (hg : w.grownBy w1 row) (hF : FzOn w.heap.size F F1) (hrow : ∀ k, row = some k → k = B ∨ w0.heap.size ≤ k) {t' : Nat → T} (ht' : ∀ k, t' k = s.t k ∨ t' k = .p .any) {o' : Nat → Option Own}
    (ho' : ∀ k x, o' k = some x → s.o k = some x ∧ ∀ b, (m k).1 = some b → row ≠ some b) (hfin : FzIn w1 F1) {d : Nat} (hdn : d < nt) (hd : ∀ k, (t' k).name ≠ some d) {mo : Option Nat} {c : Nat} (hmo : ∀ b, mo = some b → row = some b ∨ w.heap.size ≤ b) {x : Own} (hx : OwnOk F1 w1 B (mo, c) x) :
    InvP B w0 F0 nt ⟨t', upd o' d (some x)⟩ a w1 F1 (upd m d (mo, c)) := by
  have hB : B ≤ w.heap.size := h.hB
  have hb1 : BelowX B w0 w1 := ⟨hg.os.trans h.below.os, hg.tape.trans h.below.tape, hg.output.trans h.below.output, Nat.le_trans h.below.size hg.size, fun k hk hne => (hg.block k (Nat.lt_of_lt_of_le hk h.below.size) fun e => by rcases hrow k e.symm with e' | e' <;> omega).trans (h.below.block k hk hne)⟩
  refine ⟨h.defers, h.size, hb1, h.base, h.on.trans hF hB, hfin, fun k hk => ?_, fun n y hy => ?_, fun n n' b hn hn' hb hb' => ?_, fun n b hn hb => ?_, by rw [upd_ne _ _ (by have := h.ntle; omega)]; exact h.mfix, h.ntle⟩
  · rcases ht' k with e | e
    · exact RepT.upd (by simp only [e]; exact (h.tmps k hk).mono hF.le) (hd k) _
    · simp only [e]; exact Rep.any _
  · by_cases e : n = d
    · subst e
      simp only [Fw.upd, if_true] at hy
      cases hy
      simpa [Fw.upd] using hx
    · simp only [Fw.upd, e, if_false] at hy ⊢
      obtain ⟨h1, h2⟩ := ho' n y hy
      exact (h.own n y h1).keep (fun b hb => hg.block b ((h.own n y h1).lt hb).2 (fun e => h2 b hb e.symm)) hF.le fun b hb o => hF.old b o ((h.own n y h1).lt hb).2
  · have old : ∀ q b, q ≠ d → (upd o' d (some x) q).isSome = true → (upd m d (mo, c) q).1 = some b → (s.o q).isSome = true ∧ (m q).1 = some b ∧ row ≠ some b ∧ b < w.heap.size := fun q b e h1 h2 => by
      simp only [Fw.upd, e, if_false] at h1 h2
      obtain ⟨y, hy⟩ := Option.isSome_iff_exists.1 h1
      obtain ⟨k1, k2⟩ := ho' q y hy
      exact ⟨by simp [k1], h2, k2 b h2, ((h.own q y k1).lt h2).2⟩
    by_cases e : n = d <;> by_cases e' : n' = d
    · rw [e, e']
    · obtain ⟨_, _, k3, k4⟩ := old n' b e' hn' hb'
      subst e
      simp only [Fw.upd, if_true] at hb
      rcases hmo b hb with k | k
      · exact absurd k k3
      · omega
    · obtain ⟨_, _, k3, k4⟩ := old n b e hn hb
      subst e'
      simp only [Fw.upd, if_true] at hb'
      rcases hmo b hb' with k | k
      · exact absurd k k3
      · omega
    · obtain ⟨k1, k2, _, _⟩ := old n b e hn hb
      obtain ⟨l1, l2, _, _⟩ := old n' b e' hn' hb'
      exact h.inj n n' b k1 l1 k2 l2
  · by_cases e : n = d
    · subst e
      simp only [Fw.upd, if_true] at hb
      rcases hmo b hb with k | k
      · exact hrow b k
      · exact .inr (Nat.le_trans h.below.size k)
    · simp only [Fw.upd, e, if_false] at hn hb
      obtain ⟨y, hy⟩ := Option.isSome_iff_exists.1 hn
      exact h.ownL n b (by simp [(ho' n y hy).1]) hb

theorem RowIs.ownOk {F : Fz} {w : World} {B ty es : Nat} {v : Value} {xs : List (List PV)} {us : List Value} (h : RowIs F w B ty es v xs us) : OwnOk F w B (v.ownBlock, capOf v) (.row ty es xs false) := by
  have hv := ownBlock_none h.own
  refine ⟨h.len, us, by rw [← hv]; exact h.own, h.rep, h.one, h.nil, fun b hb => ⟨fun o y e => ?_, fun _ => h.free b hb⟩⟩
  have := h.free b hb o
  rw [this] at e; cases e
theorem RowIs.weaken {F : Fz} {w : World} {B B' ty es : Nat} {v : Value} {xs : List (List PV)} {us : List Value} (h : RowIs F w B ty es v xs us) (hB : B' ≤ B) : RowIs F w B' ty es v xs us := by
  refine ⟨⟨h.own.1, ?_⟩, h.rep, h.one, h.len, h.nil, h.free⟩
  rcases h.own.2 with h2 | ⟨g, cap, cur, h1, h2, r⟩
  · exact .inl h2
  · exact .inr ⟨g, cap, cur, h1, by omega, r⟩
theorem RowIs.ge {F : Fz} {w : World} {B ty es : Nat} {v : Value} {xs : List (List PV)} {us : List Value} (h : RowIs F w B ty es v xs us) {b : Nat} (hb : v.ownBlock = some b) : B ≤ b ∧ b < w.heap.size := h.own.lt b hb
theorem OwnOk.rowIs {F : Fz} {w : World} {B ty es : Nat} {m : Option Nat × Nat} {xs : List (List PV)} (h : OwnOk F w B m (.row ty es xs false)) : ∃ us, RowIs F w B ty es (rowVal m xs.length) xs us := by
  obtain ⟨g1, ys, g2, g3, g4, g5, g6⟩ := h
  have hob : (rowVal m xs.length).ownBlock = m.1 := by unfold rowVal; cases e : m.1 <;> simp [Value.ownBlock]
  exact ⟨ys, g2, g3, g4, g1, fun e => g5 (by rw [← hob]; exact e), fun b hb => (g6 b (by rw [← hob]; exact hb)).2 rfl⟩

theorem grownBy_none {w w' : World} (h : Below w.heap.size w w') : w.grownBy w' none := ⟨h.os, h.tape, h.output, h.size, fun k hk _ => h.block k hk⟩

theorem does_calln (h : Inv B w0 F0 nt s a w) {ops : Array Oper} {o : Oper} {r : RG} (ht : trOp P nt ops o = some r.base) {f d : Nat} {as : List RA} {ps : List PV} {ty es : Nat} {zs : List (List PV)} (hk : r.k = .calln f) (hd : r.d = some d) (hw : s.want r.g = some true) (ha : s.resL r.a = some as) (hp : pvs as = some ps)
      (hret : RetN P f ps ty es zs) (hf : s.fresh d) : Does P ops o a w (Inv B w0 F0 nt ⟨upd s.t d (.row d zs.length), upd (frzO s.o (frzs as)) d (some (.row ty es zs false))⟩) := by
  intro K Q hK
  obtain ⟨xs, hkd, hxs, hg, ho, hdo⟩ := trOp_inv ht
  simp only [RG.base] at hkd hxs hg ho hdo
  obtain ⟨F, m, h⟩ := h
  rw [want_ok h hg hw, if_pos rfl]
  obtain ⟨F', h', hle, hfil⟩ := h.frz (frzs as)
  have hrep := (h'.args hfil hxs ha).pvs (fun n hn => hn) hp
  have hB : B ≤ w.heap.size := h'.hB
  rw [hk] at hkd
  obtain ⟨⟨args⟩, ats, hop, rfl⟩ := trKd_call hkd
  unfold Oper.wp execOp
  rw [hop]
  have key : ∀ {x : Sem Next}, x.run P w = (callFunc f (xs.map a.eval).toArray).run P w → o.upon P a K Q (x.run P w) := by
    intro x hx
    rw [hx, hret.1, Oper.upon_enter]
    refine (hret.2 w F' _ h'.fin hrep).mono fun e w' he => ?_
    obtain ⟨v, F1, us, rfl, h1, h2, h3, h4⟩ := he
    have hh := h'.grow2 (t' := s.t) (o' := frzO s.o (frzs as)) (d := d) (grownBy_none h4) h3 (by simp) (fun k => .inl rfl) (fun k x hx => ⟨hx, fun b _ => by simp⟩) h2 (by rw [hd] at hdo; simpa [dstOk] using hdo) hf (fun b hb => .inr (h1.ge hb).1) (h1.weaken hB).ownOk
    rw [ho, hd]
    refine hK _ _ ⟨F1, _, hh.put (d := some d) (t := .row d zs.length) ?_ (by rw [← hd]; exact hdo)⟩
    refine ⟨?_, ?_⟩
    · simp only [upd_same]; exact ownBlock_none h1.own
    · simp only [upd_same]; exact fun e => by rw [h1.nil e]; rfl
  refine key ?_
  simp [resolve, invoke, Deferred.ofValue, Act.eval]

theorem does_calli (h : Inv B w0 F0 nt s a w) {ops : Array Oper} {o : Oper} {r : RG} (ht : trOp P nt ops o = some r.base) {f d n : Nat} {x : Opd} {ys : List Opd} {as : List RA} {ps : List PV} {ty es : Nat} {xs zs : List (List PV)} (hk : r.k = .calli f) (hd : r.d = some d) (hw : s.want r.g = some true) (ha : r.a = x :: ys)
      (hx : s.ev x = .row n xs.length) (hon : s.o n = some (.row ty es xs false)) (hy : s.resL ys = some as) (hp : pvs as = some ps) (hn : n ∉ frzs as) (hret : RetI P f ty es xs ps zs) (hf : d ≠ n → s.fresh d) :
      Does P ops o a w (Inv B w0 F0 nt ⟨upd (killT s.t n) d (.row d zs.length), upd (upd (frzO s.o (frzs as)) n none) d (some (.row ty es zs false))⟩) := by
  intro K Q hK
  obtain ⟨os, hkd, hxs, hg, ho, hdo⟩ := trOp_inv ht
  simp only [RG.base] at hkd hxs hg ho hdo
  obtain ⟨F, m, h⟩ := h
  rw [want_ok h hg hw, if_pos rfl]
  obtain ⟨F', h', hle, hfil⟩ := h.frz (frzs as)
  have hB : B ≤ w.heap.size := h'.hB
  rw [hk] at hkd
  obtain ⟨⟨args⟩, ats, hop, rfl⟩ := trKd_call hkd
  cases os with
  | nil => rw [ha] at hxs; simp [mapO] at hxs
  | cons xo yos =>
    rw [ha] at hxs
    simp only [mapO, Option.bind_eq_some_iff, Option.map_eq_some_iff] at hxs
    obtain ⟨x', hxo, ys', hyo, he⟩ := hxs
    cases he
    have hrep := (h'.args hfil hyo hy).pvs (fun n hn => hn) hp
    have hxv : RepT F' m (s.ev x) (a.eval xo) := by have := trOpd_rep (s := ⟨s.t, frzO s.o (frzs as)⟩) h' hxo; cases x <;> exact this
    rw [hx] at hxv
    have hx0 : a.eval xo = rowVal (m n) xs.length := hxv.1
    have hon' : (frzO s.o (frzs as)) n = some (.row ty es xs false) := by simp [frzO, hn, hon]
    have hok := h'.own n _ hon'
    have hlt : ∀ b, (m n).1 = some b → b = B ∨ w0.heap.size ≤ b := fun b hb => h'.ownL n b (by simp [hon']) hb
    obtain ⟨us, hri⟩ := hok.rowIs
    have hob : (rowVal (m n) xs.length).ownBlock = (m n).1 := by unfold rowVal; cases e : (m n).1 <;> simp [Value.ownBlock]
    unfold Oper.wp execOp
    rw [hop]
    have key : ∀ {z : Sem Next}, z.run P w = (callFunc f (rowVal (m n) xs.length :: yos.map a.eval).toArray).run P w → o.upon P a K Q (z.run P w) := by
      intro z hz
      rw [hz, hret.1, Oper.upon_enter]
      refine (hret.2 w F' B _ us _ h'.fin hrep hB hri).mono fun e w' he => ?_
      obtain ⟨v, us', rfl, h1, h2, h3, h4⟩ := he
      rw [hob] at h2 h4
      have hfr : ∀ k, (killT s.t n k).name ≠ some d := fun k => by
        unfold killT
        split
        · simp [T.name]
        · rename_i e
          by_cases e' : d = n
          · subst e'; exact e
          · exact hf e' k
      have hh := h'.grow2 (t' := killT s.t n) (o' := upd (frzO s.o (frzs as)) n none) (d := d) h4 (FzOn.refl _ _) hlt (fun k => by unfold killT; split; exact .inr rfl; exact .inl rfl)
        (fun k x hx => by
          by_cases e : k = n
          · subst e; simp [Fw.upd] at hx
          · simp only [Fw.upd, e, if_false] at hx
            refine ⟨hx, fun b hb eb => ?_⟩
            exact e (h'.inj k n b (by simp [hx]) (by simp [hon']) hb eb)) h3 (by rw [hd] at hdo; simpa [dstOk] using hdo) hfr h2 h1.ownOk
      rw [ho, hd]
      refine hK _ _ ⟨F', _, hh.put (d := some d) (t := .row d zs.length) ?_ (by rw [← hd]; exact hdo)⟩
      refine ⟨?_, ?_⟩
      · simp only [upd_same]; exact ownBlock_none h1.own
      · simp only [upd_same]; exact fun e => by rw [h1.nil e]; rfl
    refine key ?_
    simp only [List.map_cons] at *
    simp [resolve, invoke, Deferred.ofValue, Act.eval, ← hx0]

theorem InvP.lent (h : InvP B w0 F0 nt s a w F m) {n : Nat} {ty es : Nat} {xs zs : List (List PV)} (hon : s.o n = some (.row ty es xs false)) (hzl : zs.length = xs.length) {w1 : World} {us : List Value} (hg : w.grownBy w1 (m n).1) (hfin : FzIn w1 F) (hx : RowIs F w1 B ty es (rowVal (m n) xs.length) zs us) :
    InvP B w0 F0 nt ⟨s.t, upd s.o n (some (.row ty es zs false))⟩ a w1 F m := by
  have hrow : ∀ k, (m n).1 = some k → k = B ∨ w0.heap.size ≤ k := fun k hk => h.ownL n k (by simp [hon]) hk
  have hb1 : BelowX B w0 w1 := ⟨hg.os.trans h.below.os, hg.tape.trans h.below.tape, hg.output.trans h.below.output, Nat.le_trans h.below.size hg.size, fun k hk hne => (hg.block k (Nat.lt_of_lt_of_le hk h.below.size) fun e => by rcases hrow k e.symm with e' | e' <;> omega).trans (h.below.block k hk hne)⟩
  have hob : (rowVal (m n) xs.length).ownBlock = (m n).1 := by unfold rowVal; cases e : (m n).1 <;> simp [Value.ownBlock]
  refine ⟨h.defers, h.size, hb1, h.base, h.on, hfin, h.tmps, fun k y hy => ?_, fun k k' b hk hk' hb hb' => ?_, fun k b hk hb => ?_, h.mfix, h.ntle⟩
  · by_cases e : k = n
    · subst e
      simp only [Fw.upd, if_true] at hy
      cases hy
      refine ⟨hx.len, us, by rw [hzl]; simpa [hzl] using hx.own, hx.rep, hx.one, fun e => hx.nil (by rw [hob]; exact e), fun b hb => ⟨fun o y e => ?_, fun _ => hx.free b (by rw [hob]; exact hb)⟩⟩
      have := hx.free b (by rw [hob]; exact hb) o
      rw [this] at e; cases e
    · simp only [Fw.upd, e, if_false] at hy
      exact (h.own k y hy).keep (fun b hb => hg.block b ((h.own k y hy).lt hb).2 (fun e' => e (h.inj k n b (by simp [hy]) (by simp [hon]) hb e'.symm))) F.le_refl fun _ _ _ => rfl
  · refine h.inj k k' b ?_ ?_ hb hb'
    · by_cases e : k = n
      · subst e; simp [hon]
      · simpa [Fw.upd, e] using hk
    · by_cases e : k' = n
      · subst e; simp [hon]
      · simpa [Fw.upd, e] using hk'
  · refine h.ownL k b ?_ hb
    by_cases e : k = n
    · subst e; simp [hon]
    · simpa [Fw.upd, e] using hk

theorem does_callu (h : Inv B w0 F0 nt s a w) {ops : Array Oper} {o : Oper} {r : RG} (ht : trOp P nt ops o = some r.base) {f n : Nat} {x : Opd} {ys : List Opd} {as : List RA} {ps : List PV} {ty es : Nat} {xs zs : List (List PV)} {q : PV} (hk : r.k = .callu f) (hw : s.want r.g = some true) (ha : r.a = x :: ys)
      (hx : s.ev x = .row n xs.length) (hon : s.o n = some (.row ty es xs false)) (hy : s.resL ys = some as) (hp : pvs as = some ps) (hn : n ∉ frzs as) (hret : RetU P f ty es xs ps zs q) :
      Does P ops o a w (Inv B w0 F0 nt ⟨putT s.t r.d (.p q), upd (frzO s.o (frzs as)) n (some (.row ty es zs false))⟩) := by
  intro K Q hK
  obtain ⟨os, hkd, hxs, hg, ho, hdo⟩ := trOp_inv ht
  simp only [RG.base] at hkd hxs hg ho hdo
  obtain ⟨F, m, h⟩ := h
  rw [want_ok h hg hw, if_pos rfl]
  obtain ⟨F', h', hle, hfil⟩ := h.frz (frzs as)
  rw [hk] at hkd
  obtain ⟨⟨args⟩, ats, hop, rfl⟩ := trKd_call hkd
  cases os with
  | nil => rw [ha] at hxs; simp [mapO] at hxs
  | cons xo yos =>
    rw [ha] at hxs
    simp only [mapO, Option.bind_eq_some_iff, Option.map_eq_some_iff] at hxs
    obtain ⟨x', hxo, ys', hyo, he⟩ := hxs
    cases he
    have hrep := (h'.args hfil hyo hy).pvs (fun n hn => hn) hp
    have hxv : RepT F' m (s.ev x) (a.eval xo) := by have := trOpd_rep (s := ⟨s.t, frzO s.o (frzs as)⟩) h' hxo; cases x <;> exact this
    rw [hx] at hxv
    have hx0 : a.eval xo = rowVal (m n) xs.length := hxv.1
    have hon' : (frzO s.o (frzs as)) n = some (.row ty es xs false) := by simp [frzO, hn, hon]
    obtain ⟨us, hri⟩ := (h'.own n _ hon').rowIs
    have hob : (rowVal (m n) xs.length).ownBlock = (m n).1 := by unfold rowVal; cases e : (m n).1 <;> simp [Value.ownBlock]
    unfold Oper.wp execOp
    rw [hop]
    have key : ∀ {z : Sem Next}, z.run P w = (callFunc f (rowVal (m n) xs.length :: yos.map a.eval).toArray).run P w → o.upon P a K Q (z.run P w) := by
      intro z hz
      rw [hz, hret.2.1, Oper.upon_enter]
      refine (hret.2.2 w F' B _ us _ h'.fin hrep h'.hB hri).mono fun e w' he => ?_
      obtain ⟨us', v', rfl, hq, h1, h3, h4⟩ := he
      rw [hob] at h4
      have hh := h'.lent hon' hret.1 h4 h3 h1
      have hpt := hh.put (d := r.d) (t := .p q) (v := v') (show Rep F' q v' from hq) hdo
      rw [ho]
      exact hK _ _ ⟨F', m, hpt⟩
    refine key ?_
    simp only [List.map_cons] at *
    simp [resolve, invoke, Deferred.ofValue, Act.eval, ← hx0]

theorem trKd_base {op : Op} {k : Kd} {xs : List Operand} (h : trKd P op = some (k, xs)) : k.base = k := by
  cases k <;> first | rfl | skip
  all_goals
    exfalso
    cases op
    case call c =>
      obtain ⟨callee, ⟨args⟩, ⟨ats⟩⟩ := c
      cases callee with
      | value fo =>
        cases fo <;> simp only [trKd] at h
        case func => split at h <;> cases h
        all_goals (cases h)
      | invoke _ _ => cases h
      | builtin b => cases b <;> simp only [trKd] at h <;> first | (cases h; done) | (repeat' (split at h)) <;> cases h
    all_goals (simp only [trKd] at h; (repeat' (split at h)) <;> simp_all [Option.bind_eq_some_iff, Option.map_eq_some_iff])

theorem RG.base_eq {r : RG} (h : r.k.base = r.k) : r.base = r := by cases r; simp only [RG.base] at *; rw [h]
theorem trOp_base {ops : Array Oper} {o : Oper} {r : RG} (h : trOp P nt ops o = some r) : trOp P nt ops o = some r.base := by
  obtain ⟨xs, hk, _⟩ := trOp_inv h
  rw [RG.base_eq (trKd_base hk)]; exact h

theorem step_sound {r : RG} (hs : Step1 P r s s') (h : Inv B w0 F0 nt s a w) {ops : Array Oper} {o : Oper} (ht : trOp P nt ops o = some r.base) : Does P ops o a w (Inv B w0 F0 nt s') := by
  have hb : r.k.base = r.k → trOp P nt ops o = some r := fun e => by rw [ht, RG.base_eq e]
  cases hs with
  | skip hw => exact does_skip (r := r.base) h ht hw
  | plain as e hk hw ha he hn => exact does_plain h (hb (by cases e : r.k <;> rw [e] at hk <;> first | rfl | (simp [Kd.solo] at hk; done))) hk hw ha he hn
  | storeBox sz x y n off cells cs a' p hk hd hw ha hx ho hy hp hc hl hn => exact does_storeBox h (hb (by rw [hk]; rfl)) hk hd hw ha hx ho hy hp hc hl hn
  | storeRow sz x y n es i off ty xs c cs a' p hk hd hw ha hx ho hi hy hp hc hl hn => exact does_storeRow h (hb (by rw [hk]; rfl)) hk hd hw ha hx ho hi hy hp hc hl hn
  | appNil ty es bytes d x y a' ys sp hk hd hw ha hx hy hp he hl hf => exact does_appNil h (hb (by rw [hk]; rfl)) hk hd hw ha hx hy hp he hl hf
  | appRow ty es bytes d n x y a' xs ys sp fz hk hd hw ha hx ho hy hp he hl hn hf => exact does_appRow h (hb (by rw [hk]; rfl)) hk hd hw ha hx ho hy hp he hl hn hf
  | mset kt et n x y z a' k p cs es hk hd hw ha hx ho hy hz hp hn => exact does_mset h (hb (by rw [hk]; rfl)) hk hd hw ha hx ho hy hz hp hn
  | mdel kt et n x y k es hk hd hw ha hx ho hy => exact does_mdel h (hb (by rw [hk]; rfl)) hk hd hw ha hx ho hy
  | calln f d as ps ty es zs hk hd hw ha hp hr hf => exact does_calln h ht hk hd hw ha hp hr hf
  | calli f d n x ys as ps ty es xs zs hk hd hw ha hx ho hy hp hn hr hf => exact does_calli h ht hk hd hw ha hx ho hy hp hn hr hf
  | callu f n x ys as ps ty es xs zs hk hw ha hx ho hy hp hn hr => exact does_callu h ht hk hw ha hx ho hy hp hn hr
end
end Go.Fw
