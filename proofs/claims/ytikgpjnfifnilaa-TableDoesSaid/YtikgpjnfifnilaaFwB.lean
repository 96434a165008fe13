/-
  The abstract machine: a frame's slots and the call's own memory ('St'), operations ('RG'), what an operation does ('Step1'), contracts ('Ret'), and when a frame and a world of the model stand for such a state ('Inv').
-/
import Derived.Test.YtikgpjnfifnilaaFwA
set_option linter.unusedVariables false
set_option linter.unusedSimpArgs false
namespace Go.Fw
open Go.RowKit

/-- What a slot holds: a frozen value, a nil slice, a pointer into a block of the call's own, a slice at the head of a row of the call's own, a pointer into such a row, a map of the call's own. -/
inductive T where
  | p (x : PV)
  | nil
  | own (n off : Nat)
  | row (n len : Nat)
  | rp (n es i off : Nat)
  | mp (n : Nat)
instance : Inhabited T := ⟨.p .any⟩

def T.name : T → Option Nat
  | .own n _ | .row n _ | .rp n _ _ _ | .mp n => some n
  | .p _ | .nil => none

inductive Own where
  | box (cells : List PV) (fz : Bool)
  | row (ty es : Nat) (xs : List (List PV)) (fz : Bool)
  | mp (kt et : Nat) (es : List (ByteArray × PV))

def Own.freeze : Own → Own
  | .box cs _ => .box cs true
  | .row ty es xs _ => .row ty es xs true
  | .mp kt et es => .mp kt et es

structure St where
  t : Nat → T
  o : Nat → Option Own

def upd {α : Type} (f : Nat → α) (k : Nat) (v : α) : Nat → α := fun j => if j = k then v else f j
theorem upd_same {α : Type} (f : Nat → α) (k : Nat) (v : α) : upd f k v k = v := by simp [upd]
theorem upd_ne {α : Type} (f : Nat → α) {k j : Nat} (v : α) (h : j ≠ k) : upd f k v j = f j := by simp [upd, h]
theorem upd_comm {α : Type} (f : Nat → α) {k j : Nat} (v u : α) (h : k ≠ j) : upd (upd f k v) j u = upd (upd f j u) k v := by
  funext i
  simp only [upd]
  by_cases h1 : i = j <;> by_cases h2 : i = k <;> simp_all

inductive Opd where
  | t (n : Nat)
  | c (x : T)

/-- The leaves of a type whose values '==' compares leaf by leaf. -/
inductive Ck where
  | b
  | i (k : IntKind)
  | s
  deriving DecidableEq

inductive Kd where
  | mv
  | pick
  | box
  | alloc (z : List PV)
  | build (z : List PV) (pl : List (Nat × Nat))
  | bsl (ty es n : Nat) (z : List PV) (ix : List Nat)
  | load (sz : Nat) (ag : Bool)
  | bin (op : BinOp)
  | beq (neg : Bool)
  | eqs (neg : Bool) (ks : List Ck)
  | un (op : UnOp)
  | conv (k : IntKind)
  | mkf (f : FuncId)
  | fad (off : Nat)
  | fld (off sz : Nat) (ag : Bool)
  | iad (es : Nat)
  | aad (es n : Nat)
  | idx (es n : Nat) (ag : Bool)
  | sidx
  | slc (es : Nat) (lo hi : Bool)
  | sstr (lo hi : Bool)
  | sarr (es n : Nat) (lo hi : Bool)
  | ext (i : Nat)
  | len (c : Nat)
  | bmax
  | mks (ty es bytes : Nat) (z : List PV)
  | mkmap (kt et : Nat)
  | look (kt : Nat) (z : PV) (ok : Bool)
  | call (f : FuncId)
  | callv
  | calln (f : FuncId)
  | calli (f : FuncId)
  | callu (f : FuncId)
  | store (sz : Nat)
  | app (ty es bytes : Nat)
  | mset (kt et : Nat)
  | mdel (kt : Nat)

/-- The kind in the model's own text: 'calln', 'calli' are calls, told otherwise. -/
def Kd.base : Kd → Kd
  | .calln f | .calli f | .callu f => .call f
  | k => k

structure RG where
  d : Option Nat
  k : Kd
  a : List Opd
  g : Option (Nat × Bool) := none
def RG.base (r : RG) : RG := ⟨r.d, r.k.base, r.a, r.g⟩

/-- A slot's value with the own memory that it leads to. -/
inductive RA where
  | p (x : PV)
  | nil
  | own (n off : Nat) (cells : List PV)
  | row (n len es : Nat) (xs : List (List PV))
  | rp (n es i off : Nat) (cells : List PV)
  | mp (n kt et : Nat) (es : List (ByteArray × PV))

def RA.toT : RA → T
  | .p x => .p x
  | .nil => .nil
  | .own n o _ => .own n o
  | .row n l _ _ => .row n l
  | .rp n es i o _ => .rp n es i o
  | .mp n _ _ _ => .mp n
def RA.pv : RA → Option PV
  | .p x => some x
  | .nil => some (.sl [] [])
  | .own _ o cells => some (.ref cells o)
  | .row _ l _ xs => some (.sl (xs.take l) (xs.drop l))
  | _ => none
def RA.frz : RA → List Nat
  | .own n _ _ | .row n _ _ _ => [n]
  | _ => []

def lookT (o : Nat → Option Own) : T → Option RA
  | .p x => some (.p x)
  | .nil => some .nil
  | .own n off => match o n with | some (.box cells _) => some (.own n off cells) | _ => none
  | .row n l => match o n with | some (.row _ es xs _) => if l ≤ xs.length then some (.row n l es xs) else none | _ => none
  | .rp n es i off => match o n with
    | some (.row _ es' xs _) => if es' = es then (xs[i]?).map (.rp n es i off) else none
    | _ => none
  | .mp n => match o n with | some (.mp kt et es) => some (.mp n kt et es) | _ => none

def St.ev (s : St) : Opd → T
  | .t n => s.t n
  | .c x => x
def St.res (s : St) (x : Opd) : Option RA := lookT s.o (s.ev x)
def St.resL (s : St) : List Opd → Option (List RA)
  | [] => some []
  | x :: xs => (s.res x).bind fun a => (s.resL xs).map (a :: ·)
def pvs : List RA → Option (List PV)
  | [] => some []
  | a :: as => a.pv.bind fun p => (pvs as).map (p :: ·)
def frzs (as : List RA) : List Nat := as.flatMap RA.frz

structure Eff where
  v : T
  new : Option Own := none
  frz : List Nat := []

def slt (a b : ByteArray) : Bool := Op.bytesLess a.toList b.toList

def binV (op : BinOp) : Value → Value → Option Value
  | .int k a, .int k' b =>
    if k = k' then
      match op with
      | .add => some (.int k (k.wrap (a + b)))
      | .sub => some (.int k (k.wrap (a - b)))
      | .mul => some (.int k (k.wrap (a * b)))
      | .quo => if b = 0 then none else some (.int k (k.wrap (a.tdiv b)))
      | .rem => if b = 0 then none else some (.int k (a.tmod b))
      | .eql => some (.bool (decide (a = b)))
      | .neq => some (.bool (!decide (a = b)))
      | .lss => some (.bool (decide (a < b)))
      | .leq => some (.bool (decide (a ≤ b)))
      | .gtr => some (.bool (decide (b < a)))
      | .geq => some (.bool (decide (b ≤ a)))
      | _ => none
    else none
  | .string a, .string b =>
    match op with
    | .add => if a.size + b.size ≤ 9223372036854775807 then some (.string (a ++ b)) else none
    | .eql => some (.bool (decide (a = b)))
    | .neq => some (.bool (!decide (a = b)))
    | .lss => some (.bool (slt a b))
    | .leq => some (.bool (slt a b || decide (a = b)))
    | .gtr => some (.bool (!(slt a b || decide (a = b))))
    | .geq => some (.bool (!slt a b))
    | _ => none
  | _, _ => none

def cellsEq : List Ck → List PV → List PV → Option Bool
  | [], [], [] => some true
  | .b :: ks, .v (.bool a) :: xs, .v (.bool b) :: ys => (cellsEq ks xs ys).map (decide (a = b) && ·)
  | .i k :: ks, .v (.int k1 a) :: xs, .v (.int k2 b) :: ys => if k1 = k ∧ k2 = k then (cellsEq ks xs ys).map (decide (a = b) && ·) else none
  | .s :: ks, .v (.string a) :: xs, .v (.string b) :: ys => (cellsEq ks xs ys).map (decide (a = b) && ·)
  | _, _, _ => none

/-- What is read at a place among cells. -/
def ldv (cells : List PV) (off sz : Nat) (ag : Bool) : Option PV :=
  match ag with
  | true => if off + sz ≤ cells.length then some (.agg ((cells.drop off).take sz)) else none
  | false => cells[off]?

def fillP (z : List PV) : List ((Nat × Nat) × PV) → Option (List PV)
  | [] => some z
  | ((off, sz), p) :: r =>
    p.cells.bind fun cs => if cs.length = sz ∧ off + sz ≤ z.length then fillP (splice z off cs) r else none
def fillX (es : Nat) (xs : List (List PV)) : List (Nat × PV) → Option (List (List PV))
  | [] => some xs
  | (i, p) :: r => p.cells.bind fun cs => if cs.length = es ∧ i < xs.length then fillX es (xs.set i cs) r else none

def chunks (es : Nat) : Nat → List PV → List (List PV)
  | 0, _ => []
  | n + 1, l => l.take es :: chunks es n (l.drop es)

/-- Bounds of a slice expression, given as far as they are. -/
def bnds (lo hi : Bool) (n : Nat) : List RA → Option (Nat × Nat)
  | as =>
    match lo, hi, as with
    | false, false, [] => some (0, n)
    | true, false, [.p (.v (.int _ l))] => if 0 ≤ l then some (l.toNat, n) else none
    | false, true, [.p (.v (.int _ h))] => if 0 ≤ h then some (0, h.toNat) else none
    | true, true, [.p (.v (.int _ l)), .p (.v (.int _ h))] => if 0 ≤ l ∧ 0 ≤ h then some (l.toNat, h.toNat) else none
    | _, _, _ => none

def mfind (k : ByteArray) : List (ByteArray × PV) → Option PV
  | [] => none
  | (j, x) :: r => if k = j then some x else mfind k r
def mput (k : ByteArray) (x : PV) : List (ByteArray × PV) → List (ByteArray × PV)
  | [] => [(k, x)]
  | (j, y) :: r => if k = j then (k, x) :: r else (j, y) :: mput k x r
def mcut (k : ByteArray) : List (ByteArray × PV) → List (ByteArray × PV)
  | [] => []
  | (j, y) :: r => if k = j then r else (j, y) :: mcut k r

def headLen (es : Nat) : List (List PV) → Bool
  | [] => true
  | x :: _ => x.length == es

/-- Operations without calls that leave old own memory as it is, but for freezing. -/
def sem (k : Kd) (d : Nat) (as : List RA) : Option Eff :=
  match k with
  | .mv => match as with
    | [a] => some { v := a.toT }
    | _ => none
  | .pick => match as with
    | [.p (.v (.bool c)), a, b] => some { v := if c then a.toT else b.toT }
    | _ => none
  | .box => match as with
    | [a] => a.pv.bind fun p => p.cells.map fun cs => { v := .own d 0, new := some (.box cs false), frz := a.frz }
    | _ => none
  | .alloc z => match as with
    | [] => some { v := .own d 0, new := some (.box z false) }
    | _ => none
  | .build z pl => (pvs as).bind fun ps => if ps.length = pl.length then (fillP z (pl.zip ps)).map fun cs => { v := .p (.agg cs), frz := frzs as } else none
  | .bsl ty es n z ix => (pvs as).bind fun ps => if ps.length = ix.length then (fillX es (List.replicate n z) (ix.zip ps)).map fun xs => { v := .row d n, new := some (.row ty es xs false), frz := frzs as } else none
  | .load sz ag => match as with
    | [.own _ off cells] => (ldv cells off sz ag).map fun p => { v := .p p }
    | [.rp _ _ _ off cells] => (ldv cells off sz ag).map fun p => { v := .p p }
    | [.p (.ref cells off)] => (ldv cells off sz ag).map fun p => { v := .p p }
    | _ => none
  | .bin op => match as with
    | [.p (.v a), .p (.v b)] => (binV op a b).map fun r => { v := .p (.v r) }
    | _ => none
  | .beq neg => match as with
    | [.p (.v (.bool a)), .p (.v (.bool b))] => some { v := .p (.v (.bool (neg != decide (a = b)))) }
    | _ => none
  | .eqs neg ks => match as with
    | [.p (.agg xs), .p (.agg ys)] => (cellsEq ks xs ys).map fun r => { v := .p (.v (.bool (neg != r))) }
    | _ => none
  | .un op => match op, as with
    | .not, [.p (.v (.bool a))] => some { v := .p (.v (.bool (!a))) }
    | .neg, [.p (.v (.int k a))] => some { v := .p (.v (.int k (k.wrap (0 - a)))) }
    | _, _ => none
  | .conv k => match as with
    | [.p (.v (.int _ n))] => some { v := .p (.v (.int k (k.wrap n))) }
    | _ => none
  | .mkf f => (pvs as).map fun ps => { v := .p (.clo f ps), frz := frzs as }
  | .fad off => match as with
    | [.own n o _] => some { v := .own n (o + off) }
    | [.rp n es i o _] => some { v := .rp n es i (o + off) }
    | [.p (.ref cells o)] => some { v := .p (.ref cells (o + off)) }
    | _ => none
  | .fld off sz ag => match as with
    | [.p (.agg cells)] => (ldv cells off sz ag).map fun p => { v := .p p }
    | _ => none
  | .iad es => match as with
    | [.row n len es' xs, .p (.v (.int _ i))] => if 0 ≤ i ∧ i < len ∧ es' = es then some { v := .rp n es i.toNat 0 } else none
    | [.p (.sl xs _), .p (.v (.int _ i))] => if 0 ≤ i then (xs[i.toNat]?).bind fun x => if x.length = es then some { v := .p (.ref x 0) } else none else none
    | _ => none
  | .aad es n => match as with
    | [.own m o _, .p (.v (.int _ i))] => if 0 ≤ i ∧ i < n then some { v := .own m (o + i.toNat * es) } else none
    | [.p (.ref cells o), .p (.v (.int _ i))] => if 0 ≤ i ∧ i < n then some { v := .p (.ref cells (o + i.toNat * es)) } else none
    | _ => none
  | .idx es n ag => match as with
    | [.p (.agg cells), .p (.v (.int _ i))] => if 0 ≤ i ∧ i < n then (ldv cells (i.toNat * es) es ag).map fun p => { v := .p p } else none
    | _ => none
  | .sidx => match as with
    | [.p (.v (.string s)), .p (.v (.int _ i))] => if h : 0 ≤ i ∧ i.toNat < s.size then some { v := .p (.v (.int .u8 (s[i.toNat]'h.2).toNat)) } else none
    | _ => none
  | .slc es lo hi => match as with
    | .p (.sl xs sp) :: r => (bnds lo hi xs.length r).bind fun lh => if lh.1 ≤ lh.2 ∧ lh.2 ≤ (xs ++ sp).length ∧ (lh.1 = 0 ∨ headLen es (xs ++ sp) = true) then some { v := .p (.sl (((xs ++ sp).take lh.2).drop lh.1) ((xs ++ sp).drop lh.2)) } else none
    | .row n len es' xs :: r => (bnds lo hi len r).bind fun lh =>
      if lh.1 = 0 ∧ lh.2 ≤ xs.length then some { v := .row n lh.2 }
      else if lh.1 ≤ lh.2 ∧ lh.2 ≤ xs.length ∧ es' = es then some { v := .p (.sl ((xs.take lh.2).drop lh.1) (xs.drop lh.2)), frz := [n] } else none
    | _ => none
  | .sstr lo hi => match as with
    | .p (.v (.string s)) :: r => (bnds lo hi s.size r).bind fun lh => if lh.1 ≤ lh.2 ∧ lh.2 ≤ s.size then some { v := .p (.v (.string (s.extract lh.1 lh.2))) } else none
    | _ => none
  | .sarr es n lo hi => match as with
    | .own m o cells :: r => (bnds lo hi n r).bind fun lh => if lh.1 ≤ lh.2 ∧ lh.2 ≤ n ∧ o + n * es ≤ cells.length then some { v := .p (.sl (((chunks es n (cells.drop o)).take lh.2).drop lh.1) ((chunks es n (cells.drop o)).drop lh.2)), frz := [m] } else none
    | _ => none
  | .ext i => match as with
    | [.p (.tup cs)] => (cs[i]?).map fun p => { v := .p p }
    | _ => none
  | .bmax => match as with
    | [.p (.v (.int .i64 a)), .p (.v (.int .i64 b))] => some { v := .p (.v (.int .i64 (max a b))) }
    | _ => none
  | .len c => match c, as with
    | 0, [.row _ n _ _] => some { v := .p (.v (.int .i64 n)) }
    | 0, [.p (.sl xs _)] => some { v := .p (.v (.int .i64 xs.length)) }
    | 0, [.nil] => some { v := .p (.v (.int .i64 0)) }
    | 1, [.p (.v (.string s))] => some { v := .p (.v (.int .i64 s.size)) }
    | 2, [.mp _ _ _ es] => some { v := .p (.v (.int .i64 es.length)) }
    | _, _ => none
  | .mks ty es bytes z => match as with
    | [.p (.v (.int .i64 l)), .p (.v (.int .i64 c))] =>
      if 0 ≤ l ∧ l ≤ c ∧ c * bytes ≤ 140737488355328 then some { v := .row d l.toNat, new := some (.row ty es (List.replicate l.toNat z) false) } else none
    | _ => none
  | .mkmap kt et => match as with
    | [] => some { v := .mp d, new := some (.mp kt et []) }
    | _ => none
  | .look kt z ok => match as with
    | [.mp _ kt' _ es, .p (.v (.string k))] =>
      if kt' = kt then
        match mfind k es, ok with
        | some x, true => some { v := .p (.tup [x, .v (.bool true)]) }
        | some x, false => some { v := .p x }
        | none, true => some { v := .p (.tup [z, .v (.bool false)]) }
        | none, false => some { v := .p z }
      else none
    | _ => none
  | _ => none

/-! ### Contracts -/
def FzIn (w : World) (F : Fz) : Prop := ∀ b o y, F b o = some y → w.cell? ⟨b, o, none⟩ = some y

/-- F' goes on from F, in new memory alone. -/
structure FzOn (n : Nat) (F F' : Fz) : Prop where
  le : F.le F'
  old : ∀ b o, b < n → F' b o = F b o

/-- A function with a body. -/
def Enters (P : Program) (f : FuncId) : Prop := ∀ (args : Array Value) (w : World), (callFunc f args).run P w = .ok (.enter f args) w

/-- THE CONTRACT: f, called with values that stand for ps, returns a value that stands for r; what was there stays. -/
def Ret (P : Program) (f : FuncId) (ps : List PV) (r : PV) : Prop :=
  Enters P f ∧ ∀ (w : World) (F : Fz) (ys : List Value), FzIn w F → RepL F ps ys →
    Calls P f ys.toArray w fun e w' => ∃ v F', e = .returned v ∧ Rep F' r v ∧ FzIn w' F' ∧ FzOn w.heap.size F F' ∧ Below w.heap.size w w'

def noneF (F : Fz) (b : Nat) : Prop := ∀ o, F b o = none
/-- A row of the call's own, with what it holds. -/
structure RowIs (F : Fz) (w : World) (B ty es : Nat) (v : Value) (xs : List (List PV)) (us : List Value) : Prop where
  own : w.ownsRow B ty es v xs.length us
  rep : RepL F xs.flatten us
  one : ∀ y ∈ us, y.oneCell' = true
  len : ∀ x ∈ xs, x.length = es
  nil : v.ownBlock = none → xs = []
  free : ∀ b, v.ownBlock = some b → noneF F b

/-- THE CONTRACT of a function that hands out a new row. -/
def RetN (P : Program) (f : FuncId) (ps : List PV) (ty es : Nat) (zs : List (List PV)) : Prop :=
  Enters P f ∧ ∀ (w : World) (F : Fz) (ys : List Value), FzIn w F → RepL F ps ys →
    Calls P f ys.toArray w fun e w' => ∃ v F' us, e = .returned v ∧ RowIs F' w' w.heap.size ty es v zs us ∧ FzIn w' F' ∧ FzOn w.heap.size F F' ∧ Below w.heap.size w w'

/-- THE CONTRACT of a function that is handed a row of the caller's own, first, and hands out what has become of it. -/
def RetI (P : Program) (f : FuncId) (ty es : Nat) (xs : List (List PV)) (ps : List PV) (zs : List (List PV)) : Prop :=
  Enters P f ∧ ∀ (w : World) (F : Fz) (B : Nat) (v : Value) (us ys : List Value), FzIn w F → RepL F ps ys → B ≤ w.heap.size → RowIs F w B ty es v xs us →
    Calls P f (v :: ys).toArray w fun e w' => ∃ v' us', e = .returned v' ∧ RowIs F w' B ty es v' zs us' ∧ (∀ b, v'.ownBlock = some b → v.ownBlock = some b ∨ w.heap.size ≤ b) ∧ FzIn w' F ∧ w.grownBy w' v.ownBlock

/-- THE CONTRACT of a function that is lent a row of the caller's own, first, may write in it, and returns q. -/
def RetU (P : Program) (f : FuncId) (ty es : Nat) (xs : List (List PV)) (ps : List PV) (zs : List (List PV)) (q : PV := .tup []) : Prop :=
  zs.length = xs.length ∧ Enters P f ∧ ∀ (w : World) (F : Fz) (B : Nat) (v : Value) (us ys : List Value), FzIn w F → RepL F ps ys → B ≤ w.heap.size → RowIs F w B ty es v xs us →
    Calls P f (v :: ys).toArray w fun e w' => ∃ us' v', e = .returned v' ∧ Rep F q v' ∧ RowIs F w' B ty es v zs us' ∧ FzIn w' F ∧ w.grownBy w' v.ownBlock

def SemA (P : Program) (k : Kd) (d : Nat) (as : List RA) (e : Eff) : Prop :=
  match k with
  | .call f => ∃ ps r, pvs as = some ps ∧ Ret P f ps r ∧ e = { v := .p r, frz := frzs as }
  | .callv => ∃ f caps rest ps r, as = .p (.clo f caps) :: rest ∧ pvs rest = some ps ∧ Ret P f (ps ++ caps) r ∧ e = { v := .p r, frz := frzs as }
  | k => sem k d as = some e

def putT (t : Nat → T) (d : Option Nat) (v : T) : Nat → T :=
  match d with
  | some d => upd t d v
  | none => t
def frzO (o : Nat → Option Own) (ns : List Nat) : Nat → Option Own := fun n => if n ∈ ns then (o n).map Own.freeze else o n
def newO (o : Nat → Option Own) (d : Option Nat) (x : Option Own) : Nat → Option Own :=
  match d, x with
  | some d, some x => upd o d (some x)
  | _, _ => o
def St.eff (s : St) (d : Option Nat) (e : Eff) : St := ⟨putT s.t d e.v, newO (frzO s.o e.frz) d e.new⟩

def boolOf : Value → Option Bool
  | .bool c => some c
  | _ => none
def St.want (s : St) : Option (Nat × Bool) → Option Bool
  | none => some true
  | some (t, b) => match s.t t with | .p (.v v) => some (boolOf v == some b) | _ => none

/-- No slot leads to the own memory n. -/
def St.fresh (s : St) (n : Nat) : Prop := ∀ k, (s.t k).name ≠ some n

def killT (t : Nat → T) (n : Nat) : Nat → T := fun k => if (t k).name = some n then .p .any else t k

def Kd.solo : Kd → Bool
  | .store _ | .app .. | .mset .. | .mdel _ | .calln _ | .calli _ | .callu _ => true
  | _ => false

/-- One operation. -/
inductive Step1 (P : Program) : RG → St → St → Prop
  | skip (r : RG) (s : St) (hw : s.want r.g = some false) : Step1 P r s ⟨putT s.t r.d (.p (.v undef)), s.o⟩
  | plain (r : RG) (s : St) (as : List RA) (e : Eff) (hk : r.k.solo = false) (hw : s.want r.g = some true) (ha : s.resL r.a = some as) (he : SemA P r.k (r.d.getD 0) as e)
      (hn : e.new.isSome = true → ∃ d, r.d = some d ∧ s.fresh d) : Step1 P r s (s.eff r.d e)
  | storeBox (r : RG) (s : St) (sz : Nat) (x y : Opd) (n off : Nat) (cells cs : List PV) (a : RA) (p : PV) (hk : r.k = .store sz) (hd : r.d = none) (hw : s.want r.g = some true) (ha : r.a = [x, y])
      (hx : s.ev x = .own n off) (ho : s.o n = some (.box cells false)) (hy : s.res y = some a) (hp : a.pv = some p) (hc : p.cells = some cs)
      (hl : cs.length = sz ∧ off + sz ≤ cells.length) (hn : n ∉ a.frz) : Step1 P r s ⟨s.t, upd (frzO s.o a.frz) n (some (.box (splice cells off cs) false))⟩
  | storeRow (r : RG) (s : St) (sz : Nat) (x y : Opd) (n es i off ty : Nat) (xs : List (List PV)) (c cs : List PV) (a : RA) (p : PV) (hk : r.k = .store sz) (hd : r.d = none) (hw : s.want r.g = some true) (ha : r.a = [x, y])
      (hx : s.ev x = .rp n es i off) (ho : s.o n = some (.row ty es xs false)) (hi : xs[i]? = some c) (hy : s.res y = some a) (hp : a.pv = some p) (hc : p.cells = some cs)
      (hl : cs.length = sz ∧ off + sz ≤ es) (hn : n ∉ a.frz) : Step1 P r s ⟨s.t, upd (frzO s.o a.frz) n (some (.row ty es (xs.set i (splice c off cs)) false))⟩
  | appNil (r : RG) (s : St) (ty es bytes d : Nat) (x y : Opd) (a : RA) (ys sp : List (List PV)) (hk : r.k = .app ty es bytes) (hd : r.d = some d) (hw : s.want r.g = some true) (ha : r.a = [x, y])
      (hx : s.ev x = .nil) (hy : s.res y = some a) (hp : a.pv = some (.sl ys sp)) (he : ∀ z ∈ ys, z.length = es) (hl : ys.length * bytes ≤ 140737488355328) (hf : s.fresh d) :
      Step1 P r s ⟨upd s.t d (.row d ys.length), upd (frzO s.o a.frz) d (some (.row ty es ys false))⟩
  | appRow (r : RG) (s : St) (ty es bytes d n : Nat) (x y : Opd) (a : RA) (xs ys sp : List (List PV)) (fz : Bool) (hk : r.k = .app ty es bytes) (hd : r.d = some d) (hw : s.want r.g = some true) (ha : r.a = [x, y])
      (hx : s.ev x = .row n xs.length) (ho : s.o n = some (.row ty es xs fz)) (hy : s.res y = some a) (hp : a.pv = some (.sl ys sp)) (he : ∀ z ∈ ys, z.length = es) (hl : (xs.length + ys.length) * bytes ≤ 140737488355328)
      (hn : n ∉ a.frz) (hf : d ≠ n → s.fresh d) :
      Step1 P r s ⟨upd (killT s.t n) d (.row d (xs.length + ys.length)), upd (upd (frzO s.o a.frz) n none) d (some (.row ty es (xs ++ ys) fz))⟩
  | mset (r : RG) (s : St) (kt et n : Nat) (x y z : Opd) (a : RA) (k : ByteArray) (p : PV) (cs : List PV) (es : List (ByteArray × PV)) (hk : r.k = .mset kt et) (hd : r.d = none) (hw : s.want r.g = some true) (ha : r.a = [x, y, z])
      (hx : s.ev x = .mp n) (ho : s.o n = some (.mp kt et es)) (hy : s.ev y = .p (.v (.string k))) (hz : s.res z = some a) (hp : a.pv = some p) (hn : n ∉ a.frz) :
      Step1 P r s ⟨s.t, upd (frzO s.o a.frz) n (some (.mp kt et (mput k p es)))⟩
  | mdel (r : RG) (s : St) (kt et n : Nat) (x y : Opd) (k : ByteArray) (es : List (ByteArray × PV)) (hk : r.k = .mdel kt) (hd : r.d = none) (hw : s.want r.g = some true) (ha : r.a = [x, y])
      (hx : s.ev x = .mp n) (ho : s.o n = some (.mp kt et es)) (hy : s.ev y = .p (.v (.string k))) :
      Step1 P r s ⟨s.t, upd s.o n (some (.mp kt et (mcut k es)))⟩
  | calln (r : RG) (s : St) (f : FuncId) (d : Nat) (as : List RA) (ps : List PV) (ty es : Nat) (zs : List (List PV)) (hk : r.k = .calln f) (hd : r.d = some d) (hw : s.want r.g = some true) (ha : s.resL r.a = some as) (hp : pvs as = some ps)
      (hr : RetN P f ps ty es zs) (hf : s.fresh d) : Step1 P r s ⟨upd s.t d (.row d zs.length), upd (frzO s.o (frzs as)) d (some (.row ty es zs false))⟩
  | calli (r : RG) (s : St) (f : FuncId) (d n : Nat) (x : Opd) (ys : List Opd) (as : List RA) (ps : List PV) (ty es : Nat) (xs zs : List (List PV)) (hk : r.k = .calli f) (hd : r.d = some d) (hw : s.want r.g = some true) (ha : r.a = x :: ys)
      (hx : s.ev x = .row n xs.length) (ho : s.o n = some (.row ty es xs false)) (hy : s.resL ys = some as) (hp : pvs as = some ps) (hn : n ∉ frzs as) (hr : RetI P f ty es xs ps zs) (hf : d ≠ n → s.fresh d) :
      Step1 P r s ⟨upd (killT s.t n) d (.row d zs.length), upd (upd (frzO s.o (frzs as)) n none) d (some (.row ty es zs false))⟩
  | callu (r : RG) (s : St) {q : PV} (f : FuncId) (n : Nat) (x : Opd) (ys : List Opd) (as : List RA) (ps : List PV) (ty es : Nat) (xs zs : List (List PV)) (hk : r.k = .callu f) (hw : s.want r.g = some true) (ha : r.a = x :: ys)
      (hx : s.ev x = .row n xs.length) (ho : s.o n = some (.row ty es xs false)) (hy : s.resL ys = some as) (hp : pvs as = some ps) (hn : n ∉ frzs as) (hr : RetU P f ty es xs ps zs q) :
      Step1 P r s ⟨putT s.t r.d (.p q), upd (frzO s.o (frzs as)) n (some (.row ty es zs false))⟩

/-! ### When a frame and a world stand for a state -/
abbrev Mp := Nat → Option Nat × Nat
def rowVal (m : Option Nat × Nat) (len : Nat) : Value :=
  match m.1 with
  | some b => .slice (some ⟨b, 0, none⟩) len m.2
  | none => .slice none 0 0
def RepT (F : Fz) (m : Mp) : T → Value → Prop
  | .p x, v => Rep F x v
  | .nil, v => v = .slice none 0 0
  | .own n off, v => ∃ b, (m n).1 = some b ∧ v = .pointer (some ⟨b, off, none⟩)
  | .row n len, v => v = rowVal (m n) len ∧ ((m n).1 = none → len = 0)
  | .rp n es i off, v => ∃ b, (m n).1 = some b ∧ v = .pointer (some ⟨b, i * es + off, none⟩)
  | .mp n, v => ∃ b, (m n).1 = some b ∧ v = .map (some b)

def OwnOk (F : Fz) (w : World) (B : Nat) (m : Option Nat × Nat) : Own → Prop
  | .box cells fz => ∃ b cs ty, m.1 = some b ∧ B ≤ b ∧ w.heap[b]? = some (.cells cs ty (0, 0)) ∧ RepL F cells cs.toList ∧ (∀ y ∈ cs.toList, y.oneCell' = true) ∧ (fz = false → noneF F b)
  | .row ty es xs fz => (∀ x ∈ xs, x.length = es) ∧ ∃ ys, w.ownsRow B ty es (rowVal m xs.length) xs.length ys ∧ RepL F xs.flatten ys ∧ (∀ y ∈ ys, y.oneCell' = true) ∧ (m.1 = none → xs = []) ∧
      ∀ b, m.1 = some b → (∀ o y, F b o = some y → o < xs.length * es) ∧ (fz = false → noneF F b)
  | .mp kt et es => ∃ b ents clock, m.1 = some b ∧ B ≤ b ∧ w.heap[b]? = some (.map ents clock) ∧ (∀ e ∈ ents.toList, e.born < clock) ∧
      ents.size = es.length ∧ (∀ (j : Nat) (k : ByteArray) (p : PV) (e : MapEntry), es[j]? = some (k, p) → ents[j]? = some e → e.key = .string k ∧ Rep F p e.val)

/-- All blocks of w0, but for block B, are as they were. (B = w0.heap.size: all of them; else block B is a row that was lent.) -/
structure BelowX (B : Nat) (w0 w : World) : Prop where
  os : w.os = w0.os
  tape : w.tape = w0.tape
  output : w.output = w0.output
  size : w0.heap.size ≤ w.heap.size
  block : ∀ k, k < w0.heap.size → k ≠ B → w.heap[k]? = w0.heap[k]?

/-- The name of a row that was lent. (Its capacity is kept in 'w0.drawn', which is looked at nowhere else.) -/
abbrev LN : Nat := 999999

structure InvP (B : Nat) (w0 : World) (F0 : Fz) (nt : Nat) (s : St) (a : Act) (w : World) (F : Fz) (m : Mp) : Prop where
  defers : a.defers = []
  size : a.tmps.size = nt
  below : BelowX B w0 w
  base : B ≤ w0.heap.size
  on : FzOn B F0 F
  fin : FzIn w F
  tmps : ∀ k, k < nt → RepT F m (s.t k) (a.tmps.getD k undef)
  own : ∀ n x, s.o n = some x → OwnOk F w B (m n) x
  inj : ∀ n n' b, (s.o n).isSome = true → (s.o n').isSome = true → (m n).1 = some b → (m n').1 = some b → n = n'
  ownL : ∀ n b, (s.o n).isSome = true → (m n).1 = some b → b = B ∨ w0.heap.size ≤ b
  mfix : m LN = (some B, w0.drawn)
  ntle : nt ≤ LN

def Inv (B : Nat) (w0 : World) (F0 : Fz) (nt : Nat) (s : St) (a : Act) (w : World) : Prop := ∃ F m, InvP B w0 F0 nt s a w F m

end Go.Fw
