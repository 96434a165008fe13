/-
  From the model's operations to the abstract machine's ('trOp'), and what upholds 'InvP': another world, a slot written, memory frozen.
-/
import Derived.Test.YtikgpjnfifnilaaFwB
set_option linter.unusedVariables false
set_option linter.unusedSimpArgs false
namespace Go.Fw
open Go.RowKit

/-! ### Translation -/
def zp : Value → Option PV
  | .agg _ | .tuple _ => none
  | .slice none 0 0 => some (.sl [] [])
  | v => some (.v v)
def zps : List Value → Option (List PV)
  | [] => some []
  | v :: r => (zp v).bind fun p => (zps r).map (p :: ·)
def zeroP (P : Program) (t : TypeId) : Option (List PV) :=
  match P.info? t with
  | some i => (match i.zero with | some z => zps z.cells.toList | none => none)
  | none => none
def zvP (P : Program) (t : TypeId) : Option PV :=
  match P.info? t with
  | some i => (match i.zero with | some (.agg cs) => (zps cs.toList).map .agg | some z => zp z | none => none)
  | none => none
def isAggD : TypeDesc → Bool
  | .struct _ | .array _ _ => true
  | _ => false
def placeP (P : Program) (t : TypeId) (i : Nat) : Option (Nat × Nat) :=
  match P.underlying t with
  | some (.struct fs) => (fs[i]?).map fun f => (f.offset, P.cellsOf f.type)
  | some (.array _ e) => some (i * P.cellsOf e, P.cellsOf e)
  | _ => none
def mapO {α β : Type} (f : α → Option β) : List α → Option (List β)
  | [] => some []
  | x :: xs => (f x).bind fun y => (mapO f xs).map (y :: ·)
def sizedB (P : Program) (t : TypeId) : Bool := match P.underlying t with | some (.struct fs) => fs.all fun f => (P.info? f.type).isSome | some (.array _ e) => (P.info? e).isSome | _ => false

def flatFs (P : Program) (g : TypeId → Option (List Ck)) : List Field → Nat → Option (List Ck)
  | [], _ => some []
  | f :: fs, off => (g f.type).bind fun js => if f.name ≠ "_" ∧ f.offset = off ∧ P.cellsOf f.type = js.length ∧ 0 < js.length then (flatFs P g fs (off + js.length)).map (js ++ ·) else none
/-- The leaves of a type, laid without gaps. -/
def flatK (P : Program) : Nat → TypeId → Option (List Ck)
  | 0, _ => none
  | d + 1, t =>
    match P.underlying t with
    | some .bool => some [.b]
    | some (.int k) => some [.i k]
    | some .string => some [.s]
    | some (.struct fs) => if P.stoodInHeld t then none else flatFs P (flatK P d) fs.toList 0
    | some (.array n e) => (flatK P d e).bind fun js => if P.cellsOf e = js.length ∧ 0 < js.length then some (List.replicate n js).flatten else none
    | _ => none

def entersB (P : Program) (f : FuncId) : Bool :=
  match P.funcs[f]? with
  | some fn => fn.name != "runtime.NumGoroutine" && fn.body.isSome
  | none => false

def trKd (P : Program) (op : Op) : Option (Kd × List Operand) :=
  match op with
  | .move x => some (.mv, [x])
  | .assign x => some (.mv, [x])
  | .pick c a b => some (.pick, [c, a, b])
  | .alloc e => (zeroP P e).map fun z => (.alloc z, [])
  | .box _ x => some (.box, [x])
  | .build t parts => (zeroP P t).bind fun z => (mapO (placeP P t) (parts.toList.map (·.1))).bind fun pl => if sizedB P t then some (.build z pl, parts.toList.map (·.2)) else none
  | .buildSlice t n parts =>
    match P.underlying t with
    | some (.slice e) => (zeroP P e).bind fun z => if z.length = P.cellsOf e ∧ 0 < P.cellsOf e ∧ n * P.cellsOf e ≤ 16777216 then some (.bsl e (P.cellsOf e) n z (parts.toList.map (·.1)), parts.toList.map (·.2)) else none
    | _ => none
  | .load t a => match P.underlying t with | some d => if isAggD d || P.cellsOf t == 1 then some (.load (P.cellsOf t) (isAggD d), [a]) else none | none => none
  | .store t a x => if (P.info? t).isSome then some (.store (P.cellsOf t), [a, x]) else none
  | .binOp op xt x y _ =>
    match P.underlying xt with
    | some (.int _) => some (.bin op, [x, y])
    | some .string => some (.bin op, [x, y])
    | some .bool => match op with | .eql => some (.beq false, [x, y]) | .neq => some (.beq true, [x, y]) | _ => none
    | some d => if isAggD d && !P.eqGuardType P.depth xt then (flatK P 64 xt).bind fun ks => match op with | .eql => some (.eqs false ks, [x, y]) | .neq => some (.eqs true ks, [x, y]) | _ => none else none
    | none => none
  | .unOp op _ x => some (.un op, [x])
  | .convert src dst x => match P.underlying src, P.underlying dst with | some (.int _), some (.int k) => some (.conv k, [x]) | _, _ => none
  | .makeFunc (.func f) first caps => if first.isEmpty then some (.mkf f, caps.toList) else none
  | .slice t x lo hi mx =>
    if mx.isSome then none else
    match P.underlying t with
    | some (.slice e) => if (P.info? e).isSome then some (.slc (P.cellsOf e) lo.isSome hi.isSome, x :: (lo.toList ++ hi.toList)) else none
    | some .string => some (.sstr lo.isSome hi.isSome, x :: (lo.toList ++ hi.toList))
    | some (.array n e) => if (P.info? e).isSome = true ∧ n ≤ maxLen then some (.sarr (P.cellsOf e) n lo.isSome hi.isSome, x :: (lo.toList ++ hi.toList)) else none
    | _ => none
  | .fieldAddr s x f =>
    match P.underlying s with
    | some (.struct fs) => match fs[f]? with | some fd => if (P.info? fd.type).isSome ∧ P.cellsOf fd.type ≠ 0 then some (.fad fd.offset, [x]) else none | none => none
    | _ => none
  | .field t x f =>
    match P.underlying t with
    | some (.struct fs) => match fs[f]? with | some fd => (match P.underlying fd.type with | some d => some (.fld fd.offset (P.cellsOf fd.type) (isAggD d), [x]) | none => none) | none => none
    | _ => none
  | .indexAddr t x i =>
    match P.underlying t with
    | some (.slice e) => if (P.info? e).isSome then some (.iad (P.cellsOf e), [x, i]) else none
    | some (.array n e) => if (P.info? e).isSome then some (.aad (P.cellsOf e) n, [x, i]) else none
    | _ => none
  | .index t x i =>
    match P.underlying t with
    | some (.array n e) => match P.underlying e with | some d => some (.idx (P.cellsOf e) n (isAggD d), [x, i]) | none => none
    | some .string => some (.sidx, [x, i])
    | _ => none
  | .extract x i => some (.ext i, [x])
  | .makeSlice t l c =>
    match P.underlying t with
    | some (.slice e) => (zeroP P e).bind fun z => if z.length = P.cellsOf e ∧ 0 < P.cellsOf e ∧ 0 < P.bytesOf e then some (.mks e (P.cellsOf e) (P.bytesOf e) z, [l, c]) else none
    | _ => none
  | .makeMap t none => match P.underlying t with | some (.map k e) => some (.mkmap k e, []) | _ => none
  | .lookup t m k ok => match P.underlying t with | some (.map kt e) => (match P.underlying kt with | some .string => (zvP P e).map fun z => (.look kt z ok, [m, k]) | _ => none) | _ => none
  | .mapUpdate t m k v => match P.underlying t with | some (.map kt e) => (match P.underlying kt with | some .string => some (.mset kt e, [m, k, v]) | _ => none) | _ => none
  | .call { callee := .value (.func f), args, .. } => if entersB P f then some (.call f, args.toList) else none
  | .call { callee := .value x, args, .. } => some (.callv, x :: args.toList)
  | .call { callee := .builtin .len, args, argTypes } =>
    match args.toList, argTypes.toList with
    | [x], [t] => (match P.underlying t with | some .string => some (.len 1, [x]) | some (.slice _) => some (.len 0, [x]) | some (.map _ _) => some (.len 2, [x]) | _ => none)
    | _, _ => none
  | .call { callee := .builtin .max, args, .. } => (match args.toList with | [x, y] => some (.bmax, [x, y]) | _ => none)
  | .call { callee := .builtin .append, args, argTypes } =>
    match args.toList, argTypes.toList with
    | [x, y], [t, t'] =>
      if t = t' then
        match P.underlying t with
        | some (.slice e) => (match P.info? e with | some i => (match i.zero with | some z => if z.cells.size = i.size ∧ 0 < i.size ∧ 0 < i.bytes then some (.app e i.size i.bytes, [x, y]) else none | none => none) | none => none)
        | _ => none
      else none
    | _, _ => none
  | .call { callee := .builtin .delete, args, argTypes } =>
    match args.toList, argTypes.toList with
    | [x, y], [t, _] => (match P.underlying t with | some (.map kt _) => (match P.underlying kt with | some .string => some (.mdel kt, [x, y]) | _ => none) | _ => none)
    | _, _ => none
  | _ => none

def trOpd (nt : Nat) : Operand → Option Opd
  | .tmp n => if n < nt then some (.t n) else none
  | .const (.slice none 0 0) => some (.c .nil)
  | .const v => some (.c (.p (.v v)))
  | .func f => some (.c (.p (.clo f [])))
  | .global _ => none

def trGuard (ops : Array Oper) (nt : Nat) : Option (Nat × Bool) → Option (Option (Nat × Bool))
  | none => some none
  | some (j, b) => ((ops[j]?).bind (·.dst)).bind fun t => if t < nt then some (some (t, b)) else none
def dstOk (nt : Nat) : Option Nat → Bool
  | none => true
  | some d => d < nt
def trOp (P : Program) (nt : Nat) (ops : Array Oper) (o : Oper) : Option RG :=
  (trKd P o.op).bind fun kx => (mapO (trOpd nt) kx.2).bind fun as => (trGuard ops nt o.guard).bind fun g => if dstOk nt o.dst then some ⟨o.dst, kx.1, as, g⟩ else none

/-! ### Upholding -/
theorem zp_rep {F : Fz} {v : Value} {p : PV} (h : zp v = some p) : Rep F p v ∧ v.oneCell' = true := by
  unfold zp at h
  split at h
  · cases h
  · cases h
  · cases h; exact ⟨.sl [] [] 0 0 0 0 none [] (by simp) (by simp) (by simp [maxLen]) (by simp) (by simp) (by simp) (by simp) (by simp), rfl⟩
  · rename_i h1 h2 h3
    cases h
    refine ⟨.v _, ?_⟩
    cases v <;> first | rfl | (exact absurd rfl (h1 _)) | (exact absurd rfl (h2 _))
theorem zps_rep {F : Fz} : ∀ {l : List Value} {ps : List PV}, zps l = some ps → RepL F ps l ∧ ∀ y ∈ l, y.oneCell' = true
  | [], ps, h => by simp [zps] at h; subst h; exact ⟨RepL.nil, by simp⟩
  | v :: l, ps, h => by
    simp only [zps, Option.bind_eq_some_iff, Option.map_eq_some_iff] at h
    obtain ⟨p, hp, qs, hq, rfl⟩ := h
    have h1 := zp_rep (F := F) hp
    have h2 := zps_rep (F := F) hq
    exact ⟨RepL.cons h1.1 h2.1, by simp only [List.mem_cons]; rintro y (rfl | hy); exact h1.2; exact h2.2 y hy⟩

theorem FzOn.refl (n : Nat) (F : Fz) : FzOn n F F := ⟨F.le_refl, fun _ _ _ => rfl⟩
theorem FzOn.trans {n m : Nat} {F G H : Fz} (h : FzOn n F G) (k : FzOn m G H) (hn : n ≤ m) : FzOn n F H := ⟨Fz.le_trans h.le k.le, fun b o hb => (k.old b o (by omega)).trans (h.old b o hb)⟩

theorem OwnOk.lt {F : Fz} {w : World} {B : Nat} {m : Option Nat × Nat} {x : Own} (h : OwnOk F w B m x) {b : Nat} (hb : m.1 = some b) : B ≤ b ∧ b < w.heap.size := by
  cases x with
  | box cells fz =>
    obtain ⟨b', cs, ty, h1, h2, h3, _⟩ := h
    rw [h1] at hb; cases hb
    exact ⟨h2, (Array.getElem?_eq_some_iff.1 h3).1⟩
  | row ty es xs fz =>
    obtain ⟨_, ys, h3, _⟩ := h
    exact h3.lt b (by simp [rowVal, hb, Value.ownBlock])
  | mp kt et es =>
    obtain ⟨b', ents, c, h1, h2, h3, _⟩ := h
    rw [h1] at hb; cases hb
    exact ⟨h2, (Array.getElem?_eq_some_iff.1 h3).1⟩

theorem ownsRow_block {w w' : World} {B ty es n : Nat} {v : Value} {ys : List Value} (h : w.ownsRow B ty es v n ys) (hb : ∀ b, v.ownBlock = some b → w'.heap[b]? = w.heap[b]?) : w'.ownsRow B ty es v n ys := by
  refine ⟨h.1, ?_⟩
  rcases h.2 with h2 | ⟨g, cap, cur, rfl, h3, h4, r⟩
  · exact .inl h2
  · exact .inr ⟨g, cap, cur, rfl, h3, by rw [hb g rfl]; exact h4, r⟩

theorem OwnOk.keep {F F' : Fz} {w w' : World} {B : Nat} {m : Option Nat × Nat} {x : Own} (h : OwnOk F w B m x) (hw : ∀ b, m.1 = some b → w'.heap[b]? = w.heap[b]?) (hF : F.le F')
    (hold : ∀ b, m.1 = some b → ∀ o, F' b o = F b o) : OwnOk F' w' B m x := by
  cases x with
  | box cells fz =>
    obtain ⟨b, cs, ty, h1, h2, h3, h4, h5, h6⟩ := h
    exact ⟨b, cs, ty, h1, h2, by rw [hw b h1]; exact h3, h4.mono hF, h5, fun e o => by rw [hold b h1]; exact h6 e o⟩
  | row ty es xs fz =>
    obtain ⟨h1, ys, h2, h3, h4, h5, h6⟩ := h
    refine ⟨h1, ys, ownsRow_block h2 (fun b hb => hw b ?_), h3.mono hF, h4, h5, fun b hb => ⟨fun o y e => ?_, fun e o => ?_⟩⟩
    · unfold rowVal at hb; split at hb
      · rename_i b' e; simp [Value.ownBlock] at hb; subst hb; exact e
      · simp [Value.ownBlock] at hb
    · rw [hold b hb] at e; exact (h6 b hb).1 o y e
    · rw [hold b hb]; exact (h6 b hb).2 e o
  | mp kt et es =>
    obtain ⟨b, ents, c, h1, h2, h3, h4, h5, h6⟩ := h
    exact ⟨b, ents, c, h1, h2, by rw [hw b h1]; exact h3, h4, h5, fun j k p e a1 a2 => ⟨(h6 j k p e a1 a2).1, (h6 j k p e a1 a2).2.mono hF⟩⟩

theorem RepT.mono {F F' : Fz} (h : F.le F') {m : Mp} {t : T} {v : Value} (hr : RepT F m t v) : RepT F' m t v := by
  cases t <;> first | exact Rep.mono h hr | exact hr
theorem RepT.upd {F : Fz} {m : Mp} {t : T} {v : Value} (hr : RepT F m t v) {d : Nat} (hd : t.name ≠ some d) (x : Option Nat × Nat) : RepT F (upd m d x) t v := by
  cases t with
  | p _ => exact hr
  | nil => exact hr
  | own n off => have : n ≠ d := fun e => hd (by simp [T.name, e]); simpa [RepT, Fw.upd, this] using hr
  | row n l => have : n ≠ d := fun e => hd (by simp [T.name, e]); simpa [RepT, Fw.upd, this] using hr
  | rp n es i off => have : n ≠ d := fun e => hd (by simp [T.name, e]); simpa [RepT, Fw.upd, this] using hr
  | mp n => have : n ≠ d := fun e => hd (by simp [T.name, e]); simpa [RepT, Fw.upd, this] using hr

section
variable {B nt : Nat} {w0 : World} {F0 : Fz} {s : St} {a : Act} {w : World} {F : Fz} {m : Mp}

theorem BelowX.trans {B : Nat} {w0 w w' : World} (h : BelowX B w0 w) (hb : Below w.heap.size w w') : BelowX B w0 w' :=
  ⟨hb.os.trans h.os, hb.tape.trans h.tape, hb.output.trans h.output, Nat.le_trans h.size hb.size, fun k hk hne => (hb.block k (Nat.lt_of_lt_of_le hk h.size)).trans (h.block k hk hne)⟩
theorem BelowX.below {w0 w : World} (h : BelowX w0.heap.size w0 w) : Below w0.heap.size w0 w := ⟨h.os, h.tape, h.output, h.size, fun k hk => h.block k hk (Nat.ne_of_lt hk)⟩
theorem BelowX.refl (B : Nat) (w : World) : BelowX B w w := ⟨rfl, rfl, rfl, Nat.le_refl _, fun _ _ _ => rfl⟩
theorem InvP.hB (h : InvP B w0 F0 nt s a w F m) : B ≤ w.heap.size := Nat.le_trans h.base h.below.size
theorem InvP.world (h : InvP B w0 F0 nt s a w F m) {w' : World} {F' : Fz} (hb : Below w.heap.size w w') (hF : FzOn w.heap.size F F') (hf : FzIn w' F') : InvP B w0 F0 nt s a w' F' m := by
  have hsz : B ≤ w.heap.size := h.hB
  refine ⟨h.defers, h.size, h.below.trans hb, h.base, h.on.trans hF hsz, hf, fun k hk => (h.tmps k hk).mono hF.le, fun n x hx => ?_, h.inj, h.ownL, h.mfix, h.ntle⟩
  have ho := h.own n x hx
  exact ho.keep (fun b hb' => hb.block b (ho.lt hb').2) hF.le fun b hb' o => hF.old b o (ho.lt hb').2

theorem getD_put (a : Act) (d k : Nat) (v : Value) (hd : d < a.tmps.size) : (a.put (some d) v).tmps.getD k undef = if k = d then v else a.tmps.getD k undef := by
  simp only [Act.put, Array.getD_eq_getD_getElem?, Array.getElem?_setIfInBounds]
  by_cases h : k = d
  · subst h; simp [hd]
  · simp [h, Ne.symm h]

theorem InvP.put (h : InvP B w0 F0 nt s a w F m) {d : Option Nat} {t : T} {v : Value} (hr : RepT F m t v) (hd : dstOk nt d = true) : InvP B w0 F0 nt ⟨putT s.t d t, s.o⟩ (a.put d v) w F m := by
  cases d with
  | none => exact h
  | some d =>
    have hd' : d < nt := by simpa [dstOk] using hd
    refine ⟨h.defers, by simp [Act.put, h.size], h.below, h.base, h.on, h.fin, fun k hk => ?_, h.own, h.inj, h.ownL, h.mfix, h.ntle⟩
    rw [getD_put a d k v (by rw [h.size]; exact hd')]
    simp only [putT, Fw.upd]
    by_cases e : k = d
    · subst e; simpa using hr
    · simpa [e] using h.tmps k hk

theorem dstOk_some {d : Nat} (h : d < nt) : dstOk nt (some d) = true := by simpa [dstOk] using h
end

end Go.Fw
