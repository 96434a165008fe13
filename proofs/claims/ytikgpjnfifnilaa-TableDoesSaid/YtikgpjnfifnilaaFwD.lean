/-
  Freezing own memory; an operation's operands as they stand in the model.
-/
import Derived.Test.YtikgpjnfifnilaaFwC
set_option linter.unusedVariables false
set_option linter.unusedSimpArgs false
namespace Go.Fw
open Go.RowKit

def Own.flat : Own → List PV
  | .box cs _ => cs
  | .row _ _ xs _ => xs.flatten
  | .mp _ _ _ => []
theorem Own.flat_freeze (x : Own) : x.freeze.flat = x.flat := by cases x <;> rfl
theorem Own.freeze_freeze (x : Own) : x.freeze.freeze = x.freeze := by cases x <;> rfl

/-- The cells of an own memory are frozen in F. -/
def Filled (F : Fz) (m : Option Nat × Nat) (x : Own) : Prop :=
  ∃ ys, RepL F x.flat ys ∧ (∀ y ∈ ys, y.oneCell' = true) ∧ ∀ b, m.1 = some b → ∀ (j : Nat) (y : Value), ys[j]? = some y → F b j = some y
theorem Filled.mono {F F' : Fz} (h : F.le F') {m : Option Nat × Nat} {x : Own} (k : Filled F m x) : Filled F' m x := by
  obtain ⟨ys, h1, h2, h3⟩ := k
  exact ⟨ys, h1.mono h, h2, fun b hb j y e => h _ _ _ (h3 b hb j y e)⟩

theorem cell_of_cells {w : World} {b j : Nat} {cs : Array Value} {ty : TypeId} {fr : Nat × Nat} (h : w.heap[b]? = some (.cells cs ty fr)) : w.cell? ⟨b, j, none⟩ = cs[j]? := by
  simp [World.cell?, h]

theorem OwnOk.known {F : Fz} {w : World} {B : Nat} {m : Option Nat × Nat} {x : Own} (h : OwnOk F w B m x) (hf : FzIn w F) :
    (∃ kt et es, x = .mp kt et es) ∨ ∃ ys, RepL F x.flat ys ∧ (∀ y ∈ ys, y.oneCell' = true) ∧ (m.1 = none → ys = []) ∧
      ∀ b, m.1 = some b → (∀ (j : Nat) (y : Value), ys[j]? = some y → w.cell? ⟨b, j, none⟩ = some y) ∧ ∀ o y, F b o = some y → ys[o]? = some y := by
  cases x with
  | box cells fz =>
    obtain ⟨b, cs, ty, h1, h2, h3, h4, h5, h6⟩ := h
    refine .inr ⟨cs.toList, h4, h5, (fun e => by rw [h1] at e; cases e), fun b' hb => ?_⟩
    rw [h1] at hb; cases hb
    refine ⟨fun j y e => by rw [cell_of_cells h3]; simpa using e, fun o y e => ?_⟩
    have := hf b o y e
    rw [cell_of_cells h3] at this
    simpa using this
  | row ty es xs fz =>
    obtain ⟨h1, ys, h2, h3, h4, h5, h6⟩ := h
    refine .inr ⟨ys, h3, h4, fun e => ?_, fun b hb => ?_⟩
    · have hx := h5 e; subst hx
      have := h3.1
      exact List.eq_nil_of_length_eq_zero (by simpa using this)
    · have hc := h2.cells (g := b) (by simp [rowVal, hb, Value.ownBlock])
      have hc' : ∀ (j : Nat) (y : Value), ys[j]? = some y → w.cell? ⟨b, j, none⟩ = some y := fun j y e => by
        have := hc j y e
        rwa [show (⟨b, 0, none⟩ : Addr).add j = ⟨b, j, none⟩ by unfold Addr.add; split <;> simp_all] at this
      refine ⟨hc', fun o y e => ?_⟩
      have hlt := (h6 b hb).1 o y e
      have hl : ys.length = xs.length * es := h2.1
      have hoy : o < ys.length := by omega
      have h7 := hc' o ys[o] (by simp [hoy])
      have h8 := hf b o y e
      rw [h7] at h8
      cases h8
      simp [hoy]
  | mp kt et es => exact .inl ⟨kt, et, es, rfl⟩

def frz1 (o : Nat → Option Own) (n : Nat) : Nat → Option Own := fun k => if k = n then (o k).map Own.freeze else o k
theorem frzO_nil (o : Nat → Option Own) : frzO o [] = o := by funext k; simp [frzO]
theorem frzO_cons (o : Nat → Option Own) (n : Nat) (ns : List Nat) : frzO o (n :: ns) = frzO (frz1 o n) ns := by
  funext k
  simp only [frzO, frz1, List.mem_cons]
  by_cases h1 : k = n <;> by_cases h2 : k ∈ ns <;> simp [h1, h2]
  · subst h1; simp [h2]; cases o k <;> simp [Own.freeze_freeze]
  · subst h1; simp [h2]

section
variable {B nt : Nat} {w0 : World} {F0 : Fz} {s : St} {a : Act} {w : World} {F : Fz} {m : Mp}

theorem InvP.frz1 (h : InvP B w0 F0 nt s a w F m) (n : Nat) :
    ∃ F', InvP B w0 F0 nt ⟨s.t, frz1 s.o n⟩ a w F' m ∧ F.le F' ∧ ∀ x, s.o n = some x → Filled F' (m n) x := by
  have hB : B ≤ w.heap.size := h.hB
  cases hx : s.o n with
  | none =>
    refine ⟨F, ?_, F.le_refl, fun x e => by cases e⟩
    have : Fw.frz1 s.o n = s.o := by funext k; simp only [Fw.frz1]; split; rename_i e; subst e; simp [hx]; rfl
    rw [this]; exact h
  | some x =>
    have ho := h.own n x hx
    rcases ho.known h.fin with ⟨kt, et, es, rfl⟩ | ⟨ys, hr, h1, hnil, hk⟩
    · refine ⟨F, ?_, F.le_refl, fun x e => ?_⟩
      · have : Fw.frz1 s.o n = s.o := by funext k; simp only [Fw.frz1]; split; rename_i e; subst e; simp [hx, Own.freeze]; rfl
        rw [this]; exact h
      · cases e; exact ⟨[], RepL.nil, by simp, fun b _ j y e => by simp at e⟩
    · cases hb : (m n).1 with
      | none =>
        refine ⟨F, ⟨h.defers, h.size, h.below, h.base, h.on, h.fin, h.tmps, fun k z hz => ?_, fun k k' b hk1 hk2 => h.inj k k' b ?_ ?_, fun k b hk1 => h.ownL k b ?_, h.mfix, h.ntle⟩, F.le_refl, fun z e => ?_⟩
        · simp only [Fw.frz1] at hz
          split at hz
          · rename_i e; subst e
            rw [hx] at hz; cases hz
            cases x with
            | box cells fz => obtain ⟨b, _, _, e1, _⟩ := ho; rw [hb] at e1; cases e1
            | row ty es xs fz =>
              obtain ⟨g1, ys', g2, g3, g4, g5, g6⟩ := ho
              exact ⟨g1, ys', g2, g3, g4, g5, fun b e => by rw [hb] at e; cases e⟩
            | mp kt et es => exact ho
          · exact h.own k z hz
        · simp only [Fw.frz1] at hk1; split at hk1 <;> simp_all
        · simp only [Fw.frz1] at hk2; split at hk2 <;> simp_all
        · simp only [Fw.frz1] at hk1; split at hk1 <;> simp_all
        · cases e; exact ⟨ys, hr, h1, fun b e => by rw [hb] at e; cases e⟩
      | some b =>
        have hlt := ho.lt hb
        obtain ⟨hc, hf⟩ := hk b hb
        let F' : Fz := fun b' o => if b' = b then ys[o]? else F b' o
        have hle : F.le F' := fun b' o y e => by
          show (if b' = b then ys[o]? else F b' o) = some y
          split
          · rename_i e'; subst e'; exact hf o y e
          · exact e
        have hF' : ∀ b' o, b' ≠ b → F' b' o = F b' o := fun b' o e => by show (if b' = b then _ else _) = _; rw [if_neg e]
        have hFb : ∀ o, F' b o = ys[o]? := fun o => by show (if b = b then _ else _) = _; rw [if_pos rfl]
        refine ⟨F', ⟨h.defers, h.size, h.below, h.base, ⟨Fz.le_trans h.on.le hle, fun b' o e => ?_⟩, fun b' o y e => ?_, fun k hk => (h.tmps k hk).mono hle, fun k z hz => ?_, fun k k' b hk1 hk2 => h.inj k k' b ?_ ?_, fun k b hk1 => h.ownL k b ?_, h.mfix, h.ntle⟩, hle, fun z e => ?_⟩
        · rw [hF' b' o (by omega)]; exact h.on.old b' o e
        · by_cases e' : b' = b
          · subst e'; rw [hFb] at e; exact hc o y e
          · rw [hF' b' o e'] at e; exact h.fin b' o y e
        · simp only [Fw.frz1] at hz
          split at hz
          · rename_i e; subst e
            rw [hx] at hz; cases hz
            cases x with
            | box cells fz =>
              obtain ⟨b', cs, ty, g1, g2, g3, g4, g5, g6⟩ := ho
              exact ⟨b', cs, ty, g1, g2, g3, g4.mono hle, g5, fun e => by cases e⟩
            | row ty es xs fz =>
              obtain ⟨g1, ys', g2, g3, g4, g5, g6⟩ := ho
              refine ⟨g1, ys', g2, g3.mono hle, g4, g5, fun b'' e => ⟨fun o y e' => ?_, fun e => by cases e⟩⟩
              rw [hb] at e; cases e
              rw [hFb] at e'
              have hl := hr.1
              have := (List.getElem?_eq_some_iff.1 e').1
              rw [hl] at this
              simpa [Own.flat, flatten_length g1] using this
            | mp kt et es =>
              obtain ⟨b', ents, c, g1, g2, g3, g4, g5, g6⟩ := ho
              exact ⟨b', ents, c, g1, g2, g3, g4, g5, fun j k p e a1 a2 => ⟨(g6 j k p e a1 a2).1, (g6 j k p e a1 a2).2.mono hle⟩⟩
          · rename_i hkn
            refine (h.own k z hz).keep (fun _ _ => rfl) hle fun b' hb' o => hF' b' o fun e => ?_
            subst e
            exact hkn (h.inj k n b' (by simp [hz]) (by simp [hx]) hb' hb)
        · simp only [Fw.frz1] at hk1; split at hk1 <;> simp_all
        · simp only [Fw.frz1] at hk2; split at hk2 <;> simp_all
        · simp only [Fw.frz1] at hk1; split at hk1 <;> simp_all
        · cases e; exact ⟨ys, hr.mono hle, h1, fun b' e j y e' => by rw [hb] at e; cases e; rw [hFb]; exact e'⟩

theorem InvP.frz (ns : List Nat) : ∀ {s : St} {F : Fz}, InvP B w0 F0 nt s a w F m →
    ∃ F', InvP B w0 F0 nt ⟨s.t, frzO s.o ns⟩ a w F' m ∧ F.le F' ∧ ∀ n ∈ ns, ∀ x, s.o n = some x → Filled F' (m n) x := by
  induction ns with
  | nil => intro s F h; exact ⟨F, by rw [frzO_nil]; exact h, F.le_refl, by simp⟩
  | cons n ns ih =>
    intro s F h
    obtain ⟨F1, h1, hle1, hf1⟩ := h.frz1 n
    obtain ⟨F2, h2, hle2, hf2⟩ := ih h1
    refine ⟨F2, by rw [frzO_cons]; exact h2, Fz.le_trans hle1 hle2, fun k hk x hx => ?_⟩
    rcases List.mem_cons.1 hk with e | hk
    · subst e; exact (hf1 x hx).mono hle2
    · by_cases e : k = n
      · subst e; exact (hf1 x hx).mono hle2
      · exact hf2 k hk x (by simp [Fw.frz1, e, hx])

/-! ### Operands -/
def ArgOk (F : Fz) (w : World) (m : Mp) (ns : List Nat) : RA → Value → Prop
  | .p x, v => Rep F x v
  | .nil, v => v = .slice none 0 0
  | .own n off cells, v => ∃ b ys, (m n).1 = some b ∧ v = .pointer (some ⟨b, off, none⟩) ∧ RepL F cells ys ∧ (∀ y ∈ ys, y.oneCell' = true) ∧
      (∀ (j : Nat) (y : Value), ys[j]? = some y → w.cell? ⟨b, j, none⟩ = some y) ∧ (n ∈ ns → ∀ (j : Nat) (y : Value), ys[j]? = some y → F b j = some y)
  | .row n l es xs, v => v = rowVal (m n) l ∧ ((m n).1 = none → xs = []) ∧ l ≤ xs.length ∧ (∀ x ∈ xs, x.length = es) ∧ ∃ ys, RepL F xs.flatten ys ∧ (∀ y ∈ ys, y.oneCell' = true) ∧
      ∀ b, (m n).1 = some b → xs.length ≤ (m n).2 ∧ (m n).2 ≤ maxLen ∧ (∀ (j : Nat) (y : Value), ys[j]? = some y → w.cell? ⟨b, j, none⟩ = some y) ∧ (n ∈ ns → ∀ (j : Nat) (y : Value), ys[j]? = some y → F b j = some y)
  | .rp n es i off c, v => ∃ b ys, (m n).1 = some b ∧ v = .pointer (some ⟨b, i * es + off, none⟩) ∧ c.length = es ∧ RepL F c ys ∧ (∀ y ∈ ys, y.oneCell' = true) ∧
      ∀ (j : Nat) (y : Value), ys[j]? = some y → w.cell? ⟨b, i * es + j, none⟩ = some y
  | .mp n kt et es, v => ∃ b ents clock, (m n).1 = some b ∧ v = .map (some b) ∧ w.heap[b]? = some (.map ents clock) ∧
      ents.size = es.length ∧ (∀ (j : Nat) (k : ByteArray) (p : PV) (e : MapEntry), es[j]? = some (k, p) → ents[j]? = some e → e.key = .string k ∧ Rep F p e.val)

def ArgsOk (F : Fz) (w : World) (m : Mp) (ns : List Nat) : List RA → List Value → Prop
  | [], [] => True
  | a :: as, v :: vs => ArgOk F w m ns a v ∧ ArgsOk F w m ns as vs
  | _, _ => False

theorem row_cap {w : World} {B ty es n : Nat} {m : Option Nat × Nat} {ys : List Value} (h : w.ownsRow B ty es (rowVal m n) n ys) {b : Nat} (hb : m.1 = some b) : n ≤ m.2 ∧ m.2 ≤ maxLen := by
  rcases h.2 with ⟨e, _⟩ | ⟨g, cap, cur, e, _, _, h1, h2, _⟩
  · simp [rowVal, hb] at e
  · simp only [rowVal, hb, Value.slice.injEq] at e
    obtain ⟨_, _, rfl⟩ := e
    exact ⟨h1, h2⟩

theorem InvP.arg {o0 : Nat → Option Own} {ns : List Nat} (h : InvP B w0 F0 nt ⟨s.t, frzO o0 ns⟩ a w F m) (hfil : ∀ n ∈ ns, ∀ x, o0 n = some x → Filled F (m n) x) {t : T} {v : Value} {ra : RA}
    (hl : lookT o0 t = some ra) (hr : RepT F m t v) : ArgOk F w m ns ra v := by
  have hown : ∀ n x, o0 n = some x → ∃ x', frzO o0 ns n = some x' ∧ x'.flat = x.flat ∧ (x' = x ∨ x' = x.freeze) := fun n x e => by
    by_cases hn : n ∈ ns
    · exact ⟨x.freeze, by simp [frzO, hn, e], x.flat_freeze, .inr rfl⟩
    · exact ⟨x, by simp [frzO, hn, e], rfl, .inl rfl⟩
  cases t with
  | p x => cases hl; exact hr
  | nil => cases hl; exact hr
  | own n off =>
    simp only [lookT] at hl
    split at hl
    · rename_i cells fz e
      cases hl
      obtain ⟨x', hx', hfl, hor⟩ := hown n _ e
      have ho := h.own n x' hx'
      obtain ⟨b, hb, rfl⟩ := hr
      rcases ho.known h.fin with ⟨kt, et, es, rfl⟩ | ⟨ys, hr, h1, _, hk⟩
      · rcases hor with e | e <;> cases e
      · rw [hfl] at hr
        by_cases hn : n ∈ ns
        · obtain ⟨zs, hr2, h12, hz⟩ := hfil n hn _ e
          refine ⟨b, zs, hb, rfl, hr2, h12, fun j y e => h.fin b j y (hz b hb j y e), fun _ => hz b hb⟩
        · exact ⟨b, ys, hb, rfl, hr, h1, (hk b hb).1, fun e => absurd e hn⟩
    · cases hl
  | row n l =>
    simp only [lookT] at hl
    split at hl
    · rename_i ty es xs fz e
      split at hl
      · rename_i hle
        cases hl
        obtain ⟨x', hx', hfl, hor⟩ := hown n _ e
        have ho := h.own n x' hx'
        have hrow : ∃ fz', OwnOk F w B (m n) (.row ty es xs fz') := by rcases hor with rfl | rfl <;> exact ⟨_, ho⟩
        obtain ⟨fz', g1, ys, g2, g3, g4, g5, g6⟩ := hrow
        obtain ⟨rfl, hnil⟩ := hr
        refine ⟨rfl, g5, hle, g1, ?_⟩
        by_cases hn : n ∈ ns
        · obtain ⟨zs, hr2, h12, hz⟩ := hfil n hn _ e
          refine ⟨zs, hr2, h12, fun b hb => ⟨(row_cap g2 hb).1, (row_cap g2 hb).2, fun j y e => h.fin b j y (hz b hb j y e), fun _ => hz b hb⟩⟩
        · refine ⟨ys, g3, g4, fun b hb => ⟨(row_cap g2 hb).1, (row_cap g2 hb).2, fun j y e => ?_, fun e => absurd e hn⟩⟩
          have := g2.cells (g := b) (by simp [rowVal, hb, Value.ownBlock]) j y e
          rwa [show (⟨b, 0, none⟩ : Addr).add j = ⟨b, j, none⟩ by unfold Addr.add; split <;> simp_all] at this
      · cases hl
    · cases hl
  | rp n es i off =>
    simp only [lookT] at hl
    split at hl
    · rename_i ty es' xs fz e
      split at hl
      · rename_i hes
        subst hes
        simp only [Option.map_eq_some_iff] at hl
        obtain ⟨c, hc, rfl⟩ := hl
        obtain ⟨x', hx', hfl, hor⟩ := hown n _ e
        have ho := h.own n x' hx'
        have hrow : ∃ fz', OwnOk F w B (m n) (.row ty es' xs fz') := by rcases hor with rfl | rfl <;> exact ⟨_, ho⟩
        obtain ⟨fz', g1, ys, g2, g3, g4, g5, g6⟩ := hrow
        obtain ⟨b, hb, rfl⟩ := hr
        have hcl : c.length = es' := g1 c (List.mem_of_getElem? hc)
        have hget : ∀ j, j < es' → xs.flatten[i * es' + j]? = c[j]? := fun j hj => by rw [flatten_get g1 i j hj, hc]; rfl
        refine ⟨b, (ys.drop (i * es')).take es', hb, rfl, hcl, ⟨?_, fun j p y e1 e2 => ?_⟩, fun y hy => g4 y (List.mem_of_mem_drop (List.mem_of_mem_take hy)), fun j y e1 => ?_⟩
        · have hi : i < xs.length := (List.getElem?_eq_some_iff.1 hc).1
          have : (i + 1) * es' ≤ xs.length * es' := Nat.mul_le_mul_right _ hi
          have hl := g2.1
          rw [Nat.succ_mul] at this
          simp only [List.length_take, List.length_drop]
          omega
        · rw [List.getElem?_take] at e2
          split at e2
          · rename_i hj
            rw [List.getElem?_drop] at e2
            exact g3.2 _ p y (by rw [hget j hj]; exact e1) e2
          · cases e2
        · rw [List.getElem?_take] at e1
          split at e1
          · rw [List.getElem?_drop] at e1
            have := g2.cells (g := b) (by simp [rowVal, hb, Value.ownBlock]) _ y e1
            rwa [show (⟨b, 0, none⟩ : Addr).add (i * es' + j) = ⟨b, i * es' + j, none⟩ by unfold Addr.add; split <;> simp_all] at this
          · cases e1
      · cases hl
    · cases hl
  | mp n =>
    simp only [lookT] at hl
    split at hl
    · rename_i kt et es e
      cases hl
      obtain ⟨x', hx', hfl, hor⟩ := hown n _ e
      have ho := h.own n x' hx'
      have hmp : OwnOk F w B (m n) (.mp kt et es) := by rcases hor with rfl | rfl <;> exact ho
      obtain ⟨b, ents, c, g1, g2, g3, g4, g5, g6⟩ := hmp
      obtain ⟨b', hb', rfl⟩ := hr
      rw [g1] at hb'; cases hb'
      exact ⟨b, ents, c, g1, rfl, g3, g5, g6⟩
    · cases hl

theorem ArgOk.pv {ns : List Nat} {ra : RA} {v : Value} (h : ArgOk F w m ns ra v) (hn : ∀ n ∈ ra.frz, n ∈ ns) {p : PV} (hp : ra.pv = some p) : Rep F p v := by
  cases ra with
  | p x => cases hp; exact h
  | nil => cases hp; simp only [ArgOk] at h; subst h; exact .sl [] [] 0 0 0 0 none [] (by simp) (by simp) (by simp [maxLen]) (by simp) (by simp) (by simp) (by simp) (by simp)
  | own n off cells =>
    cases hp
    obtain ⟨b, ys, hb, rfl, h1, h2, h3, h4⟩ := h
    have := Rep.ref (F := F) cells off b 0 ys h1.1 h2 (fun j y e => by rw [Nat.zero_add]; exact h4 (hn n (by simp [RA.frz])) j y e) h1.2
    simpa using this
  | row n l es xs =>
    cases hp
    obtain ⟨rfl, hnil, hle, hw, ys, h1, h2, h3⟩ := h
    have hlen : (xs.take l).length = l := by simp [hle]
    have hap : xs.take l ++ xs.drop l = xs := List.take_append_drop l xs
    cases hb : (m n).1 with
    | none =>
      have := hnil hb
      subst this
      have : l = 0 := by simpa using hle
      subst this
      simp only [rowVal, hb]
      exact .sl [] [] 0 0 0 0 none [] (by simp) (by simp) (by simp [maxLen]) (by simp) (by simp) (by simp) (by simp) (by simp)
    | some b =>
      obtain ⟨k1, k2, k3, k4⟩ := h3 b hb
      have := Rep.sl (F := F) (xs.take l) (xs.drop l) es b 0 (m n).2 (some ⟨b, 0, none⟩) ys (by rw [hap]; exact hw) (by rw [hap]; exact k1) k2 (fun _ => rfl) (by rw [hap]; exact h1.1) h2
        (fun j y e => by rw [Nat.zero_add]; exact k4 (hn n (by simp [RA.frz])) j y e) (by rw [hap]; exact h1.2)
      rw [hlen] at this
      simpa [rowVal, hb] using this
  | rp n es i off c => cases hp
  | mp n kt et es => cases hp

theorem ArgsOk.pvs {ns : List Nat} : ∀ {as : List RA} {vs : List Value}, ArgsOk F w m ns as vs → (∀ n ∈ frzs as, n ∈ ns) → ∀ {ps : List PV}, pvs as = some ps → RepL F ps vs
  | [], [], _, _, ps, h => by cases h; exact RepL.nil
  | a :: as, v :: vs, ⟨h1, h2⟩, hn, ps, h => by
    simp only [Fw.pvs, Option.bind_eq_some_iff, Option.map_eq_some_iff] at h
    obtain ⟨p, hp, qs, hq, rfl⟩ := h
    exact RepL.cons (h1.pv (fun n hn' => hn n (by simp [frzs, hn'])) hp) (h2.pvs (fun n hn' => hn n (by simp only [frzs, List.flatMap_cons, List.mem_append]; exact .inr hn')) hq)
  | [], _ :: _, h, _, _, _ => h.elim
  | _ :: _, [], h, _, _, _ => h.elim

theorem trOpd_rep {x : Operand} {y : Opd} (h : InvP B w0 F0 nt s a w F m) (hx : trOpd nt x = some y) : RepT F m (s.ev y) (a.eval x) := by
  unfold trOpd at hx
  split at hx
  · rename_i n
    split at hx
    · rename_i hn; cases hx; exact h.tmps n hn
    · cases hx
  · cases hx; rfl
  · cases hx; exact Rep.v _
  · cases hx; exact Rep.clo _ [] [] rfl (by simp)
  · cases hx

theorem InvP.args {ns : List Nat} (h : InvP B w0 F0 nt ⟨s.t, frzO s.o ns⟩ a w F m) (hfil : ∀ n ∈ ns, ∀ x, s.o n = some x → Filled F (m n) x) : ∀ {xs : List Operand} {ys : List Opd} {as : List RA},
    mapO (trOpd nt) xs = some ys → s.resL ys = some as → ArgsOk F w m ns as (xs.map a.eval)
  | [], ys, as, h1, h2 => by cases h1; cases h2; trivial
  | x :: xs, ys, as, h1, h2 => by
    simp only [mapO, Option.bind_eq_some_iff, Option.map_eq_some_iff] at h1
    obtain ⟨y, hy, zs, hz, rfl⟩ := h1
    simp only [St.resL, Option.bind_eq_some_iff, Option.map_eq_some_iff] at h2
    obtain ⟨b, hb, bs, hbs, rfl⟩ := h2
    refine ⟨h.arg hfil hb ?_, h.args hfil hz hbs⟩
    have := trOpd_rep h hy
    cases y <;> exact this
end
end Go.Fw
