/-
  Operations that may change places: the diamond.
-/
import Derived.Test.YtikgpjnfifnilaaFwO
set_option linter.unusedVariables false
set_option linter.unusedSimpArgs false
namespace Go.Fw
open Go.RowKit

def Kd.allocs : Kd → Bool
  | .box | .alloc _ | .bsl .. | .mks .. | .mkmap .. => true
  | _ => false
/-- Kinds whose deed hangs on the slots alone, not on what the own memory holds. -/
def Kd.slots : Kd → Bool
  | .mv | .ext _ | .bin _ | .fad _ => true
  | _ => false
def Kd.isStore : Kd → Bool
  | .store _ => true
  | _ => false
def Opd.tmp : Opd → Option Nat
  | .t n => some n
  | .c _ => none
def Opd.bare : Opd → Bool
  | .t _ => true
  | .c x => x.name.isNone
def RG.looks (r : RG) : List Nat := r.a.filterMap Opd.tmp ++ (r.g.map (·.1)).toList
def RG.bare (r : RG) : Bool := r.a.all Opd.bare
def apartR (r1 r2 : RG) : Bool :=
  (match r1.d with | some d => !(r2.looks.contains d) && r2.d != some d | none => true) && (match r2.d with | some d => !(r1.looks.contains d) | none => true)
def comm (r1 r2 : RG) : Bool := apartR r1 r2 && r1.bare && r2.bare && ((!r1.k.solo && !r2.k.solo) || (r1.k.slots && r2.k.isStore && r2.d.isNone) || (r1.k.isStore && r1.d.isNone && r2.k.slots))

theorem apartR_spec {r1 r2 : RG} (h : apartR r1 r2 = true) : (∀ d, r1.d = some d → d ∉ r2.looks) ∧ (∀ d, r1.d = some d → r2.d ≠ some d) ∧ (∀ d, r2.d = some d → d ∉ r1.looks) := by
  simp only [apartR, Bool.and_eq_true] at h
  obtain ⟨h1, h2⟩ := h
  refine ⟨fun d hd => ?_, fun d hd => ?_, fun d hd => ?_⟩
  · rw [hd] at h1; simp at h1; exact h1.1
  · rw [hd] at h1; simp at h1; exact h1.2
  · rw [hd] at h2; simpa using h2

theorem lookT_frz (o : Nat → Option Own) (ns : List Nat) (t : T) : lookT (frzO o ns) t = lookT o t := by
  have key : ∀ n, frzO o ns n = o n ∨ frzO o ns n = (o n).map Own.freeze := fun n => by unfold frzO; split; exact .inr rfl; exact .inl rfl
  cases t with
  | p x => rfl
  | nil => rfl
  | own n off => rcases key n with e | e <;> simp only [lookT, e]; cases o n with
    | none => rfl
    | some x => cases x <;> rfl
  | row n l => rcases key n with e | e <;> simp only [lookT, e]; cases o n with
    | none => rfl
    | some x => cases x <;> rfl
  | rp n es i off => rcases key n with e | e <;> simp only [lookT, e]; cases o n with
    | none => rfl
    | some x => cases x <;> rfl
  | mp n => rcases key n with e | e <;> simp only [lookT, e]; cases o n with
    | none => rfl
    | some x => cases x <;> rfl
theorem lookT_upd {o : Nat → Option Own} {d : Nat} {x : Option Own} {t : T} (h : t.name ≠ some d) : lookT (upd o d x) t = lookT o t := by
  cases t <;> simp only [T.name, ne_eq, Option.some.injEq] at h <;> simp [lookT, upd, h]
theorem lookT_newO {o : Nat → Option Own} {d : Option Nat} {x : Option Own} {t : T} (h : x.isSome = true → ∀ k, d = some k → t.name ≠ some k) : lookT (newO o d x) t = lookT o t := by
  unfold newO
  split
  · exact lookT_upd (h rfl _ rfl)
  · rfl
theorem putT_ne {t : Nat → T} {d : Option Nat} {v : T} {k : Nat} (h : d ≠ some k) : putT t d v k = t k := by
  unfold putT
  split
  · rename_i d; exact upd_ne _ _ (fun e => h (by rw [e]))
  · rfl
theorem putT_or (t : Nat → T) (d : Option Nat) (v : T) (k : Nat) : putT t d v k = t k ∨ (putT t d v k = v) := by
  by_cases h : d = some k
  · subst h; exact .inr (upd_same _ _ _)
  · exact .inl (putT_ne h)

/-- What an operation that is no store sees and does. -/
def ActA (P : Program) (r : RG) (s : St) (e : Eff) : Prop :=
  (s.want r.g = some false ∧ e = { v := .p (.v undef) }) ∨
  (s.want r.g = some true ∧ ∃ as, s.resL r.a = some as ∧ SemA P r.k (r.d.getD 0) as e ∧ (e.new.isSome = true → ∃ d, r.d = some d ∧ s.fresh d))

theorem eff_any (s : St) (d : Option Nat) : s.eff d { v := .p (.v undef) } = ⟨putT s.t d (.p (.v undef)), s.o⟩ := by
  simp [St.eff, newO, frzO_nil]

theorem step_iff {P : Program} {r : RG} (hk : r.k.solo = false) {s s' : St} : Step1 P r s s' ↔ ∃ e, ActA P r s e ∧ s' = s.eff r.d e := by
  constructor
  · intro h
    cases h with
    | skip hw => exact ⟨_, .inl ⟨hw, rfl⟩, (eff_any _ _).symm⟩
    | plain as e _ hw ha he hn => exact ⟨e, .inr ⟨hw, as, ha, he, hn⟩, rfl⟩
    | storeBox sz x y n off cells cs a p hk' => rw [hk'] at hk; cases hk
    | storeRow sz x y n es i off ty xs c cs a p hk' => rw [hk'] at hk; cases hk
    | appNil ty es bytes d x y a ys sp hk' => rw [hk'] at hk; cases hk
    | appRow ty es bytes d n x y a xs ys sp fz hk' => rw [hk'] at hk; cases hk
    | mset kt et n x y z a k p cs es hk' => rw [hk'] at hk; cases hk
    | mdel kt et n x y k es hk' => rw [hk'] at hk; cases hk
    | calln f d as ps ty es zs hk' => rw [hk'] at hk; cases hk
    | calli f d n x ys as ps ty es xs zs hk' => rw [hk'] at hk; cases hk
    | callu f n x ys as ps ty es xs zs hk' => rw [hk'] at hk; cases hk
  · rintro ⟨e, h | ⟨hw, as, ha, he, hn⟩, rfl⟩
    · obtain ⟨hw, rfl⟩ := h
      rw [eff_any]; exact .skip r s hw
    · exact .plain r s as e hk hw ha he hn

/-- Two states that look alike to r. -/
structure Alike (r : RG) (s u : St) : Prop where
  want : u.want r.g = s.want r.g
  res : u.resL r.a = s.resL r.a

theorem want_congr {s u : St} {g : Option (Nat × Bool)} (h : ∀ k b, g = some (k, b) → u.t k = s.t k) : u.want g = s.want g := by
  cases g with
  | none => rfl
  | some kb => obtain ⟨k, b⟩ := kb; simp only [St.want, h k b rfl]
theorem resL_congr {s u : St} : ∀ {xs : List Opd}, (∀ x ∈ xs, u.res x = s.res x) → u.resL xs = s.resL xs
  | [], _ => rfl
  | x :: xs, h => by
    simp only [St.resL, h x (by simp), resL_congr (xs := xs) fun y hy => h y (by simp [hy])]

theorem looks_arg {r : RG} {n : Nat} (h : Opd.t n ∈ r.a) : n ∈ r.looks := List.mem_append_left _ (List.mem_filterMap.2 ⟨_, h, rfl⟩)
theorem looks_g {r : RG} {n : Nat} {b : Bool} (h : r.g = some (n, b)) : n ∈ r.looks := List.mem_append_right _ (by simp [h])

/-- After r1's deed, r2 sees what it saw. -/
theorem alike_eff {r1 r2 : RG} {s : St} {e : Eff} (hb : r2.bare = true) (hd : ∀ d, r1.d = some d → d ∉ r2.looks) (hf : e.new.isSome = true → ∀ d, r1.d = some d → s.fresh d) : Alike r2 s (s.eff r1.d e) := by
  have ht : ∀ k, k ∈ r2.looks → (s.eff r1.d e).t k = s.t k := fun k hk => putT_ne fun e' => hd k e' hk
  refine ⟨want_congr fun k b hg => ht k (looks_g hg), resL_congr fun x hx => ?_⟩
  have hev : (s.eff r1.d e).ev x = s.ev x := by
    cases x with
    | t n => exact ht n (looks_arg hx)
    | c y => rfl
  unfold St.res
  rw [hev]
  simp only [St.eff]
  rw [lookT_newO, lookT_frz]
  intro hs k hk
  cases x with
  | t n => exact hf hs k hk n
  | c y =>
    have := List.all_eq_true.1 hb _ hx
    simp only [Opd.bare, Option.isNone_iff_eq_none] at this
    simp [St.ev, this]

theorem ActA.alike {P : Program} {r : RG} {s u : St} {e : Eff} (h : ActA P r s e) (ha : Alike r s u) (hf : e.new.isSome = true → ∀ d, r.d = some d → u.fresh d) : ActA P r u e := by
  rcases h with ⟨hw, rfl⟩ | ⟨hw, as, hr, he, hn⟩
  · exact .inl ⟨by rw [ha.want]; exact hw, rfl⟩
  · refine .inr ⟨by rw [ha.want]; exact hw, as, by rw [ha.res]; exact hr, he, fun hs => ?_⟩
    obtain ⟨d, hd, _⟩ := hn hs
    exact ⟨d, hd, hf hs d hd⟩

theorem lookT_name {o : Nat → Option Own} {t : T} {a : RA} (h : lookT o t = some a) : a.toT.name = t.name := by
  cases t with
  | p x => cases h; rfl
  | nil => cases h; rfl
  | own n off => simp only [lookT] at h; split at h <;> cases h; rfl
  | row n l =>
    simp only [lookT] at h
    split at h
    · split at h <;> cases h; rfl
    · cases h
  | rp n es i off =>
    simp only [lookT] at h
    split at h
    · split at h
      · simp only [Option.map_eq_some_iff] at h; obtain ⟨c, _, rfl⟩ := h; rfl
      · cases h
    · cases h
  | mp n => simp only [lookT] at h; split at h <;> cases h; rfl

theorem frz_name {a : RA} {n : Nat} (h : n ∈ a.frz) : a.toT.name = some n := by
  cases a <;> simp [RA.frz] at h <;> simp [RA.toT, T.name, h]
theorem frzs_name {as : List RA} {n : Nat} (h : n ∈ frzs as) : ∃ a ∈ as, a.toT.name = some n := by
  obtain ⟨a, ha, hn⟩ := List.mem_flatMap.1 h
  exact ⟨a, ha, frz_name hn⟩

theorem resL_mem {s : St} : ∀ {xs : List Opd} {as : List RA}, s.resL xs = some as → ∀ a ∈ as, ∃ x ∈ xs, s.res x = some a
  | [], as, h, a, ha => by cases h; cases ha
  | x :: xs, as, h, a, ha => by
    simp only [St.resL, Option.bind_eq_some_iff, Option.map_eq_some_iff] at h
    obtain ⟨b, hb, bs, hbs, rfl⟩ := h
    rcases List.mem_cons.1 ha with rfl | ha
    · exact ⟨x, by simp, hb⟩
    · obtain ⟨y, hy, hya⟩ := resL_mem hbs a ha
      exact ⟨y, by simp [hy], hya⟩

/-- Where names come from. -/
structure Names (d : Nat) (as : List RA) (e : Eff) (al : Bool) : Prop where
  v : ∀ n, e.v.name = some n → (n = d ∧ e.new.isSome = true) ∨ ∃ a ∈ as, a.toT.name = some n
  f : ∀ n ∈ e.frz, ∃ a ∈ as, a.toT.name = some n
  al : e.new.isSome = true → al = true

theorem Names.pure {d : Nat} {as : List RA} {x : PV} {fs : List Nat} {al : Bool} (h : ∀ n ∈ fs, ∃ a ∈ as, a.toT.name = some n) : Names d as { v := .p x, frz := fs } al :=
  ⟨fun n hn => by simp [T.name] at hn, h, fun h => by simp at h⟩

theorem Names.bind {α : Type} {d : Nat} {as : List RA} {al : Bool} {x : Option α} {f : α → Option Eff} {e : Eff} (h : x.bind f = some e) (hf : ∀ a, f a = some e → Names d as e al) : Names d as e al := by
  obtain ⟨a, _, ha⟩ := Option.bind_eq_some_iff.1 h
  exact hf a ha
theorem Names.map {α : Type} {d : Nat} {as : List RA} {al : Bool} {x : Option α} {f : α → Eff} {e : Eff} (h : x.map f = some e) (hf : ∀ a, Names d as (f a) al) : Names d as e al := by
  obtain ⟨a, _, rfl⟩ := Option.map_eq_some_iff.1 h
  exact hf a
theorem Names.ite {c : Prop} [Decidable c] {d : Nat} {as : List RA} {al : Bool} {x y : Option Eff} {e : Eff} (h : (if c then x else y) = some e) (h1 : x = some e → Names d as e al) (h2 : y = some e → Names d as e al) : Names d as e al := by
  split at h
  · exact h1 h
  · exact h2 h
theorem Names.dite {c : Prop} [Decidable c] {d : Nat} {as : List RA} {al : Bool} {x : c → Option Eff} {y : ¬ c → Option Eff} {e : Eff} (h : (if h : c then x h else y h) = some e) (h1 : ∀ k, x k = some e → Names d as e al) (h2 : ∀ k, y k = some e → Names d as e al) : Names d as e al := by
  split at h
  · exact h1 _ h
  · exact h2 _ h
theorem Names.none {d : Nat} {as : List RA} {al : Bool} {e : Eff} (h : Option.none = some e) : Names d as e al := by cases h
theorem Names.frzs {d : Nat} {as : List RA} {x : PV} {al : Bool} : Names d as { v := .p x, frz := frzs as } al := .pure fun _ h => frzs_name h
theorem Names.p {d : Nat} {as : List RA} {x : PV} {al : Bool} : Names d as { v := .p x } al := .pure fun _ h => by cases h

theorem sem_names {k : Kd} {d : Nat} {as : List RA} {e : Eff} (h : sem k d as = some e) : Names d as e k.allocs := by
  have new : ∀ {t : T} {x : Own} {fs : List Nat}, t.name = some d → (∀ n ∈ fs, ∃ a ∈ as, a.toT.name = some n) → Names d as { v := t, new := some x, frz := fs } true := fun ht hf =>
    ⟨fun n hn => by rw [ht] at hn; cases hn; exact .inl ⟨rfl, rfl⟩, hf, fun _ => rfl⟩
  have old : ∀ {t : T} {a : RA} {al : Bool}, a ∈ as → t.name = a.toT.name → Names d as { v := t } al := fun ha ht =>
    ⟨fun n hn => .inr ⟨_, ha, by rw [← ht]; exact hn⟩, fun n hn => (by cases hn), fun h => (by cases h)⟩
  cases k <;> simp only [sem] at h
  case mv => split at h <;> first | exact .none h | (cases h; exact old (by simp) rfl)
  case pick =>
    split at h
    · rename_i c a b; cases h; cases c
      · exact old (a := b) (by simp) rfl
      · exact old (a := a) (by simp) rfl
    · exact .none h
  case box =>
    split at h
    · exact .bind h fun _ h => .map h fun _ => new rfl fun n hn => ⟨_, by simp, frz_name hn⟩
    · exact .none h
  case alloc => split at h <;> first | exact .none h | (cases h; exact new rfl (by simp))
  case build => exact .bind h fun _ h => .ite h (fun h => .map h fun _ => .frzs) .none
  case bsl => exact .bind h fun _ h => .ite h (fun h => .map h fun _ => new rfl fun _ h => frzs_name h) .none
  case load => split at h <;> first | exact .none h | exact .map h fun _ => .p
  case bin => split at h <;> first | exact .none h | exact .map h fun _ => .p
  case beq => split at h <;> first | exact .none h | (cases h; exact .p)
  case eqs => split at h <;> first | exact .none h | exact .map h fun _ => .p
  case un => split at h <;> first | exact .none h | (cases h; exact .p)
  case conv => split at h <;> first | exact .none h | (cases h; exact .p)
  case mkf => exact .map h fun _ => .frzs
  case fad =>
    split at h
    · cases h; exact old (List.Mem.head _) rfl
    · cases h; exact old (List.Mem.head _) rfl
    · cases h; exact .p
    · exact .none h
  case fld => split at h <;> first | exact .none h | exact .map h fun _ => .p
  case iad =>
    split at h
    · exact .ite h (fun h => by cases h; exact old (List.Mem.head _) rfl) .none
    · exact .ite h (fun h => .bind h fun _ h => .ite h (fun h => by cases h; exact .p) .none) .none
    · exact .none h
  case aad =>
    split at h
    · exact .ite h (fun h => by cases h; exact old (List.Mem.head _) rfl) .none
    · exact .ite h (fun h => by cases h; exact .p) .none
    · exact .none h
  case idx => split at h <;> first | exact .none h | exact .ite h (fun h => .map h fun _ => .p) .none
  case sidx => split at h <;> first | exact .none h | exact .dite h (fun _ h => by cases h; exact .p) (fun _ => .none)
  case slc =>
    split at h
    · exact .bind h fun _ h => .ite h (fun h => by cases h; exact .p) .none
    · exact .bind h fun _ h => .ite h (fun h => by cases h; exact old (List.Mem.head _) rfl) fun h => .ite h (fun h => by cases h; exact .pure fun n hn => ⟨_, List.Mem.head _, by simpa [RA.toT, T.name, eq_comm] using hn⟩) .none
    · exact .none h
  case sstr => split at h <;> first | exact .none h | exact .bind h fun _ h => .ite h (fun h => by cases h; exact .p) .none
  case sarr =>
    split at h
    · exact .bind h fun _ h => .ite h (fun h => by cases h; exact .pure fun n hn => ⟨_, List.Mem.head _, by simpa [RA.toT, T.name, eq_comm] using hn⟩) .none
    · exact .none h
  case ext => split at h <;> first | exact .none h | exact .map h fun _ => .p
  case bmax => split at h <;> first | exact .none h | (cases h; exact .p)
  case len => split at h <;> first | exact .none h | (cases h; exact .p)
  case mks => split at h <;> first | exact .none h | exact .ite h (fun h => by cases h; exact new rfl (by simp)) .none
  case mkmap => split at h <;> first | exact .none h | (cases h; exact new rfl (by simp))
  case look =>
    split at h
    · refine .ite h (fun h => ?_) .none
      split at h <;> (cases h; exact .p)
    · exact .none h
  all_goals exact .none h

theorem semA_names {P : Program} {k : Kd} {d : Nat} {as : List RA} {e : Eff} (h : SemA P k d as e) : Names d as e k.allocs := by
  cases k <;> simp only [SemA] at h <;> first | exact sem_names h | skip
  case call f => obtain ⟨ps, r, _, _, rfl⟩ := h; exact .frzs
  case callv => obtain ⟨f, caps, rest, ps, r, _, _, _, rfl⟩ := h; exact .frzs

/-- What the args' names are. -/
theorem arg_fresh {s : St} {r : RG} (hb : r.bare = true) {as : List RA} (h : s.resL r.a = some as) {d : Nat} (hf : s.fresh d) : ∀ a ∈ as, a.toT.name ≠ some d := by
  intro a ha
  obtain ⟨x, hx, hr⟩ := resL_mem h a ha
  rw [lookT_name hr]
  cases x with
  | t n => exact hf n
  | c y =>
    have := List.all_eq_true.1 hb _ hx
    simp only [Opd.bare, Option.isNone_iff_eq_none] at this
    simp [St.ev, this]

/-- A name that is fresh stays so, but for the one that is made. -/
theorem ActA.fresh {P : Program} {r : RG} {s : St} {e : Eff} (h : ActA P r s e) (hb : r.bare = true) {d : Nat} (hf : s.fresh d) (hd : r.d ≠ some d) : (s.eff r.d e).fresh d := by
  intro k
  rcases putT_or s.t r.d e.v k with hk | hk
  · simp only [St.eff, hk]; exact hf k
  · simp only [St.eff, hk]
    rcases h with ⟨_, rfl⟩ | ⟨_, as, hr, he, hn⟩
    · simp [T.name]
    · intro hv
      rcases (semA_names he).v d hv with ⟨h1, h2⟩ | ⟨a, ha, han⟩
      · obtain ⟨d', hd', _⟩ := hn h2
        rw [hd'] at hd h1
        simp at h1
        exact hd (by rw [h1])
      · exact arg_fresh hb hr hf a ha han
theorem ActA.frz {P : Program} {r : RG} {s : St} {e : Eff} (h : ActA P r s e) (hb : r.bare = true) {d : Nat} (hf : s.fresh d) : d ∉ e.frz := by
  rcases h with ⟨_, rfl⟩ | ⟨_, as, hr, he, hn⟩
  · simp
  · intro hv
    obtain ⟨a, ha, han⟩ := (semA_names he).f d hv
    exact arg_fresh hb hr hf a ha han
theorem ActA.allocs {P : Program} {r : RG} {s : St} {e : Eff} (h : ActA P r s e) (hn : e.new.isSome = true) : r.k.allocs = true := by
  rcases h with ⟨_, rfl⟩ | ⟨_, as, hr, he, _⟩
  · cases hn
  · exact (semA_names he).al hn
theorem ActA.new {P : Program} {r : RG} {s : St} {e : Eff} (h : ActA P r s e) (hn : e.new.isSome = true) : ∃ d, r.d = some d ∧ s.fresh d := by
  rcases h with ⟨_, rfl⟩ | ⟨_, as, hr, he, h⟩
  · cases hn
  · exact h hn

theorem eff_comm {s : St} {d1 d2 : Option Nat} {e1 e2 : Eff} (hd : ∀ d, d1 = some d → d2 ≠ some d) (h1 : e1.new.isSome = true → ∀ d, d1 = some d → d ∉ e2.frz) (h2 : e2.new.isSome = true → ∀ d, d2 = some d → d ∉ e1.frz) :
    (s.eff d1 e1).eff d2 e2 = (s.eff d2 e2).eff d1 e1 := by
  have hne : ∀ a b, d1 = some a → d2 = some b → a ≠ b := fun a b ha hb e => hd a ha (by rw [hb, e])
  simp only [St.eff, St.mk.injEq]
  constructor
  · cases d1 <;> cases d2 <;> simp only [putT]
    exact upd_comm _ _ _ (hne _ _ rfl rfl)
  · have hmm : ∀ x : Option Own, (x.map Own.freeze).map Own.freeze = x.map Own.freeze := fun x => by cases x with
      | none => rfl
      | some x => cases x <;> rfl
    obtain ⟨v1, n1, f1⟩ := e1
    obtain ⟨v2, n2, f2⟩ := e2
    funext k
    cases d1 with
    | none =>
      cases d2 with
      | none => simp only [newO, frzO]; by_cases a1 : k ∈ f1 <;> by_cases a2 : k ∈ f2 <;> simp [a1, a2, hmm]
      | some d2 =>
        cases n2 with
        | none => simp only [newO, frzO]; by_cases a1 : k ∈ f1 <;> by_cases a2 : k ∈ f2 <;> simp [a1, a2, hmm]
        | some n2 =>
          have b2 := h2 rfl _ rfl
          simp only [newO, frzO, upd]
          by_cases c2 : k = d2
          · subst c2; simp at b2; simp [b2]
          · by_cases a1 : k ∈ f1 <;> by_cases a2 : k ∈ f2 <;> simp [a1, a2, hmm, c2]
    | some d1 =>
      cases n1 with
      | none =>
        cases d2 with
        | none => simp only [newO, frzO]; by_cases a1 : k ∈ f1 <;> by_cases a2 : k ∈ f2 <;> simp [a1, a2, hmm]
        | some d2 =>
          cases n2 with
          | none => simp only [newO, frzO]; by_cases a1 : k ∈ f1 <;> by_cases a2 : k ∈ f2 <;> simp [a1, a2, hmm]
          | some n2 =>
            have b2 := h2 rfl _ rfl
            simp only [newO, frzO, upd]
            by_cases c2 : k = d2
            · subst c2; simp at b2; simp [b2]
            · by_cases a1 : k ∈ f1 <;> by_cases a2 : k ∈ f2 <;> simp [a1, a2, hmm, c2]
      | some n1 =>
        have b1 := h1 rfl _ rfl
        cases d2 with
        | none =>
          simp only [newO, frzO, upd]
          by_cases c1 : k = d1
          · subst c1; simp at b1; simp [b1]
          · by_cases a1 : k ∈ f1 <;> by_cases a2 : k ∈ f2 <;> simp [a1, a2, hmm, c1]
        | some d2 =>
          have hn := hne _ _ rfl rfl
          cases n2 with
          | none =>
            simp only [newO, frzO, upd]
            by_cases c1 : k = d1
            · subst c1; simp at b1; simp [b1]
            · by_cases a1 : k ∈ f1 <;> by_cases a2 : k ∈ f2 <;> simp [a1, a2, hmm, c1]
          | some n2 =>
            have b2 := h2 rfl _ rfl
            simp only [newO, frzO, upd]
            by_cases c1 : k = d1
            · subst c1; simp at b1; simp [b1, hn]
            · by_cases c2 : k = d2
              · subst c2; simp at b2; simp [b2, c1]
              · by_cases a1 : k ∈ f1 <;> by_cases a2 : k ∈ f2 <;> simp [a1, a2, hmm, c1, c2]

/-- THE DIAMOND, of two operations that are no stores. -/
theorem diamondA {P : Program} {r1 r2 : RG} {s s1 s2 : St} (ha : apartR r1 r2 = true) (hb1 : r1.bare = true) (hb2 : r2.bare = true) (hk1 : r1.k.solo = false) (hk2 : r2.k.solo = false) (hf2 : r2.k.allocs = true → ∀ d, r2.d = some d → s.fresh d)
    (h1 : Step1 P r1 s s1) (h2 : Step1 P r2 s1 s2) : ∃ t, Step1 P r2 s t ∧ Step1 P r1 t s2 := by
  obtain ⟨p1, p2, p3⟩ := apartR_spec ha
  obtain ⟨e1, a1, rfl⟩ := (step_iff hk1).1 h1
  obtain ⟨e2, a2, rfl⟩ := (step_iff hk2).1 h2
  have f1 : e1.new.isSome = true → ∀ d, r1.d = some d → s.fresh d := fun hn d hd => by
    obtain ⟨d', hd', hf⟩ := a1.new hn
    rw [hd] at hd'; cases hd'; exact hf
  have f2 : e2.new.isSome = true → ∀ d, r2.d = some d → s.fresh d := fun hn d hd => hf2 (a2.allocs hn) d hd
  have al2 := alike_eff (r1 := r1) (r2 := r2) (s := s) (e := e1) hb2 p1 f1
  have a2' : ActA P r2 s e2 := by
    refine a2.alike ⟨al2.want.symm, al2.res.symm⟩ f2
  have al1 := alike_eff (r1 := r2) (r2 := r1) (s := s) (e := e2) hb1 p3 f2
  have a1' : ActA P r1 (s.eff r2.d e2) e1 := a1.alike al1 fun hn d hd => a2'.fresh hb2 (f1 hn d hd) (p2 d hd)
  refine ⟨s.eff r2.d e2, (step_iff hk2).2 ⟨e2, a2', rfl⟩, (step_iff hk1).2 ⟨e1, a1', ?_⟩⟩
  exact eff_comm p2 (fun hn d hd => a2'.frz hb2 (f1 hn d hd)) (fun hn d hd => a1.frz hb1 (f2 hn d hd))

end Go.Fw
