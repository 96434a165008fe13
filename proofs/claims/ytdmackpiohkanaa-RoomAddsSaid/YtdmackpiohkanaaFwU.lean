/-
  Several texts in one: FwP, FwQ, FwR, FwS, FwT, FwUo.
-/
import Derived.Test.YtdmackpiohkanaaFwO
import Derived.Laws.BitsLemmas
set_option linter.unusedVariables false
set_option linter.unusedSimpArgs false
namespace Go.Fw
open Go.RowKit

def Kd.allocs : Kd → Bool
  | .box | .alloc _ | .bsl .. | .mks .. | .mkmap .. => true
  | _ => false
def Kd.slots : Kd → Bool
  | .mv | .ext _ | .bin _ | .fad _ => true
  | _ => false
def Kd.isStore : Kd → Bool
  | .store _ => true
  | _ => false
def Opd.tmp : Opd → Option Nat
  | .t n => some n
  | .c _ => none
def Opd.bare : Opd → Bool
  | .t _ => true
  | .c x => x.name.isNone
def RG.looks (r : RG) : List Nat := r.a.filterMap Opd.tmp ++ (r.g.map (·.1)).toList
def RG.bare (r : RG) : Bool := r.a.all Opd.bare
def apartR (r1 r2 : RG) : Bool :=
  (match r1.d with | some d => !(r2.looks.contains d) && r2.d != some d | none => true) && (match r2.d with | some d => !(r1.looks.contains d) | none => true)
def comm (r1 r2 : RG) : Bool := apartR r1 r2 && r1.bare && r2.bare && ((!r1.k.solo && !r2.k.solo) || (r1.k.slots && r2.k.isStore && r2.d.isNone) || (r1.k.isStore && r1.d.isNone && r2.k.slots))

theorem apartR_spec {r1 r2 : RG} (h : apartR r1 r2 = true) : (∀ d, r1.d = some d → d ∉ r2.looks) ∧ (∀ d, r1.d = some d → r2.d ≠ some d) ∧ (∀ d, r2.d = some d → d ∉ r1.looks) := by
  simp only [apartR, Bool.and_eq_true] at h
  obtain ⟨h1, h2⟩ := h
  refine ⟨fun d hd => ?_, fun d hd => ?_, fun d hd => ?_⟩
  · rw [hd] at h1; simp at h1; exact h1.1
  · rw [hd] at h1; simp at h1; exact h1.2
  · rw [hd] at h2; simpa using h2

theorem lookT_frz (o : Nat → Option Own) (ns : List Nat) (t : T) : lookT (frzO o ns) t = lookT o t := by
  have key : ∀ n, frzO o ns n = o n ∨ frzO o ns n = (o n).map Own.freeze := fun n => by unfold frzO; split; exact .inr rfl; exact .inl rfl
  cases t with
  | p x => rfl
  | nil => rfl
  | own n off => rcases key n with e | e <;> simp only [lookT, e]; cases o n with
    | none => rfl
    | some x => cases x <;> rfl
  | row n l => rcases key n with e | e <;> simp only [lookT, e]; cases o n with
    | none => rfl
    | some x => cases x <;> rfl
  | rp n es i off => rcases key n with e | e <;> simp only [lookT, e]; cases o n with
    | none => rfl
    | some x => cases x <;> rfl
  | mp n => rcases key n with e | e <;> simp only [lookT, e]; cases o n with
    | none => rfl
    | some x => cases x <;> rfl
theorem lookT_upd {o : Nat → Option Own} {d : Nat} {x : Option Own} {t : T} (h : t.name ≠ some d) : lookT (upd o d x) t = lookT o t := by
  cases t <;> simp only [T.name, ne_eq, Option.some.injEq] at h <;> simp [lookT, upd, h]
theorem lookT_newO {o : Nat → Option Own} {d : Option Nat} {x : Option Own} {t : T} (h : x.isSome = true → ∀ k, d = some k → t.name ≠ some k) : lookT (newO o d x) t = lookT o t := by
  unfold newO
  split
  · exact lookT_upd (h rfl _ rfl)
  · rfl
theorem putT_ne {t : Nat → T} {d : Option Nat} {v : T} {k : Nat} (h : d ≠ some k) : putT t d v k = t k := by
  unfold putT
  split
  · rename_i d; exact upd_ne _ _ (fun e => h (by rw [e]))
  · rfl
theorem putT_or (t : Nat → T) (d : Option Nat) (v : T) (k : Nat) : putT t d v k = t k ∨ (putT t d v k = v) := by
  by_cases h : d = some k
  · subst h; exact .inr (upd_same _ _ _)
  · exact .inl (putT_ne h)

def ActA (P : Program) (r : RG) (s : St) (e : Eff) : Prop :=
  (s.want r.g = some false ∧ e = { v := .p (.v undef) }) ∨
  (s.want r.g = some true ∧ ∃ as, s.resL r.a = some as ∧ SemA P r.k (r.d.getD 0) as e ∧ (e.new.isSome = true → ∃ d, r.d = some d ∧ s.fresh d))

theorem eff_any (s : St) (d : Option Nat) : s.eff d { v := .p (.v undef) } = ⟨putT s.t d (.p (.v undef)), s.o⟩ := by
  simp [St.eff, newO, frzO_nil]

theorem step_iff {P : Program} {r : RG} (hk : r.k.solo = false) {s s' : St} : Step1 P r s s' ↔ ∃ e, ActA P r s e ∧ s' = s.eff r.d e := by
  constructor
  · intro h
    cases h with
    | skip hw => exact ⟨_, .inl ⟨hw, rfl⟩, (eff_any _ _).symm⟩
    | plain as e _ hw ha he hn => exact ⟨e, .inr ⟨hw, as, ha, he, hn⟩, rfl⟩
    | storeBox sz x y n off cells cs a p hk' => rw [hk'] at hk; cases hk
    | storeRow sz x y n es i off ty xs c cs a p hk' => rw [hk'] at hk; cases hk
    | appNil ty es bytes d x y a ys sp hk' => rw [hk'] at hk; cases hk
    | appRow ty es bytes d n x y a xs ys sp fz hk' => rw [hk'] at hk; cases hk
    | mset kt et n x y z a k p cs es hk' => rw [hk'] at hk; cases hk
    | mdel kt et n x y k es hk' => rw [hk'] at hk; cases hk
    | calln f d as ps ty es zs hk' => rw [hk'] at hk; cases hk
    | calli f d n x ys as ps ty es xs zs hk' => rw [hk'] at hk; cases hk
    | callu f n x ys as ps ty es xs zs hk' => rw [hk'] at hk; cases hk
  · rintro ⟨e, h | ⟨hw, as, ha, he, hn⟩, rfl⟩
    · obtain ⟨hw, rfl⟩ := h
      rw [eff_any]; exact .skip r s hw
    · exact .plain r s as e hk hw ha he hn

structure Alike (r : RG) (s u : St) : Prop where
  want : u.want r.g = s.want r.g
  res : u.resL r.a = s.resL r.a

theorem want_congr {s u : St} {g : Option (Nat × Bool)} (h : ∀ k b, g = some (k, b) → u.t k = s.t k) : u.want g = s.want g := by
  cases g with
  | none => rfl
  | some kb => obtain ⟨k, b⟩ := kb; simp only [St.want, h k b rfl]
theorem resL_congr {s u : St} : ∀ {xs : List Opd}, (∀ x ∈ xs, u.res x = s.res x) → u.resL xs = s.resL xs
  | [], _ => rfl
  | x :: xs, h => by
    simp only [St.resL, h x (by simp), resL_congr (xs := xs) fun y hy => h y (by simp [hy])]

theorem looks_arg {r : RG} {n : Nat} (h : Opd.t n ∈ r.a) : n ∈ r.looks := List.mem_append_left _ (List.mem_filterMap.2 ⟨_, h, rfl⟩)
theorem looks_g {r : RG} {n : Nat} {b : Bool} (h : r.g = some (n, b)) : n ∈ r.looks := List.mem_append_right _ (by simp [h])

theorem alike_eff {r1 r2 : RG} {s : St} {e : Eff} (hb : r2.bare = true) (hd : ∀ d, r1.d = some d → d ∉ r2.looks) (hf : e.new.isSome = true → ∀ d, r1.d = some d → s.fresh d) : Alike r2 s (s.eff r1.d e) := by
  have ht : ∀ k, k ∈ r2.looks → (s.eff r1.d e).t k = s.t k := fun k hk => putT_ne fun e' => hd k e' hk
  refine ⟨want_congr fun k b hg => ht k (looks_g hg), resL_congr fun x hx => ?_⟩
  have hev : (s.eff r1.d e).ev x = s.ev x := by
    cases x with
    | t n => exact ht n (looks_arg hx)
    | c y => rfl
  unfold St.res
  rw [hev]
  simp only [St.eff]
  rw [lookT_newO, lookT_frz]
  intro hs k hk
  cases x with
  | t n => exact hf hs k hk n
  | c y =>
    have := List.all_eq_true.1 hb _ hx
    simp only [Opd.bare, Option.isNone_iff_eq_none] at this
    simp [St.ev, this]

theorem ActA.alike {P : Program} {r : RG} {s u : St} {e : Eff} (h : ActA P r s e) (ha : Alike r s u) (hf : e.new.isSome = true → ∀ d, r.d = some d → u.fresh d) : ActA P r u e := by
  rcases h with ⟨hw, rfl⟩ | ⟨hw, as, hr, he, hn⟩
  · exact .inl ⟨by rw [ha.want]; exact hw, rfl⟩
  · refine .inr ⟨by rw [ha.want]; exact hw, as, by rw [ha.res]; exact hr, he, fun hs => ?_⟩
    obtain ⟨d, hd, _⟩ := hn hs
    exact ⟨d, hd, hf hs d hd⟩

theorem lookT_name {o : Nat → Option Own} {t : T} {a : RA} (h : lookT o t = some a) : a.toT.name = t.name := by
  cases t with
  | p x => cases h; rfl
  | nil => cases h; rfl
  | own n off => simp only [lookT] at h; split at h <;> cases h; rfl
  | row n l =>
    simp only [lookT] at h
    split at h
    · split at h <;> cases h; rfl
    · cases h
  | rp n es i off =>
    simp only [lookT] at h
    split at h
    · split at h
      · simp only [Option.map_eq_some_iff] at h; obtain ⟨c, _, rfl⟩ := h; rfl
      · cases h
    · cases h
  | mp n => simp only [lookT] at h; split at h <;> cases h; rfl

theorem frz_name {a : RA} {n : Nat} (h : n ∈ a.frz) : a.toT.name = some n := by
  cases a <;> simp [RA.frz] at h <;> simp [RA.toT, T.name, h]
theorem frzs_name {as : List RA} {n : Nat} (h : n ∈ frzs as) : ∃ a ∈ as, a.toT.name = some n := by
  obtain ⟨a, ha, hn⟩ := List.mem_flatMap.1 h
  exact ⟨a, ha, frz_name hn⟩

theorem resL_mem {s : St} : ∀ {xs : List Opd} {as : List RA}, s.resL xs = some as → ∀ a ∈ as, ∃ x ∈ xs, s.res x = some a
  | [], as, h, a, ha => by cases h; cases ha
  | x :: xs, as, h, a, ha => by
    simp only [St.resL, Option.bind_eq_some_iff, Option.map_eq_some_iff] at h
    obtain ⟨b, hb, bs, hbs, rfl⟩ := h
    rcases List.mem_cons.1 ha with rfl | ha
    · exact ⟨x, by simp, hb⟩
    · obtain ⟨y, hy, hya⟩ := resL_mem hbs a ha
      exact ⟨y, by simp [hy], hya⟩

structure Names (d : Nat) (as : List RA) (e : Eff) (al : Bool) : Prop where
  v : ∀ n, e.v.name = some n → (n = d ∧ e.new.isSome = true) ∨ ∃ a ∈ as, a.toT.name = some n
  f : ∀ n ∈ e.frz, ∃ a ∈ as, a.toT.name = some n
  al : e.new.isSome = true → al = true

theorem Names.pure {d : Nat} {as : List RA} {x : PV} {fs : List Nat} {al : Bool} (h : ∀ n ∈ fs, ∃ a ∈ as, a.toT.name = some n) : Names d as { v := .p x, frz := fs } al :=
  ⟨fun n hn => by simp [T.name] at hn, h, fun h => by simp at h⟩

theorem Names.bind {α : Type} {d : Nat} {as : List RA} {al : Bool} {x : Option α} {f : α → Option Eff} {e : Eff} (h : x.bind f = some e) (hf : ∀ a, f a = some e → Names d as e al) : Names d as e al := by
  obtain ⟨a, _, ha⟩ := Option.bind_eq_some_iff.1 h
  exact hf a ha
theorem Names.map {α : Type} {d : Nat} {as : List RA} {al : Bool} {x : Option α} {f : α → Eff} {e : Eff} (h : x.map f = some e) (hf : ∀ a, Names d as (f a) al) : Names d as e al := by
  obtain ⟨a, _, rfl⟩ := Option.map_eq_some_iff.1 h
  exact hf a
theorem Names.ite {c : Prop} [Decidable c] {d : Nat} {as : List RA} {al : Bool} {x y : Option Eff} {e : Eff} (h : (if c then x else y) = some e) (h1 : x = some e → Names d as e al) (h2 : y = some e → Names d as e al) : Names d as e al := by
  split at h
  · exact h1 h
  · exact h2 h
theorem Names.dite {c : Prop} [Decidable c] {d : Nat} {as : List RA} {al : Bool} {x : c → Option Eff} {y : ¬ c → Option Eff} {e : Eff} (h : (if h : c then x h else y h) = some e) (h1 : ∀ k, x k = some e → Names d as e al) (h2 : ∀ k, y k = some e → Names d as e al) : Names d as e al := by
  split at h
  · exact h1 _ h
  · exact h2 _ h
theorem Names.none {d : Nat} {as : List RA} {al : Bool} {e : Eff} (h : Option.none = some e) : Names d as e al := by cases h
theorem Names.frzs {d : Nat} {as : List RA} {x : PV} {al : Bool} : Names d as { v := .p x, frz := frzs as } al := .pure fun _ h => frzs_name h
theorem Names.p {d : Nat} {as : List RA} {x : PV} {al : Bool} : Names d as { v := .p x } al := .pure fun _ h => by cases h

theorem sem_names {k : Kd} {d : Nat} {as : List RA} {e : Eff} (h : sem k d as = some e) : Names d as e k.allocs := by
  have new : ∀ {t : T} {x : Own} {fs : List Nat}, t.name = some d → (∀ n ∈ fs, ∃ a ∈ as, a.toT.name = some n) → Names d as { v := t, new := some x, frz := fs } true := fun ht hf =>
    ⟨fun n hn => by rw [ht] at hn; cases hn; exact .inl ⟨rfl, rfl⟩, hf, fun _ => rfl⟩
  have old : ∀ {t : T} {a : RA} {al : Bool}, a ∈ as → t.name = a.toT.name → Names d as { v := t } al := fun ha ht =>
    ⟨fun n hn => .inr ⟨_, ha, by rw [← ht]; exact hn⟩, fun n hn => (by cases hn), fun h => (by cases h)⟩
  cases k <;> simp only [sem] at h
  case mv => split at h <;> first | exact .none h | (cases h; exact old (by simp) rfl)
  case pick =>
    split at h
    · rename_i c a b; cases h; cases c
      · exact old (a := b) (by simp) rfl
      · exact old (a := a) (by simp) rfl
    · exact .none h
  case box =>
    split at h
    · exact .bind h fun _ h => .map h fun _ => new rfl fun n hn => ⟨_, by simp, frz_name hn⟩
    · exact .none h
  case alloc => split at h <;> first | exact .none h | (cases h; exact new rfl (by simp))
  case build => exact .bind h fun _ h => .ite h (fun h => .map h fun _ => .frzs) .none
  case bsl => exact .bind h fun _ h => .ite h (fun h => .map h fun _ => new rfl fun _ h => frzs_name h) .none
  case load => split at h <;> first | exact .none h | exact .map h fun _ => .p
  case bin => split at h <;> first | exact .none h | exact .map h fun _ => .p
  case beq => split at h <;> first | exact .none h | (cases h; exact .p)
  case eqs => split at h <;> first | exact .none h | exact .map h fun _ => .p
  case un => split at h <;> first | exact .none h | (cases h; exact .p)
  case conv => split at h <;> first | exact .none h | (cases h; exact .p)
  case mkf => exact .map h fun _ => .frzs
  case fad =>
    split at h
    · cases h; exact old (List.Mem.head _) rfl
    · cases h; exact old (List.Mem.head _) rfl
    · cases h; exact .p
    · exact .none h
  case fld => split at h <;> first | exact .none h | exact .map h fun _ => .p
  case iad =>
    split at h
    · exact .ite h (fun h => by cases h; exact old (List.Mem.head _) rfl) .none
    · exact .ite h (fun h => .bind h fun _ h => .ite h (fun h => by cases h; exact .p) .none) .none
    · exact .none h
  case aad =>
    split at h
    · exact .ite h (fun h => by cases h; exact old (List.Mem.head _) rfl) .none
    · exact .ite h (fun h => by cases h; exact .p) .none
    · exact .none h
  case idx => split at h <;> first | exact .none h | exact .ite h (fun h => .map h fun _ => .p) .none
  case sidx => split at h <;> first | exact .none h | exact .dite h (fun _ h => by cases h; exact .p) (fun _ => .none)
  case slc =>
    split at h
    · exact .bind h fun _ h => .ite h (fun h => by cases h; exact .p) .none
    · exact .bind h fun _ h => .ite h (fun h => by cases h; exact old (List.Mem.head _) rfl) fun h => .ite h (fun h => by cases h; exact .pure fun n hn => ⟨_, List.Mem.head _, by simpa [RA.toT, T.name, eq_comm] using hn⟩) .none
    · exact .none h
  case sstr => split at h <;> first | exact .none h | exact .bind h fun _ h => .ite h (fun h => by cases h; exact .p) .none
  case sarr =>
    split at h
    · exact .bind h fun _ h => .ite h (fun h => by cases h; exact .pure fun n hn => ⟨_, List.Mem.head _, by simpa [RA.toT, T.name, eq_comm] using hn⟩) .none
    · exact .none h
  case ext => split at h <;> first | exact .none h | exact .map h fun _ => .p
  case bmax => split at h <;> first | exact .none h | (cases h; exact .p)
  case len => split at h <;> first | exact .none h | (cases h; exact .p)
  case mks => split at h <;> first | exact .none h | exact .ite h (fun h => by cases h; exact new rfl (by simp)) .none
  case mkmap => split at h <;> first | exact .none h | (cases h; exact new rfl (by simp))
  case look =>
    split at h
    · refine .ite h (fun h => ?_) .none
      split at h <;> (cases h; exact .p)
    · exact .none h
  all_goals exact .none h

theorem semA_names {P : Program} {k : Kd} {d : Nat} {as : List RA} {e : Eff} (h : SemA P k d as e) : Names d as e k.allocs := by
  cases k <;> simp only [SemA] at h <;> first | exact sem_names h | skip
  case call f => obtain ⟨ps, r, _, _, rfl⟩ := h; exact .frzs
  case callv => obtain ⟨f, caps, rest, ps, r, _, _, _, rfl⟩ := h; exact .frzs

theorem arg_fresh {s : St} {r : RG} (hb : r.bare = true) {as : List RA} (h : s.resL r.a = some as) {d : Nat} (hf : s.fresh d) : ∀ a ∈ as, a.toT.name ≠ some d := by
  intro a ha
  obtain ⟨x, hx, hr⟩ := resL_mem h a ha
  rw [lookT_name hr]
  cases x with
  | t n => exact hf n
  | c y =>
    have := List.all_eq_true.1 hb _ hx
    simp only [Opd.bare, Option.isNone_iff_eq_none] at this
    simp [St.ev, this]

theorem ActA.fresh {P : Program} {r : RG} {s : St} {e : Eff} (h : ActA P r s e) (hb : r.bare = true) {d : Nat} (hf : s.fresh d) (hd : r.d ≠ some d) : (s.eff r.d e).fresh d := by
  intro k
  rcases putT_or s.t r.d e.v k with hk | hk
  · simp only [St.eff, hk]; exact hf k
  · simp only [St.eff, hk]
    rcases h with ⟨_, rfl⟩ | ⟨_, as, hr, he, hn⟩
    · simp [T.name]
    · intro hv
      rcases (semA_names he).v d hv with ⟨h1, h2⟩ | ⟨a, ha, han⟩
      · obtain ⟨d', hd', _⟩ := hn h2
        rw [hd'] at hd h1
        simp at h1
        exact hd (by rw [h1])
      · exact arg_fresh hb hr hf a ha han
theorem ActA.frz {P : Program} {r : RG} {s : St} {e : Eff} (h : ActA P r s e) (hb : r.bare = true) {d : Nat} (hf : s.fresh d) : d ∉ e.frz := by
  rcases h with ⟨_, rfl⟩ | ⟨_, as, hr, he, hn⟩
  · simp
  · intro hv
    obtain ⟨a, ha, han⟩ := (semA_names he).f d hv
    exact arg_fresh hb hr hf a ha han
theorem ActA.allocs {P : Program} {r : RG} {s : St} {e : Eff} (h : ActA P r s e) (hn : e.new.isSome = true) : r.k.allocs = true := by
  rcases h with ⟨_, rfl⟩ | ⟨_, as, hr, he, _⟩
  · cases hn
  · exact (semA_names he).al hn
theorem ActA.new {P : Program} {r : RG} {s : St} {e : Eff} (h : ActA P r s e) (hn : e.new.isSome = true) : ∃ d, r.d = some d ∧ s.fresh d := by
  rcases h with ⟨_, rfl⟩ | ⟨_, as, hr, he, h⟩
  · cases hn
  · exact h hn

theorem eff_comm {s : St} {d1 d2 : Option Nat} {e1 e2 : Eff} (hd : ∀ d, d1 = some d → d2 ≠ some d) (h1 : e1.new.isSome = true → ∀ d, d1 = some d → d ∉ e2.frz) (h2 : e2.new.isSome = true → ∀ d, d2 = some d → d ∉ e1.frz) :
    (s.eff d1 e1).eff d2 e2 = (s.eff d2 e2).eff d1 e1 := by
  have hne : ∀ a b, d1 = some a → d2 = some b → a ≠ b := fun a b ha hb e => hd a ha (by rw [hb, e])
  simp only [St.eff, St.mk.injEq]
  constructor
  · cases d1 <;> cases d2 <;> simp only [putT]
    exact upd_comm _ _ _ (hne _ _ rfl rfl)
  · have hmm : ∀ x : Option Own, (x.map Own.freeze).map Own.freeze = x.map Own.freeze := fun x => by cases x with
      | none => rfl
      | some x => cases x <;> rfl
    obtain ⟨v1, n1, f1⟩ := e1
    obtain ⟨v2, n2, f2⟩ := e2
    funext k
    cases d1 with
    | none =>
      cases d2 with
      | none => simp only [newO, frzO]; by_cases a1 : k ∈ f1 <;> by_cases a2 : k ∈ f2 <;> simp [a1, a2, hmm]
      | some d2 =>
        cases n2 with
        | none => simp only [newO, frzO]; by_cases a1 : k ∈ f1 <;> by_cases a2 : k ∈ f2 <;> simp [a1, a2, hmm]
        | some n2 =>
          have b2 := h2 rfl _ rfl
          simp only [newO, frzO, upd]
          by_cases c2 : k = d2
          · subst c2; simp at b2; simp [b2]
          · by_cases a1 : k ∈ f1 <;> by_cases a2 : k ∈ f2 <;> simp [a1, a2, hmm, c2]
    | some d1 =>
      cases n1 with
      | none =>
        cases d2 with
        | none => simp only [newO, frzO]; by_cases a1 : k ∈ f1 <;> by_cases a2 : k ∈ f2 <;> simp [a1, a2, hmm]
        | some d2 =>
          cases n2 with
          | none => simp only [newO, frzO]; by_cases a1 : k ∈ f1 <;> by_cases a2 : k ∈ f2 <;> simp [a1, a2, hmm]
          | some n2 =>
            have b2 := h2 rfl _ rfl
            simp only [newO, frzO, upd]
            by_cases c2 : k = d2
            · subst c2; simp at b2; simp [b2]
            · by_cases a1 : k ∈ f1 <;> by_cases a2 : k ∈ f2 <;> simp [a1, a2, hmm, c2]
      | some n1 =>
        have b1 := h1 rfl _ rfl
        cases d2 with
        | none =>
          simp only [newO, frzO, upd]
          by_cases c1 : k = d1
          · subst c1; simp at b1; simp [b1]
          · by_cases a1 : k ∈ f1 <;> by_cases a2 : k ∈ f2 <;> simp [a1, a2, hmm, c1]
        | some d2 =>
          have hn := hne _ _ rfl rfl
          cases n2 with
          | none =>
            simp only [newO, frzO, upd]
            by_cases c1 : k = d1
            · subst c1; simp at b1; simp [b1]
            · by_cases a1 : k ∈ f1 <;> by_cases a2 : k ∈ f2 <;> simp [a1, a2, hmm, c1]
          | some n2 =>
            have b2 := h2 rfl _ rfl
            simp only [newO, frzO, upd]
            by_cases c1 : k = d1
            · subst c1; simp at b1; simp [b1, hn]
            · by_cases c2 : k = d2
              · subst c2; simp at b2; simp [b2, c1]
              · by_cases a1 : k ∈ f1 <;> by_cases a2 : k ∈ f2 <;> simp [a1, a2, hmm, c1, c2]

theorem diamondA {P : Program} {r1 r2 : RG} {s s1 s2 : St} (ha : apartR r1 r2 = true) (hb1 : r1.bare = true) (hb2 : r2.bare = true) (hk1 : r1.k.solo = false) (hk2 : r2.k.solo = false) (hf2 : r2.k.allocs = true → ∀ d, r2.d = some d → s.fresh d)
    (h1 : Step1 P r1 s s1) (h2 : Step1 P r2 s1 s2) : ∃ t, Step1 P r2 s t ∧ Step1 P r1 t s2 := by
  obtain ⟨p1, p2, p3⟩ := apartR_spec ha
  obtain ⟨e1, a1, rfl⟩ := (step_iff hk1).1 h1
  obtain ⟨e2, a2, rfl⟩ := (step_iff hk2).1 h2
  have f1 : e1.new.isSome = true → ∀ d, r1.d = some d → s.fresh d := fun hn d hd => by
    obtain ⟨d', hd', hf⟩ := a1.new hn
    rw [hd] at hd'; cases hd'; exact hf
  have f2 : e2.new.isSome = true → ∀ d, r2.d = some d → s.fresh d := fun hn d hd => hf2 (a2.allocs hn) d hd
  have al2 := alike_eff (r1 := r1) (r2 := r2) (s := s) (e := e1) hb2 p1 f1
  have a2' : ActA P r2 s e2 := by
    refine a2.alike ⟨al2.want.symm, al2.res.symm⟩ f2
  have al1 := alike_eff (r1 := r2) (r2 := r1) (s := s) (e := e2) hb1 p3 f2
  have a1' : ActA P r1 (s.eff r2.d e2) e1 := a1.alike al1 fun hn d hd => a2'.fresh hb2 (f1 hn d hd) (p2 d hd)
  refine ⟨s.eff r2.d e2, (step_iff hk2).2 ⟨e2, a2', rfl⟩, (step_iff hk1).2 ⟨e1, a1', ?_⟩⟩
  exact eff_comm p2 (fun hn d hd => a2'.frz hb2 (f1 hn d hd)) (fun hn d hd => a1.frz hb1 (f2 hn d hd))

end Go.Fw

set_option linter.unusedVariables false
set_option linter.unusedSimpArgs false
namespace Go.Fw
open Go.RowKit

def Own.shape : Own → Own → Prop
  | .box c _, .box c' _ => True
  | .row _ es xs _, .row _ es' xs' _ => es' = es ∧ xs'.length = xs.length
  | .mp .., .mp .. => True
  | _, _ => False
theorem Own.shape_freeze (x : Own) : x.shape x.freeze := by cases x <;> simp [Own.shape, Own.freeze]
theorem Own.shape_refl (x : Own) : x.shape x := by cases x <;> simp [Own.shape]

theorem lookT_shape {o o' : Nat → Option Own} (h : ∀ k x, o k = some x → ∃ y, o' k = some y ∧ x.shape y) {t : T} {a : RA} (ha : lookT o t = some a) : ∃ a', lookT o' t = some a' ∧ a'.toT = a.toT ∧ ∀ x, a = .p x → a' = a := by
  cases t with
  | p x => exact ⟨a, ha, rfl, fun _ _ => rfl⟩
  | nil => exact ⟨a, ha, rfl, fun _ _ => rfl⟩
  | own n off =>
    simp only [lookT] at ha
    split at ha
    · rename_i e; cases ha
      obtain ⟨y, hy, hs⟩ := h n _ e
      cases y <;> simp only [Own.shape] at hs
      rename_i c' _
      exact ⟨.own n off c', by simp only [lookT, hy], rfl, fun x hx => by cases hx⟩
    · cases ha
  | row n l =>
    simp only [lookT] at ha
    split at ha
    · rename_i e
      split at ha
      · rename_i hl; cases ha
        obtain ⟨y, hy, hs⟩ := h n _ e
        cases y <;> simp only [Own.shape] at hs
        rename_i es' xs' _
        obtain ⟨rfl, hs⟩ := hs
        exact ⟨.row n l es' xs', by simp only [lookT, hy]; rw [if_pos (by omega)], rfl, fun x hx => by cases hx⟩
      · cases ha
    · cases ha
  | rp n es i off =>
    simp only [lookT] at ha
    split at ha
    · rename_i e
      split at ha
      · rename_i he
        simp only [Option.map_eq_some_iff] at ha
        obtain ⟨c, hc, rfl⟩ := ha
        obtain ⟨y, hy, hs⟩ := h n _ e
        cases y <;> simp only [Own.shape] at hs
        rename_i xs' _
        obtain ⟨rfl, hs⟩ := hs
        have hi : i < xs'.length := by have := (List.getElem?_eq_some_iff.1 hc).1; omega
        exact ⟨.rp n es i off xs'[i], by simp only [lookT, hy]; rw [if_pos he, List.getElem?_eq_getElem hi]; rfl, rfl, fun x hx => by cases hx⟩
      · cases ha
    · cases ha
  | mp n =>
    simp only [lookT] at ha
    split at ha
    · rename_i e; cases ha
      obtain ⟨y, hy, hs⟩ := h n _ e
      cases y <;> simp only [Own.shape] at hs
      rename_i kt' et' es'
      exact ⟨.mp n kt' et' es', by simp only [lookT, hy], rfl, fun x hx => by cases hx⟩
    · cases ha

theorem shape_upd {o : Nat → Option Own} {fs : List Nat} {n : Nat} {x y : Own} (hn : o n = some x) (hs : x.shape y) : ∀ k z, o k = some z → ∃ z', upd (frzO o fs) n (some y) k = some z' ∧ z.shape z' := by
  intro k z hz
  by_cases e : k = n
  · subst e; rw [hn] at hz; cases hz; exact ⟨y, upd_same _ _ _, hs⟩
  · rw [upd_ne _ _ e]
    unfold frzO
    split
    · rw [hz]; exact ⟨_, rfl, z.shape_freeze⟩
    · exact ⟨z, hz, z.shape_refl⟩

theorem resL_plain {s : St} {o' : Nat → Option Own} (ho : ∀ k x, s.o k = some x → ∃ y, o' k = some y ∧ x.shape y) : ∀ {xs : List Opd} {as : List RA}, s.resL xs = some as → (∀ a ∈ as, ∃ x, a = .p x) → (⟨s.t, o'⟩ : St).resL xs = some as
  | [], as, h, _ => by cases h; rfl
  | x :: xs, as, h, hp => by
    simp only [St.resL, Option.bind_eq_some_iff, Option.map_eq_some_iff] at h
    obtain ⟨b, hb, bs, hbs, rfl⟩ := h
    obtain ⟨q, rfl⟩ := hp b (by simp)
    obtain ⟨a', g1, g2, g3⟩ := lookT_shape ho hb
    have g4 := g3 _ rfl
    subst g4
    have h1 : (⟨s.t, o'⟩ : St).res x = some (.p q) := by unfold St.res; cases x <;> exact g1
    simp only [St.resL, h1, resL_plain ho hbs (fun a ha => hp a (by simp [ha]))]
    rfl
theorem ActA.slots {P : Program} {r : RG} {s : St} {e : Eff} (h : ActA P r s e) (hk : r.k.slots = true) {o' : Nat → Option Own} (ho : ∀ k x, s.o k = some x → ∃ y, o' k = some y ∧ x.shape y) : ActA P r ⟨s.t, o'⟩ e ∧ e.new = none ∧ e.frz = [] := by
  rcases h with ⟨hw, rfl⟩ | ⟨hw, as, hr, he, hn⟩
  · exact ⟨.inl ⟨hw, rfl⟩, rfl, rfl⟩
  · cases hkk : r.k <;> rw [hkk] at hk <;> simp only [Kd.slots] at hk <;> try (cases hk; done)
    case mv =>
      rw [hkk] at he
      simp only [SemA, sem] at he
      split at he
      · rename_i a
        cases he
        cases hx : r.a with
        | nil => rw [hx] at hr; simp [St.resL] at hr
        | cons x xs =>
          rw [hx] at hr
          cases xs with
          | cons y ys => simp only [St.resL, Option.bind_eq_some_iff, Option.map_eq_some_iff] at hr; obtain ⟨_, _, l, ⟨_, _, l2, _, rfl⟩, h⟩ := hr; cases h
          | nil =>
            simp only [St.resL, Option.bind_eq_some_iff, Option.map_eq_some_iff] at hr
            obtain ⟨b, hb, l, h1, h2⟩ := hr
            cases h1; cases h2
            obtain ⟨a', g1, g2, g3⟩ := lookT_shape ho hb
            refine ⟨.inr ⟨hw, [a'], ?_, ?_, fun h => by cases h⟩, rfl, rfl⟩
            · rw [hx]; simp only [St.resL]
              have : (⟨s.t, o'⟩ : St).res x = some a' := by unfold St.res; cases x <;> exact g1
              rw [this]; rfl
            · rw [hkk]; simp only [SemA, sem, g2]
      · cases he
    case fad off =>
      rw [hkk] at he
      simp only [SemA] at he
      have key : ∃ a, as = [a] ∧ e.new = none ∧ e.frz = [] ∧ ∀ a' : RA, a'.toT = a.toT → (∀ x, a = .p x → a' = a) → sem (.fad off) (r.d.getD 0) [a'] = some e := by
        simp only [sem] at he
        split at he
        · cases he
          refine ⟨_, rfl, rfl, rfl, fun a' h1 _ => ?_⟩
          cases a' <;> simp only [RA.toT] at h1 <;> cases h1
          rfl
        · cases he
          refine ⟨_, rfl, rfl, rfl, fun a' h1 _ => ?_⟩
          cases a' <;> simp only [RA.toT] at h1 <;> cases h1
          rfl
        · cases he
          refine ⟨_, rfl, rfl, rfl, fun a' _ h2 => ?_⟩
          rw [h2 _ rfl]; rfl
        · cases he
      obtain ⟨a, rfl, e1, e2, hsem⟩ := key
      cases hx : r.a with
      | nil => rw [hx] at hr; simp [St.resL] at hr
      | cons x xs =>
        rw [hx] at hr
        cases xs with
        | cons y ys => simp only [St.resL, Option.bind_eq_some_iff, Option.map_eq_some_iff] at hr; obtain ⟨_, _, l, ⟨_, _, l2, _, rfl⟩, h⟩ := hr; cases h
        | nil =>
          simp only [St.resL, Option.bind_eq_some_iff, Option.map_eq_some_iff] at hr
          obtain ⟨b, hb, l, h1, h2⟩ := hr
          cases h1; cases h2
          obtain ⟨a', g1, g2, g3⟩ := lookT_shape ho hb
          refine ⟨.inr ⟨hw, [a'], ?_, ?_, fun h => by rw [e1] at h; cases h⟩, e1, e2⟩
          · rw [hx]; simp only [St.resL]
            have : (⟨s.t, o'⟩ : St).res x = some a' := by unfold St.res; cases x <;> exact g1
            rw [this]; rfl
          · rw [hkk]; exact hsem a' g2 g3
    case bin op =>
      rw [hkk] at he
      have he0 := he
      simp only [SemA, sem] at he
      split at he
      · rename_i a b
        obtain ⟨v, hv, rfl⟩ := Option.map_eq_some_iff.1 he
        refine ⟨.inr ⟨hw, _, resL_plain ho hr (by intro x hx; simp at hx; rcases hx with rfl | rfl <;> exact ⟨_, rfl⟩), by rw [hkk]; exact he0, fun h => by cases h⟩, rfl, rfl⟩
      · cases he
    case ext i =>
      rw [hkk] at he
      simp only [SemA, sem] at he
      split at he
      · rename_i cs
        obtain ⟨p, hp, rfl⟩ := Option.map_eq_some_iff.1 he
        cases hx : r.a with
        | nil => rw [hx] at hr; simp [St.resL] at hr
        | cons x xs =>
          rw [hx] at hr
          cases xs with
          | cons y ys => simp only [St.resL, Option.bind_eq_some_iff, Option.map_eq_some_iff] at hr; obtain ⟨_, _, l, ⟨_, _, l2, _, rfl⟩, h⟩ := hr; cases h
          | nil =>
            simp only [St.resL, Option.bind_eq_some_iff, Option.map_eq_some_iff] at hr
            obtain ⟨b, hb, l, h1, h2⟩ := hr
            cases h1; cases h2
            obtain ⟨a', g1, g2, g3⟩ := lookT_shape ho hb
            have g4 := g3 _ rfl
            subst g4
            refine ⟨.inr ⟨hw, [.p (.tup cs)], ?_, ?_, fun h => by cases h⟩, rfl, rfl⟩
            · rw [hx]; simp only [St.resL]
              have : (⟨s.t, o'⟩ : St).res x = some (.p (.tup cs)) := by unfold St.res; cases x <;> exact g1
              rw [this]; rfl
            · rw [hkk]; simp only [SemA, sem, hp]; rfl
      · cases he

theorem ev_ne {s : St} {r : RG} {d : Option Nat} {v : T} (hd : ∀ k, d = some k → k ∉ r.looks) {x : Opd} (hx : x ∈ r.a) {o : Nat → Option Own} : (⟨putT s.t d v, o⟩ : St).ev x = s.ev x := by
  cases x with
  | c y => rfl
  | t n => exact putT_ne fun e => hd n e (looks_arg hx)

theorem diamondS {P : Program} {r1 r2 : RG} {s s1 s2 : St} (ha : apartR r1 r2 = true) (hk1 : r1.k.slots = true) (hk2 : r2.k.isStore = true) (hd2 : r2.d = none)
    (h1 : Step1 P r1 s s1) (h2 : Step1 P r2 s1 s2) : ∃ t, Step1 P r2 s t ∧ Step1 P r1 t s2 := by
  obtain ⟨p1, p2, p3⟩ := apartR_spec ha
  have hs1 : r1.k.solo = false := by cases hk : r1.k <;> rw [hk] at hk1 <;> first | rfl | (simp [Kd.slots] at hk1; done)
  have hs2 : r2.k.solo = true := by cases hk : r2.k <;> rw [hk] at hk2 <;> first | rfl | (simp [Kd.isStore] at hk2; done)
  obtain ⟨e1, a1, rfl⟩ := (step_iff hs1).1 h1
  have hb := a1.slots hk1 (o' := s.o) fun k x hx => ⟨x, hx, x.shape_refl⟩
  have hst : s.eff r1.d e1 = ⟨putT s.t r1.d e1.v, s.o⟩ := by simp [St.eff, hb.2.1, hb.2.2, frzO_nil, newO]
  rw [hst] at h2
  have hw : (⟨putT s.t r1.d e1.v, s.o⟩ : St).want r2.g = s.want r2.g := want_congr fun k b hg => putT_ne fun e => p1 k e (looks_g hg)
  have hres : ∀ y ∈ r2.a, (⟨putT s.t r1.d e1.v, s.o⟩ : St).res y = s.res y := fun y hy => by
    unfold St.res; rw [ev_ne p1 hy]
  have fin : ∀ o', (∀ k x, s.o k = some x → ∃ y, o' k = some y ∧ x.shape y) → Step1 P r1 ⟨s.t, o'⟩ ⟨putT s.t r1.d e1.v, o'⟩ := fun o' ho => by
    obtain ⟨g1, g2, g3⟩ := a1.slots hk1 ho
    refine (step_iff hs1).2 ⟨e1, g1, ?_⟩
    simp [St.eff, g2, g3, frzO_nil, newO]
  cases h2 with
  | skip hw2 =>
    refine ⟨s, ?_, ?_⟩
    · have := Step1.skip (P := P) r2 s (by rw [← hw]; exact hw2)
      rw [hd2] at this; exact this
    · rw [hd2]; exact fin s.o fun k x hx => ⟨x, hx, x.shape_refl⟩
  | plain as e hk _ _ _ _ => rw [hs2] at hk; cases hk
  | storeBox sz x y n off cells cs a p hk hd hw2 hra hx ho hy hp hc hl hn =>
    rw [hw] at hw2
    rw [ev_ne p1 (by rw [hra]; simp)] at hx
    rw [hres y (by rw [hra]; simp)] at hy
    exact ⟨_, .storeBox r2 s sz x y n off cells cs a p hk hd hw2 hra hx ho hy hp hc hl hn, fin _ (shape_upd ho trivial)⟩
  | storeRow sz x y n es i off ty xs c cs a p hk hd hw2 hra hx ho hi hy hp hc hl hn =>
    rw [hw] at hw2
    rw [ev_ne p1 (by rw [hra]; simp)] at hx
    rw [hres y (by rw [hra]; simp)] at hy
    exact ⟨_, .storeRow r2 s sz x y n es i off ty xs c cs a p hk hd hw2 hra hx ho hi hy hp hc hl hn, fin _ (shape_upd ho ⟨rfl, by simp⟩)⟩
  | appNil ty es bytes d x y a ys sp hk => rw [hk] at hk2; cases hk2
  | appRow ty es bytes d n x y a xs ys sp fz hk => rw [hk] at hk2; cases hk2
  | mset kt et n x y z a k p cs es hk => rw [hk] at hk2; cases hk2
  | mdel kt et n x y k es hk => rw [hk] at hk2; cases hk2
  | calln f d as ps ty es zs hk => rw [hk] at hk2; cases hk2
  | calli f d n x ys as ps ty es xs zs hk => rw [hk] at hk2; cases hk2
  | callu f n x ys as ps ty es xs zs hk => rw [hk] at hk2; cases hk2

theorem Own.shape_symm {x y : Own} (h : x.shape y) : y.shape x := by
  cases x <;> cases y <;> simp only [Own.shape] at h ⊢
  exact ⟨h.1.symm, h.2.symm⟩
theorem shape_back {o : Nat → Option Own} {fs : List Nat} {n : Nat} {x y : Own} (hn : o n = some x) (hs : x.shape y) : ∀ k z, upd (frzO o fs) n (some y) k = some z → ∃ z', o k = some z' ∧ z.shape z' := by
  intro k z hz
  by_cases e : k = n
  · subst e; rw [upd_same] at hz; cases hz; exact ⟨x, hn, Own.shape_symm hs⟩
  · rw [upd_ne _ _ e] at hz
    unfold frzO at hz
    split at hz
    · obtain ⟨w, hw, rfl⟩ := Option.map_eq_some_iff.1 hz
      exact ⟨w, hw, Own.shape_symm w.shape_freeze⟩
    · exact ⟨z, hz, z.shape_refl⟩
theorem diamondT {P : Program} {r1 r2 : RG} {s s1 s2 : St} (ha : apartR r1 r2 = true) (hk1 : r1.k.isStore = true) (hd1 : r1.d = none) (hk2 : r2.k.slots = true)
    (h1 : Step1 P r1 s s1) (h2 : Step1 P r2 s1 s2) : ∃ t, Step1 P r2 s t ∧ Step1 P r1 t s2 := by
  obtain ⟨p1, p2, p3⟩ := apartR_spec ha
  have hs2 : r2.k.solo = false := by cases hk : r2.k <;> rw [hk] at hk2 <;> first | rfl | (simp [Kd.slots] at hk2; done)
  have hs1 : r1.k.solo = true := by cases hk : r1.k <;> rw [hk] at hk1 <;> first | rfl | (simp [Kd.isStore] at hk1; done)
  obtain ⟨e2, a2, rfl⟩ := (step_iff hs2).1 h2
  have hself := a2.slots hk2 (o' := s1.o) fun k x hx => ⟨x, hx, x.shape_refl⟩
  have hst : s1.eff r2.d e2 = ⟨putT s1.t r2.d e2.v, s1.o⟩ := by simp [St.eff, hself.2.1, hself.2.2, frzO_nil, newO]
  rw [hst]
  -- r2's deed ahead of the store
  have first : s1.t = s.t → (∀ k z, s1.o k = some z → ∃ z', s.o k = some z' ∧ z.shape z') → Step1 P r2 s ⟨putT s.t r2.d e2.v, s.o⟩ := fun ht ho => by
    obtain ⟨g1, g2, g3⟩ := a2.slots hk2 ho
    rw [ht] at g1
    refine (step_iff hs2).2 ⟨e2, g1, ?_⟩
    simp [St.eff, g2, g3, frzO_nil, newO]
  have hw : ∀ o', (⟨putT s.t r2.d e2.v, o'⟩ : St).want r1.g = s.want r1.g := fun o' => want_congr fun k b hg => putT_ne fun e => p3 k e (looks_g hg)
  have hres : ∀ y ∈ r1.a, (⟨putT s.t r2.d e2.v, s.o⟩ : St).res y = s.res y := fun y hy => by
    unfold St.res; rw [ev_ne p3 hy]
  cases h1 with
  | skip hw1 =>
    rw [hd1]
    refine ⟨_, first (by rw [hd1]; rfl) (fun k z hz => ⟨z, hz, z.shape_refl⟩), ?_⟩
    have := Step1.skip (P := P) r1 ⟨putT s.t r2.d e2.v, s.o⟩ (by rw [hw]; exact hw1)
    rw [hd1] at this; exact this
  | plain as e hk _ _ _ _ => rw [hs1] at hk; cases hk
  | storeBox sz x y n off cells cs a p hk hd hw1 hra hx ho hy hp hc hl hn =>
    refine ⟨_, first rfl (shape_back ho trivial), ?_⟩
    exact .storeBox r1 ⟨putT s.t r2.d e2.v, s.o⟩ sz x y n off cells cs a p hk hd (by rw [hw]; exact hw1) hra (by rw [ev_ne p3 (by rw [hra]; simp)]; exact hx) ho (by rw [hres y (by rw [hra]; simp)]; exact hy) hp hc hl hn
  | storeRow sz x y n es i off ty xs c cs a p hk hd hw1 hra hx ho hi hy hp hc hl hn =>
    refine ⟨_, first rfl (shape_back ho ⟨rfl, by simp⟩), ?_⟩
    exact .storeRow r1 ⟨putT s.t r2.d e2.v, s.o⟩ sz x y n es i off ty xs c cs a p hk hd (by rw [hw]; exact hw1) hra (by rw [ev_ne p3 (by rw [hra]; simp)]; exact hx) ho hi (by rw [hres y (by rw [hra]; simp)]; exact hy) hp hc hl hn
  | appNil ty es bytes d x y a ys sp hk => rw [hk] at hk1; cases hk1
  | appRow ty es bytes d n x y a xs ys sp fz hk => rw [hk] at hk1; cases hk1
  | mset kt et n x y z a k p cs es hk => rw [hk] at hk1; cases hk1
  | mdel kt et n x y k es hk => rw [hk] at hk1; cases hk1
  | calln f d as ps ty es zs hk => rw [hk] at hk1; cases hk1
  | calli f d n x ys as ps ty es xs zs hk => rw [hk] at hk1; cases hk1
  | callu f n x ys as ps ty es xs zs hk => rw [hk] at hk1; cases hk1

theorem load_eff {P : Program} {r : RG} {s : St} {e : Eff} (h : ActA P r s e) {sz : Nat} {ag : Bool} (hk : r.k = .load sz ag) : e.new = none ∧ e.frz = [] := by
  rcases h with ⟨_, rfl⟩ | ⟨_, as, _, he, _⟩
  · exact ⟨rfl, rfl⟩
  · rw [hk] at he
    simp only [SemA, sem] at he
    split at he
    · obtain ⟨p, _, rfl⟩ := Option.map_eq_some_iff.1 he; exact ⟨rfl, rfl⟩
    · obtain ⟨p, _, rfl⟩ := Option.map_eq_some_iff.1 he; exact ⟨rfl, rfl⟩
    · obtain ⟨p, _, rfl⟩ := Option.map_eq_some_iff.1 he; exact ⟨rfl, rfl⟩
    · cases he
theorem diamondL {P : Program} {r1 r2 : RG} {s s1 s2 : St} {a b : Nat} {y0 : Opd} {sz : Nat} {ag : Bool} {n1 o1 n2 o2 : Nat} (ha : apartR r1 r2 = true) (hk1 : r1.k = .load sz ag) (ha1 : r1.a = [.t a]) (hk2 : r2.k.isStore = true) (hd2 : r2.d = none)
    (ha2 : r2.a = [.t b, y0]) (hv1 : s.t a = .own n1 o1) (hv2 : s.t b = .own n2 o2) (hne : n1 ≠ n2) (h1 : Step1 P r1 s s1) (h2 : Step1 P r2 s1 s2) : ∃ t, Step1 P r2 s t ∧ Step1 P r1 t s2 := by
  obtain ⟨p1, p2, p3⟩ := apartR_spec ha
  have hs1 : r1.k.solo = false := by rw [hk1]; rfl
  have hs2 : r2.k.solo = true := by cases hk : r2.k <;> rw [hk] at hk2 <;> first | rfl | (simp [Kd.isStore] at hk2; done)
  obtain ⟨e1, a1, e⟩ := (step_iff hs1).1 h1
  obtain ⟨hn1, hf1⟩ := load_eff a1 hk1
  have hst : s.eff r1.d e1 = ⟨putT s.t r1.d e1.v, s.o⟩ := by simp [St.eff, hn1, hf1, frzO_nil, newO]
  rw [hst] at e
  subst e
  have hw : (⟨putT s.t r1.d e1.v, s.o⟩ : St).want r2.g = s.want r2.g := want_congr fun k b hg => putT_ne fun e => p1 k e (looks_g hg)
  have hres : ∀ y ∈ r2.a, (⟨putT s.t r1.d e1.v, s.o⟩ : St).res y = s.res y := fun y hy => by
    unfold St.res; rw [ev_ne p1 hy]
  have fin : ∀ (fs : List Nat) (x : Option Own), Step1 P r1 ⟨s.t, upd (frzO s.o fs) n2 x⟩ ⟨putT s.t r1.d e1.v, upd (frzO s.o fs) n2 x⟩ := fun fs x => by
    have hal : Alike r1 s ⟨s.t, upd (frzO s.o fs) n2 x⟩ := by
      refine ⟨want_congr fun _ _ _ => rfl, ?_⟩
      rw [ha1]
      refine resL_congr fun z hz => ?_
      obtain rfl := List.mem_singleton.1 hz
      show lookT (upd (frzO s.o fs) n2 x) (s.t a) = lookT s.o (s.t a)
      rw [hv1, lookT_upd (by simp [T.name, hne]), lookT_frz]
    refine (step_iff hs1).2 ⟨e1, a1.alike hal (fun hs => by rw [hn1] at hs; cases hs), ?_⟩
    simp [St.eff, hn1, hf1, frzO_nil, newO]
  cases h2 with
  | skip hw2 =>
    refine ⟨s, ?_, ?_⟩
    · have := Step1.skip (P := P) r2 s (by rw [← hw]; exact hw2)
      rw [hd2] at this; exact this
    · rw [hd2]; exact h1
  | plain as e hk _ _ _ _ => rw [hs2] at hk; cases hk
  | storeBox sz x y n off cells cs a p hk hd hw2 hra hx ho hy hp hc hl hn =>
    rw [hw] at hw2
    rw [ev_ne p1 (by rw [hra]; simp)] at hx
    rw [hres y (by rw [hra]; simp)] at hy
    have hxb : x = .t b := by rw [ha2] at hra; exact ((List.cons.inj hra).1).symm
    have hnn : n = n2 := by
      rw [hxb] at hx
      have h3 : s.t b = .own n off := hx
      rw [hv2] at h3; cases h3; rfl
    subst hnn
    exact ⟨_, .storeBox r2 s sz x y n off cells cs a p hk hd hw2 hra hx ho hy hp hc hl hn, fin _ _⟩
  | storeRow sz x y n es i off ty xs c cs a p hk hd hw2 hra hx ho hi hy hp hc hl hn =>
    exfalso
    rw [ev_ne p1 (by rw [hra]; simp)] at hx
    have hxb : x = .t b := by rw [ha2] at hra; exact ((List.cons.inj hra).1).symm
    rw [hxb] at hx
    have h3 : s.t b = .rp n es i off := hx
    rw [hv2] at h3; cases h3
  | appNil ty es bytes d x y a ys sp hk => rw [hk] at hk2; cases hk2
  | appRow ty es bytes d n x y a xs ys sp fz hk => rw [hk] at hk2; cases hk2
  | mset kt et n x y z a k p cs es hk => rw [hk] at hk2; cases hk2
  | mdel kt et n x y k es hk => rw [hk] at hk2; cases hk2
  | calln f d as ps ty es zs hk => rw [hk] at hk2; cases hk2
  | calli f d n x ys as ps ty es xs zs hk => rw [hk] at hk2; cases hk2
  | callu f n x ys as ps ty es xs zs hk => rw [hk] at hk2; cases hk2

theorem kill_back {t : Nat → T} {n a m o : Nat} (h : killT t n a = .own m o) : t a = .own m o := by
  unfold killT at h
  split at h
  · cases h
  · exact h
theorem Step1.back {P : Program} {r : RG} {s s' : St} {a m o : Nat} (h : Step1 P r s s') (hd : r.d ≠ some a) (hv : s'.t a = .own m o) : s.t a = .own m o := by
  cases h with
  | skip hw => exact (putT_ne hd).symm.trans hv
  | plain as e hk _ _ _ _ => exact (putT_ne hd).symm.trans hv
  | storeBox sz x y n off cells cs a p hk hd' hw2 hra hx ho hy hp hc hl hn => exact hv
  | storeRow sz x y n es i off ty xs c cs a p hk hd' hw2 hra hx ho hi hy hp hc hl hn => exact hv
  | appNil ty es bytes d x y a' ys sp hk hd' =>
    have hne : a ≠ d := fun e => hd (by rw [hd', e])
    exact (upd_ne _ _ hne).symm.trans hv
  | appRow ty es bytes d n x y a' xs ys sp fz hk hd' =>
    have hne : a ≠ d := fun e => hd (by rw [hd', e])
    exact kill_back ((upd_ne _ _ hne).symm.trans hv)
  | mset kt et n x y z a k p cs es hk => exact hv
  | mdel kt et n x y k es hk => exact hv
  | calln f d as ps ty es zs hk hd' =>
    have hne : a ≠ d := fun e => hd (by rw [hd', e])
    exact (upd_ne _ _ hne).symm.trans hv
  | calli f d n x ys as ps ty es xs zs hk hd' =>
    have hne : a ≠ d := fun e => hd (by rw [hd', e])
    exact kill_back ((upd_ne _ _ hne).symm.trans hv)
  | callu f n x ys as ps ty es xs zs hk => exact (putT_ne hd).symm.trans hv

def T.isAny : T → Bool
  | .p .any => true
  | _ => false
theorem kill_same {t : Nat → T} {n a : Nat} (h : (killT t n a).isAny = false) : killT t n a = t a ∧ (t a).name ≠ some n := by
  unfold killT at h ⊢
  split at h
  · cases h
  · rename_i e; rw [if_neg e]; exact ⟨rfl, e⟩
theorem Step1.same {P : Program} {r : RG} {s s' : St} {a : Nat} (h : Step1 P r s s') (hd : r.d ≠ some a) (hv : (s'.t a).isAny = false) : s'.t a = s.t a := by
  cases h with
  | skip hw => exact putT_ne hd
  | plain as e hk _ _ _ _ => exact putT_ne hd
  | storeBox sz x y n off cells cs a p hk hd' hw2 hra hx ho hy hp hc hl hn => rfl
  | storeRow sz x y n es i off ty xs c cs a p hk hd' hw2 hra hx ho hi hy hp hc hl hn => rfl
  | appNil ty es bytes d x y a' ys sp hk hd' =>
    have hne : a ≠ d := fun e => hd (by rw [hd', e])
    exact upd_ne _ _ hne
  | appRow ty es bytes d n x y a' xs ys sp fz hk hd' =>
    have hne : a ≠ d := fun e => hd (by rw [hd', e])
    have h1 : upd (killT s.t n) d (.row d (xs.length + ys.length)) a = killT s.t n a := upd_ne _ _ hne
    show upd (killT s.t n) d (.row d (xs.length + ys.length)) a = s.t a
    rw [h1]
    refine (kill_same ?_).1
    rw [← h1]; exact hv
  | mset kt et n x y z a k p cs es hk => rfl
  | mdel kt et n x y k es hk => rfl
  | calln f d as ps ty es zs hk hd' =>
    have hne : a ≠ d := fun e => hd (by rw [hd', e])
    exact upd_ne _ _ hne
  | calli f d n x ys as ps ty es xs zs hk hd' =>
    have hne : a ≠ d := fun e => hd (by rw [hd', e])
    have h1 : upd (killT s.t n) d (.row d zs.length) a = killT s.t n a := upd_ne _ _ hne
    show upd (killT s.t n) d (.row d zs.length) a = s.t a
    rw [h1]
    refine (kill_same ?_).1
    rw [← h1]; exact hv
  | callu f n x ys as ps ty es xs zs hk => exact putT_ne hd

theorem arg_off {s : St} {r : RG} (hb : r.bare = true) {as : List RA} (h : s.resL r.a = some as) {n : Nat} (hf : ∀ k ∈ r.looks, (s.t k).name ≠ some n) : ∀ a ∈ as, a.toT.name ≠ some n := by
  intro a ha
  obtain ⟨x, hx, hr⟩ := resL_mem h a ha
  rw [lookT_name hr]
  cases x with
  | t k => exact hf k (looks_arg hx)
  | c y =>
    have := List.all_eq_true.1 hb _ hx
    simp only [Opd.bare, Option.isNone_iff_eq_none] at this
    simp [St.ev, this]
theorem ActA.off {P : Program} {r : RG} {s : St} {e : Eff} (h : ActA P r s e) (hb : r.bare = true) {n : Nat} (hf : ∀ k ∈ r.looks, (s.t k).name ≠ some n) : n ∉ e.frz ∧ (e.v.name = some n → e.new.isSome = true ∧ r.d = some n) := by
  rcases h with ⟨_, rfl⟩ | ⟨_, as, hr, he, hn⟩
  · exact ⟨by simp, fun h => by simp [T.name] at h⟩
  · refine ⟨fun hv => ?_, fun hv => ?_⟩
    · obtain ⟨a, ha, han⟩ := (semA_names he).f n hv
      exact arg_off hb hr hf a ha han
    · rcases (semA_names he).v n hv with ⟨h1, h2⟩ | ⟨a, ha, han⟩
      · obtain ⟨d', hd', _⟩ := hn h2
        rw [hd'] at h1 ⊢
        simp at h1
        exact ⟨h2, by rw [h1]⟩
      · exact absurd han (arg_off hb hr hf a ha)
theorem frzO_mm (x : Option Own) : (x.map Own.freeze).map Own.freeze = x.map Own.freeze := by
  cases x with
  | none => rfl
  | some x => cases x <;> rfl
theorem lookT_off {o o' : Nat → Option Own} {fs : List Nat} {n d : Nat} (ho : ∀ k, k ≠ n → k ≠ d → o' k = frzO o fs k) {t : T} (ht : ∀ m, t.name = some m → m ≠ n ∧ m ≠ d) : lookT o' t = lookT o t := by
  rw [← lookT_frz o fs]
  cases t with
  | p x => rfl
  | nil => rfl
  | own m off => have := ht m rfl; simp only [lookT, ho m this.1 this.2]
  | row m l => have := ht m rfl; simp only [lookT, ho m this.1 this.2]
  | rp m es i off => have := ht m rfl; simp only [lookT, ho m this.1 this.2]
  | mp m => have := ht m rfl; simp only [lookT, ho m this.1 this.2]
theorem ev_name {s : St} {r : RG} (hb : r.bare = true) {y : Opd} (hy : y ∈ r.a) {m : Nat} (hm : (s.ev y).name = some m) : ∃ k ∈ r.looks, (s.t k).name = some m := by
  cases y with
  | t k => exact ⟨k, looks_arg hy, hm⟩
  | c z =>
    have := List.all_eq_true.1 hb _ hy
    simp only [Opd.bare, Option.isNone_iff_eq_none] at this
    simp [St.ev, this] at hm
theorem diamondK {P : Program} {r1 r2 : RG} {s s1 s2 : St} {ty es bytes : Nat} (ha : apartR r1 r2 = true) (hb1 : r1.bare = true) (hb2 : r2.bare = true) (hk1 : r1.k = .app ty es bytes) (hk2 : r2.k.solo = false)
    (hf2 : r2.k.allocs = true → ∀ d, r2.d = some d → s.fresh d) (hlook : ∀ k ∈ r2.looks, (s1.t k).isAny = false) (h1 : Step1 P r1 s s1) (h2 : Step1 P r2 s1 s2) : ∃ t, Step1 P r2 s t ∧ Step1 P r1 t s2 := by
  obtain ⟨p1, p2, p3⟩ := apartR_spec ha
  obtain ⟨e2, a2, rfl⟩ := (step_iff hk2).1 h2
  have f2 : e2.new.isSome = true → ∀ d, r2.d = some d → s.fresh d := fun hn d hd => hf2 (a2.allocs hn) d hd
  have hsame : ∀ k ∈ r2.looks, s1.t k = s.t k := fun k hk => h1.same (fun e => p1 k e hk) (hlook k hk)
  have hev2 : ∀ y ∈ r2.a, s1.ev y = s.ev y := fun y hy => by
    cases y with
    | t k => exact hsame k (looks_arg hy)
    | c z => rfl
  -- the deed ahead
  have first : (∀ y ∈ r2.a, lookT s1.o (s.ev y) = lookT s.o (s.ev y)) → ActA P r2 s e2 := fun hl => by
    refine a2.alike ⟨want_congr fun k b hg => (hsame k (looks_g hg)).symm, resL_congr fun y hy => ?_⟩ f2
    unfold St.res
    rw [hev2 y hy]
    exact (hl y hy).symm
  have hwant : (s.eff r2.d e2).want r1.g = s.want r1.g := want_congr fun k b hg => putT_ne fun e => p3 k e (looks_g hg)
  have hevr : ∀ y ∈ r1.a, (s.eff r2.d e2).ev y = s.ev y := fun y hy => by
    cases y with
    | c z => rfl
    | t k => exact putT_ne fun e => p3 k e (looks_arg hy)
  have hresr : ∀ y ∈ r1.a, (s.eff r2.d e2).res y = s.res y := fun y hy => by
    unfold St.res
    rw [hevr y hy]
    simp only [St.eff]
    rw [lookT_newO, lookT_frz]
    intro hs k hk hm
    obtain ⟨j, _, hj⟩ := ev_name hb1 hy hm
    exact f2 hs k hk j hj
  have hmm := frzO_mm
  cases h1 with
  | skip hw1 =>
    have a2' := first fun y hy => rfl
    refine ⟨_, (step_iff hk2).2 ⟨e2, a2', rfl⟩, ?_⟩
    have := Step1.skip (P := P) r1 (s.eff r2.d e2) (by rw [hwant]; exact hw1)
    have e : (⟨putT s.t r1.d (.p (.v undef)), s.o⟩ : St).eff r2.d e2 = ⟨putT (s.eff r2.d e2).t r1.d (.p (.v undef)), (s.eff r2.d e2).o⟩ := by
      simp only [St.eff, St.mk.injEq, and_true]
      cases hr1 : r1.d <;> cases hr2 : r2.d <;> simp only [putT]
      exact upd_comm _ _ _ fun e => p2 _ hr1 (by rw [hr2, e])
    rw [e]; exact this
  | plain as e hk _ _ _ _ => rw [hk1] at hk; cases hk
  | storeBox sz x y n off cells cs a p hk => rw [hk1] at hk; cases hk
  | storeRow sz x y n es i off ty xs c cs a p hk => rw [hk1] at hk; cases hk
  | mset kt et n x y z a k p cs es hk => rw [hk1] at hk; cases hk
  | mdel kt et n x y k es hk => rw [hk1] at hk; cases hk
  | calln f d as ps ty es zs hk => rw [hk1] at hk; cases hk
  | calli f d n x ys as ps ty es xs zs hk => rw [hk1] at hk; cases hk
  | callu f n x ys as ps ty es xs zs hk => rw [hk1] at hk; cases hk
  | appNil ty es bytes d x y a ys sp hk hd hw hra hx hy hp he hl hf =>
    have hnd : ∀ k ∈ r2.looks, (s.t k).name ≠ some d := fun k _ => hf k
    have a2' := first fun y hy => lookT_off (n := d) (d := d) (fs := a.frz) (fun k h1 _ => upd_ne _ _ h1) fun m hm => by
      obtain ⟨k, hk, hk'⟩ := ev_name hb2 hy hm
      exact ⟨fun e => hnd k hk (by rw [← e]; exact hk'), fun e => hnd k hk (by rw [← e]; exact hk')⟩
    obtain ⟨o1, o2⟩ := a2'.off hb2 hnd
    refine ⟨_, (step_iff hk2).2 ⟨e2, a2', rfl⟩, ?_⟩
    have := Step1.appNil (P := P) r1 (s.eff r2.d e2) ty es bytes d x y a ys sp hk hd (by rw [hwant]; exact hw) hra (by rw [hevr x (by rw [hra]; simp)]; exact hx) (by rw [hresr y (by rw [hra]; simp)]; exact hy) hp he hl (a2'.fresh hb2 hf (p2 d hd))
    have hfz : ∀ d2, r2.d = some d2 → e2.new.isSome = true → d2 ∉ a.frz := fun d2 hd2 hn hm => by
      have h3 : a.toT.name = some d2 := frz_name hm
      have h4 : lookT s.o (s.ev y) = some a := hy
      rw [lookT_name h4] at h3
      obtain ⟨k, _, hk⟩ := ev_name hb1 (by rw [hra]; simp) h3
      exact f2 hn d2 hd2 k hk
    have hdd : ∀ d2, r2.d = some d2 → d2 ≠ d := fun d2 h e => p2 d hd (by rw [h, e])
    have e : (⟨upd s.t d (.row d ys.length), upd (frzO s.o a.frz) d (some (.row ty es ys false))⟩ : St).eff r2.d e2 = ⟨upd (s.eff r2.d e2).t d (.row d ys.length), upd (frzO (s.eff r2.d e2).o a.frz) d (some (.row ty es ys false))⟩ := by
      obtain ⟨v2, n2, g2⟩ := e2
      simp only at o1 hfz
      simp only [St.eff, St.mk.injEq]
      constructor
      · cases hr2 : r2.d with
        | none => rfl
        | some d2 => exact upd_comm _ _ _ (Ne.symm (hdd d2 hr2))
      · funext k
        cases hr2 : r2.d with
        | none =>
          simp only [newO, frzO, upd]
          by_cases c1 : k = d
          · subst c1; simp [o1]
          · by_cases b1 : k ∈ a.frz <;> by_cases b2 : k ∈ g2 <;> simp [b1, b2, hmm, c1]
        | some d2 =>
          have hne := hdd d2 hr2
          cases n2 with
          | none =>
            simp only [newO, frzO, upd]
            by_cases c1 : k = d
            · subst c1; simp [o1]
            · by_cases b1 : k ∈ a.frz <;> by_cases b2 : k ∈ g2 <;> simp [b1, b2, hmm, c1]
          | some n2 =>
            have h5 := hfz d2 hr2 rfl
            simp only [newO, frzO, upd]
            by_cases c1 : k = d
            · subst c1; simp [o1, Ne.symm hne]
            · by_cases c2 : k = d2
              · subst c2; simp [c1, h5]
              · by_cases b1 : k ∈ a.frz <;> by_cases b2 : k ∈ g2 <;> simp [b1, b2, hmm, c1, c2]
    rw [e]; exact this
  | appRow ty es bytes d n x y a xs ys sp fz hk hd hw hra hx ho hy hp he hl hn hf =>
    have hd1 : ∀ k ∈ r2.looks, k ≠ d := fun k hk e => p1 d hd (e ▸ hk)
    have hnn : ∀ k ∈ r2.looks, (s.t k).name ≠ some n := fun k hk => by
      have h3 : (upd (killT s.t n) d (.row d (xs.length + ys.length)) k).isAny = false := hlook k hk
      rw [upd_ne _ _ (hd1 k hk)] at h3
      exact (kill_same h3).2
    have hnd : ∀ k ∈ r2.looks, (s.t k).name ≠ some d := fun k hk => by
      by_cases e : d = n
      · rw [e]; exact hnn k hk
      · exact hf e k
    have a2' := first fun y hy => lookT_off (n := n) (d := d) (fs := a.frz) (fun k h1 h2 => by show upd (upd _ n _) d _ k = _; rw [upd_ne _ _ h2, upd_ne _ _ h1]) fun m hm => by
      obtain ⟨k, hk, hk'⟩ := ev_name hb2 hy hm
      exact ⟨fun e => hnn k hk (by rw [← e]; exact hk'), fun e => hnd k hk (by rw [← e]; exact hk')⟩
    obtain ⟨o1, o2⟩ := a2'.off hb2 hnn
    obtain ⟨o3, o4⟩ := a2'.off hb2 hnd
    obtain ⟨kx, hkx, hkxn⟩ : ∃ k ∈ r1.looks, (s.t k).name = some n := ev_name hb1 (y := x) (by rw [hra]; simp) (by rw [hx]; rfl)
    have hdn : ∀ d2, r2.d = some d2 → e2.new.isSome = true → d2 ≠ n := fun d2 h hs e => f2 hs d2 h kx (by rw [hkxn, e])
    have hvn : e2.v.name ≠ some n := fun h => by
      obtain ⟨h3, h4⟩ := o2 h
      exact hdn n h4 h3 rfl
    refine ⟨_, (step_iff hk2).2 ⟨e2, a2', rfl⟩, ?_⟩
    have hno : (s.eff r2.d e2).o n = some (.row ty es xs fz) := by
      show newO (frzO s.o e2.frz) r2.d e2.new n = _
      have h3 : frzO s.o e2.frz n = some (.row ty es xs fz) := by unfold frzO; rw [if_neg o1]; exact ho
      cases hr2 : r2.d with
      | none => exact h3
      | some d2 =>
        cases hn2 : e2.new with
        | none => exact h3
        | some x2 =>
          show upd (frzO s.o e2.frz) d2 (some x2) n = _
          rw [upd_ne _ _ (Ne.symm (hdn d2 hr2 (by rw [hn2]; rfl)))]; exact h3
    have := Step1.appRow (P := P) r1 (s.eff r2.d e2) ty es bytes d n x y a xs ys sp fz hk hd (by rw [hwant]; exact hw) hra (by rw [hevr x (by rw [hra]; simp)]; exact hx) hno (by rw [hresr y (by rw [hra]; simp)]; exact hy) hp he hl hn fun e => a2'.fresh hb2 (hf e) (p2 d hd)
    have hfz : ∀ d2, r2.d = some d2 → e2.new.isSome = true → d2 ∉ a.frz := fun d2 hd2 hn hm => by
      have h3 : a.toT.name = some d2 := frz_name hm
      have h4 : lookT s.o (s.ev y) = some a := hy
      rw [lookT_name h4] at h3
      obtain ⟨k, _, hk⟩ := ev_name hb1 (by rw [hra]; simp) h3
      exact f2 hn d2 hd2 k hk
    have hdd : ∀ d2, r2.d = some d2 → d2 ≠ d := fun d2 h e => p2 d hd (by rw [h, e])
    have e : (⟨upd (killT s.t n) d (.row d (xs.length + ys.length)), upd (upd (frzO s.o a.frz) n none) d (some (.row ty es (xs ++ ys) fz))⟩ : St).eff r2.d e2 = ⟨upd (killT (s.eff r2.d e2).t n) d (.row d (xs.length + ys.length)), upd (upd (frzO (s.eff r2.d e2).o a.frz) n none) d (some (.row ty es (xs ++ ys) fz))⟩ := by
      obtain ⟨v2, n2, g2⟩ := e2
      simp only at o1 o3 hfz hdn hvn
      simp only [St.eff, St.mk.injEq]
      constructor
      · cases hr2 : r2.d with
        | none => rfl
        | some d2 =>
          have hne := hdd d2 hr2
          funext k
          simp only [putT, upd, killT]
          by_cases c1 : k = d
          · subst c1; simp [Ne.symm hne]
          · by_cases c2 : k = d2
            · subst c2; simp [c1, hvn]
            · simp [c1, c2]
      · funext k
        cases hr2 : r2.d with
        | none =>
          simp only [newO, frzO, upd]
          by_cases c1 : k = d
          · subst c1; simp [o3]
          · by_cases c3 : k = n
            · subst c3; simp [o1, c1]
            · by_cases b1 : k ∈ a.frz <;> by_cases b2 : k ∈ g2 <;> simp [b1, b2, hmm, c1, c3]
        | some d2 =>
          have hne := hdd d2 hr2
          cases n2 with
          | none =>
            simp only [newO, frzO, upd]
            by_cases c1 : k = d
            · subst c1; simp [o3]
            · by_cases c3 : k = n
              · subst c3; simp [o1, c1]
              · by_cases b1 : k ∈ a.frz <;> by_cases b2 : k ∈ g2 <;> simp [b1, b2, hmm, c1, c3]
          | some n2 =>
            have h5 := hfz d2 hr2 rfl
            have h6 := hdn d2 hr2 rfl
            simp only [newO, frzO, upd]
            by_cases c1 : k = d
            · subst c1; simp [o3, Ne.symm hne]
            · by_cases c2 : k = d2
              · subst c2; simp [c1, h5, h6]
              · by_cases c3 : k = n
                · subst c3; simp [o1, c1, c2]
                · by_cases b1 : k ∈ a.frz <;> by_cases b2 : k ∈ g2 <;> simp [b1, b2, hmm, c1, c2, c3]
    rw [e]; exact this

theorem diamond {P : Program} {r1 r2 : RG} {s s1 s2 : St} (hc : comm r1 r2 = true) (hf2 : r2.k.allocs = true → ∀ d, r2.d = some d → s.fresh d)
    (h1 : Step1 P r1 s s1) (h2 : Step1 P r2 s1 s2) : ∃ t, Step1 P r2 s t ∧ Step1 P r1 t s2 := by
  simp only [comm, Bool.and_eq_true, Bool.or_eq_true, Bool.not_eq_true', Option.isNone_iff_eq_none] at hc
  obtain ⟨⟨⟨ha, hb1⟩, hb2⟩, (h | h) | h⟩ := hc
  · exact diamondA ha hb1 hb2 h.1 h.2 hf2 h1 h2
  · exact diamondS ha h.1.1 h.1.2 h.2 h1 h2
  · exact diamondT ha h.1.1 h.1.2 h.2 h1 h2

theorem Step1.fresh {P : Program} {r : RG} {s s' : St} (h : Step1 P r s s') (hb : r.bare = true) {d : Nat} (hf : s.fresh d) (hd : r.d ≠ some d) : s'.fresh d := by
  by_cases hk : r.k.solo = false
  · obtain ⟨e, a, rfl⟩ := (step_iff hk).1 h
    exact a.fresh hb hf hd
  · cases h with
    | skip hw => intro k; rcases putT_or s.t r.d (.p (.v undef)) k with e | e <;> simp only [e]; exact hf k; simp [T.name]
    | plain as e hk' _ _ _ _ => exact absurd hk' hk
    | storeBox => exact hf
    | storeRow => exact hf
    | appNil ty es bytes d' x y a ys sp hk' hd' =>
      intro k
      simp only [upd]
      split
      · simp only [T.name]; rw [hd'] at hd; simpa using hd
      · exact hf k
    | appRow ty es bytes d' n x y a xs ys sp fz hk' hd' =>
      intro k
      simp only [upd]
      split
      · simp only [T.name]; rw [hd'] at hd; simpa using hd
      · unfold killT; split
        · simp [T.name]
        · exact hf k
    | mset => exact hf
    | mdel => exact hf
    | callu f n x ys as ps ty es xs zs hk' =>
      rename_i q _ _ _ _ _ _ _ _
      intro k
      rcases putT_or s.t r.d (.p q) k with e | e <;> simp only [e]
      · exact hf k
      · simp [T.name]
    | calln f d' as ps ty es zs hk' hd' =>
      intro k
      simp only [upd]
      split
      · simp only [T.name]; rw [hd'] at hd; simpa using hd
      · exact hf k
    | calli f d' n x ys as ps ty es xs zs hk' hd' =>
      intro k
      simp only [upd]
      split
      · simp only [T.name]; rw [hd'] at hd; simpa using hd
      · unfold killT; split
        · simp [T.name]
        · exact hf k

inductive StepsI (P : Program) (rs : List RG) : List Nat → St → St → Prop
  | nil (s : St) : StepsI P rs [] s s
  | cons {i : Nat} {l : List Nat} {s s1 s2 : St} {r : RG} (hi : rs[i]? = some r) (h : Step1 P r s s1) (t : StepsI P rs l s1 s2) : StepsI P rs (i :: l) s s2

def Fr (rs : List RG) (l : List Nat) (s : St) : Prop := ∀ i ∈ l, ∀ r, rs[i]? = some r → r.k.allocs = true → ∀ d, r.d = some d → s.fresh d

def allocOk (rs : List RG) : Prop := ∀ (i j : Nat) (r r' : RG), i ≠ j → rs[i]? = some r → rs[j]? = some r' → r.k.allocs = true → ∀ d, r.d = some d → r'.d ≠ some d

theorem Fr.step {P : Program} {rs : List RG} {l : List Nat} {s s1 : St} (h : Fr rs l s) (hal : allocOk rs) (hb : ∀ r ∈ rs, r.bare = true) {j : Nat} {r : RG} (hj : rs[j]? = some r) (hs : Step1 P r s s1) (hn : j ∉ l) : Fr rs l s1 := by
  intro i hi r' hr' ha d hd
  have hne : i ≠ j := fun e => hn (e ▸ hi)
  exact hs.fresh (hb r (List.mem_of_getElem? hj)) (h i hi r' hr' ha d hd) (hal i j r' r hne hr' hj ha d hd)
theorem Fr.mono {rs : List RG} {l l' : List Nat} {s : St} (h : Fr rs l s) (hl : ∀ i ∈ l', i ∈ l) : Fr rs l' s := fun i hi => h i (hl i hi)

theorem StepsI.back {P : Program} {rs : List RG} {a m o : Nat} : ∀ {l : List Nat} {s s' : St}, StepsI P rs l s s' → (∀ k ∈ l, ∀ r, rs[k]? = some r → r.d ≠ some a) → s'.t a = .own m o → s.t a = .own m o
  | [], s, s', h, _, hv => by cases h; exact hv
  | k :: l, s, s', h, hl, hv => by
    cases h with
    | cons hi h t => exact h.back (hl k (by simp) _ hi) (t.back (fun q hq => hl q (by simp [hq])) hv)

theorem StepsI.same {P : Program} {rs : List RG} {a : Nat} : ∀ {l : List Nat} {s s' : St}, StepsI P rs l s s' → (∀ k ∈ l, ∀ r, rs[k]? = some r → r.d ≠ some a) → (s'.t a).isAny = false → s'.t a = s.t a
  | [], s, s', h, _, hv => by cases h; rfl
  | k :: l, s, s', h, hl, hv => by
    cases h with
    | cons hi h t =>
      have h1 := t.same (fun q hq => hl q (by simp [hq])) hv
      exact h1.trans (h.same (hl k (by simp) _ hi) (by rw [← h1]; exact hv))

def Far (rs : List RG) (s' : St) (later : List Nat) (j : Nat) (rj ri : RG) : Prop :=
  ∃ a b y sz ag n1 o1 n2 o2, apartR rj ri = true ∧ rj.k = .load sz ag ∧ rj.a = [.t a] ∧ ri.k.isStore = true ∧ ri.d = none ∧ ri.a = [.t b, y] ∧ s'.t a = .own n1 o1 ∧ s'.t b = .own n2 o2 ∧ n1 ≠ n2 ∧
    ∀ k ∈ later, j ≤ k → ∀ r, rs[k]? = some r → r.d ≠ some a ∧ r.d ≠ some b

def FarK (rs : List RG) (s' : St) (later : List Nat) (j : Nat) (rj ri : RG) : Prop :=
  ∃ ty es bytes, apartR rj ri = true ∧ rj.bare = true ∧ ri.bare = true ∧ rj.k = .app ty es bytes ∧ ri.k.solo = false ∧
    ∀ a ∈ ri.looks, (s'.t a).isAny = false ∧ ri.d ≠ some a ∧ ∀ k ∈ later, j ≤ k → ∀ r, rs[k]? = some r → r.d ≠ some a

theorem move_front {P : Program} {rs : List RG} (hal : allocOk rs) (hb : ∀ r ∈ rs, r.bare = true) {i : Nat} {ri : RG} (hri : rs[i]? = some ri) {post : List Nat} : ∀ (pre : List Nat) {s s' : St}, (pre ++ i :: post).Nodup → (pre ++ i :: post).Pairwise (· < ·) →
    (∀ j ∈ pre, ∀ rj, rs[j]? = some rj → comm rj ri = true ∨ Far rs s' (pre ++ post) j rj ri ∨ FarK rs s' (pre ++ post) j rj ri) →
    Fr rs (pre ++ i :: post) s → StepsI P rs (pre ++ i :: post) s s' → ∃ t, Step1 P ri s t ∧ StepsI P rs (pre ++ post) t s'
  | [], s, s', hnd, hpw, hc, hf, h => by
    cases h with
    | cons hi h t => rw [hri] at hi; cases hi; exact ⟨_, h, t⟩
  | j :: pre, s, s', hnd, hpw, hc, hf, h => by
    cases h with
    | cons hj h t =>
      rename_i s1 rj
      simp only [List.cons_append, List.nodup_cons] at hnd
      simp only [List.cons_append, List.pairwise_cons] at hpw
      have hf1 : Fr rs (pre ++ i :: post) s1 := (hf.mono fun k hk => List.mem_cons_of_mem _ hk).step hal hb hj h hnd.1
      obtain ⟨t1, h1, h2⟩ := move_front hal hb hri pre hnd.2 hpw.2 (fun k hk rk hrk => (hc k (by simp [hk]) rk hrk).imp id fun h => h.imp (fun ⟨a, b, y, sz, ag, n1, o1, n2, o2, q1, q2, q3, q4, q5, q6, q7, q8, q9, q10⟩ => ⟨a, b, y, sz, ag, n1, o1, n2, o2, q1, q2, q3, q4, q5, q6, q7, q8, q9, fun k' hk' => q10 k' (List.mem_cons_of_mem _ hk')⟩) fun ⟨ty, es, bytes, q1, q2, q3, q4, q5, q6⟩ => ⟨ty, es, bytes, q1, q2, q3, q4, q5, fun a ha => ⟨(q6 a ha).1, (q6 a ha).2.1, fun k' hk' => (q6 a ha).2.2 k' (List.mem_cons_of_mem _ hk')⟩⟩) hf1 t
      have hlt : ∀ k ∈ pre ++ post, j ≤ k := fun k hk => by
        have : k ∈ pre ++ i :: post := by
          rcases List.mem_append.1 hk with h | h
          · exact List.mem_append_left _ h
          · exact List.mem_append_right _ (List.mem_cons_of_mem _ h)
        exact Nat.le_of_lt (hpw.1 k this)
      rcases hc j (by simp) rj hj with hc | ⟨a, b, y, sz, ag, n1, o1, n2, o2, q1, q2, q3, q4, q5, q6, q7, q8, q9, q10⟩ | ⟨ty, es, bytes, q1, q2, q3, q4, q5, q6⟩
      · obtain ⟨u, g1, g2⟩ := diamond hc (fun ha d hd => hf i (by simp) ri hri ha d hd) h h1
        exact ⟨u, g1, .cons hj g2 h2⟩
      · have hj' := q10 j (by simp) (Nat.le_refl _) rj hj
        have hl : ∀ k ∈ pre ++ post, ∀ r, rs[k]? = some r → r.d ≠ some a ∧ r.d ≠ some b := fun k hk => q10 k (by simp only [List.cons_append]; exact List.mem_cons_of_mem _ hk) (hlt k hk)
        have va := h.back hj'.1 (h1.back (by rw [q5]; simp) (h2.back (fun k hk r hr => (hl k hk r hr).1) q7))
        have vb := h.back hj'.2 (h1.back (by rw [q5]; simp) (h2.back (fun k hk r hr => (hl k hk r hr).2) q8))
        obtain ⟨u, g1, g2⟩ := diamondL q1 q2 q3 q4 q5 q6 va vb q9 h h1
        exact ⟨u, g1, .cons hj g2 h2⟩
      · have hlook : ∀ a ∈ ri.looks, (s1.t a).isAny = false := fun a ha => by
          obtain ⟨w1, w2, w3⟩ := q6 a ha
          have e1 := h2.same (fun k hk r hr => w3 k (by simp only [List.cons_append]; exact List.mem_cons_of_mem _ hk) (hlt k hk) r hr) w1
          have e2 := h1.same w2 (by rw [← e1]; exact w1)
          rw [← e2, ← e1]; exact w1
        obtain ⟨u, g1, g2⟩ := diamondK q1 q2 q3 q4 q5 (fun ha d hd => hf i (by simp) ri hri ha d hd) hlook h h1
        exact ⟨u, g1, .cons hj g2 h2⟩
end Go.Fw

set_option linter.unusedVariables false
set_option linter.unusedSimpArgs false
namespace Go.Fw
open Go.RowKit

inductive Steps (P : Program) : List RG → St → St → Prop
  | nil (s : St) : Steps P [] s s
  | cons {r : RG} {l : List RG} {s s1 s2 : St} (h : Step1 P r s s1) (t : Steps P l s1 s2) : Steps P (r :: l) s s2

theorem Steps.index {P : Program} {rs : List RG} : ∀ {l : List RG} {k : Nat} {s s' : St}, Steps P l s s' → (∀ j, l[j]? = rs[k + j]? ∨ l.length ≤ j) → StepsI P rs (List.range' k l.length) s s'
  | [], k, s, s', h, _ => by cases h; exact .nil s
  | r :: l, k, s, s', h, hl => by
    cases h with
    | cons h t =>
      have h0 : rs[k]? = some r := by rcases hl 0 with e | e; simpa using e.symm; simp at e
      refine .cons h0 h ?_
      refine t.index fun j => ?_
      rcases hl (j + 1) with e | e
      · left; rw [show k + 1 + j = k + (j + 1) by omega, ← e]; simp
      · right; simpa using e

theorem Steps.range {P : Program} {rs : List RG} {s s' : St} (h : Steps P rs s s') : StepsI P rs (List.range rs.length) s s' := by
  rw [List.range_eq_range']
  exact h.index fun j => .inl (by simp)

def orL (b : List Nat) : List Edge → Nat
  | [] => 0
  | e :: es => if Region.binds .any e then 2 ^ e.on ||| b.getD e.on 0 ||| orL b es else orL b es
def maskGo : List Oper → List Nat → List Nat
  | [], b => b
  | o :: os, b => maskGo os (b ++ [orL b o.after.toList])
def maskChk (b : List Nat) : Nat → List Oper → Bool
  | _, [] => true
  | i, o :: os => (o.after.toList.all fun e => !Region.binds .any e || decide (e.on < i)) && b.getD i 0 == orL b o.after.toList && maskChk b (i + 1) os
def farB (rs : List RG) (bi : Nat) (j : Nat) (rj ri : RG) : Bool :=
  match rj.k, rj.a, ri.a with
  | .load _ _, [.t a], [.t b, _] => apartR rj ri && ri.k.isStore && ri.d.isNone && (List.range rs.length).all fun k => decide (k < j) || bi.testBit k || (match rs[k]? with | some r => r.d != some a && r.d != some b | none => true)
  | .app _ _ _, _, _ => apartR rj ri && (rj.bare && (ri.bare && (!ri.k.solo && ri.looks.all fun a => ri.d != some a && (List.range rs.length).all fun k => decide (k < j) || bi.testBit k || (match rs[k]? with | some r => r.d != some a | none => true))))
  | _, _, _ => false
def farS (rs : List RG) (ps : List (Nat × Nat)) (s' : St) : Bool := ps.all fun p =>
  match rs[p.1]?, rs[p.2]? with
  | some rj, some ri => match rj.k with
    | .app _ _ _ => ri.looks.all fun a => !(s'.t a).isAny
    | _ => match rj.a, ri.a with
      | [.t a], [.t b, _] => match s'.t a, s'.t b with | .own n1 _, .own n2 _ => !Nat.beq n1 n2 | _, _ => false
      | _, _ => false
  | _, _ => false
def chk1 (rs : List RG) (ps : List (Nat × Nat)) (i : Nat) (ri : RG) (bi : Nat) : Nat → List RG → Bool
  | _, [] => true
  | j, rj :: l => (bi.testBit j || comm rj ri || (ps.contains (j, i) && farB rs bi j rj ri)) && chk1 rs ps i ri bi (j + 1) l
def pairsOk (rs : List RG) (ps : List (Nat × Nat)) (b : List Nat) : Bool := (List.range rs.length).all fun i => match rs[i]? with | some ri => chk1 rs ps i ri (b.getD i 0) 0 (rs.take i) | none => true
def allocB (rs : List RG) : Bool := (List.range rs.length).all fun i => match rs[i]? with
  | some r => !r.k.allocs || (match r.d with | some d => (rs.eraseIdx i).all fun r' => r'.d != some d | none => true)
  | none => true
def drawOkP (ops : Array Oper) (rs : List RG) (ps : List (Nat × Nat)) : Bool :=
  let b := maskGo ops.toList []
  maskChk b 0 ops.toList && pairsOk rs ps b && allocB rs && rs.all RG.bare && rs.length == ops.size

def drawOk (ops : Array Oper) (rs : List RG) : Bool := drawOkP ops rs []

theorem orL_bit {b : List Nat} {j : Nat} : ∀ {es : List Edge}, (orL b es).testBit j = true → ∃ e ∈ es, Region.binds .any e = true ∧ (e.on = j ∨ (b.getD e.on 0).testBit j = true)
  | [], h => by simp [orL] at h
  | e :: es, h => by
    simp only [orL] at h
    split at h
    · rename_i hb
      rw [Nat.testBit_or, Nat.testBit_or, Bool.or_eq_true, Bool.or_eq_true] at h
      rcases h with (h | h) | h
      · refine ⟨e, by simp, hb, .inl ?_⟩
        rw [Nat.testBit_two_pow] at h; simpa using h
      · exact ⟨e, by simp, hb, .inr h⟩
      · obtain ⟨e', h1, h2⟩ := orL_bit h; exact ⟨e', by simp [h1], h2⟩
    · obtain ⟨e', h1, h2⟩ := orL_bit h; exact ⟨e', by simp [h1], h2⟩

theorem maskChk_at {b : List Nat} : ∀ {os : List Oper} {i k : Nat} {o : Oper}, maskChk b i os = true → os[k]? = some o → (∀ e ∈ o.after.toList, Region.binds .any e = true → e.on < i + k) ∧ b.getD (i + k) 0 = orL b o.after.toList
  | [], i, k, o, h, hk => by simp at hk
  | o' :: os, i, k, o, h, hk => by
    simp only [maskChk, Bool.and_eq_true] at h
    obtain ⟨⟨h1, h2⟩, h3⟩ := h
    cases k with
    | zero =>
      simp at hk; subst hk
      refine ⟨fun e he hb => ?_, by simpa using h2⟩
      have := List.all_eq_true.1 h1 e he
      simpa [hb] using this
    | succ k =>
      have := maskChk_at (k := k) h3 (by simpa using hk)
      rw [show i + (k + 1) = i + 1 + k by omega]; exact this

theorem chk1_at {rs : List RG} {ps : List (Nat × Nat)} {i : Nat} {ri : RG} {bi : Nat} : ∀ {l : List RG} {j0 k : Nat} {rj : RG}, chk1 rs ps i ri bi j0 l = true → l[k]? = some rj → bi.testBit (j0 + k) = true ∨ comm rj ri = true ∨ ((j0 + k, i) ∈ ps ∧ farB rs bi (j0 + k) rj ri = true)
  | [], j0, k, rj, h, hk => by simp at hk
  | r :: l, j0, k, rj, h, hk => by
    simp only [chk1, Bool.and_eq_true, Bool.or_eq_true] at h
    cases k with
    | zero =>
      simp at hk; subst hk
      rcases h.1 with (h | h) | h
      · exact .inl h
      · exact .inr (.inl h)
      · exact .inr (.inr ⟨by simpa using h.1, h.2⟩)
    | succ k =>
      have := chk1_at h.2 (by simpa using hk)
      rwa [show j0 + 1 + k = j0 + (k + 1) by omega] at this
theorem pairsOk_at {rs : List RG} {ps : List (Nat × Nat)} {b : List Nat} (h : pairsOk rs ps b = true) {i j : Nat} {ri rj : RG} (hi : rs[i]? = some ri) (hj : rs[j]? = some rj) (hji : j < i) : (b.getD i 0).testBit j = true ∨ comm rj ri = true ∨ ((j, i) ∈ ps ∧ farB rs (b.getD i 0) j rj ri = true) := by
  have hlt : i < rs.length := (List.getElem?_eq_some_iff.1 hi).1
  have h1 := List.all_eq_true.1 h i (List.mem_range.2 hlt)
  simp only [hi] at h1
  have := chk1_at h1 (k := j) (rj := rj) (by rw [List.getElem?_take_of_lt hji]; exact hj)
  simpa using this
theorem far_of {rs : List RG} {ps : List (Nat × Nat)} {s' : St} {i j bi : Nat} {rj ri : RG} {later : List Nat} (hj : rs[j]? = some rj) (hi : rs[i]? = some ri) (hp : (j, i) ∈ ps) (hB : farB rs bi j rj ri = true) (hS : farS rs ps s' = true)
    (hl : ∀ k ∈ later, bi.testBit k = false) : Far rs s' later j rj ri ∨ FarK rs s' later j rj ri := by
  have h1 := List.all_eq_true.1 hS (j, i) hp
  simp only [hj, hi] at h1
  unfold farB at hB
  split at hB
  · rename_i sz ag a b y hk ha1 ha2
    left
    simp only [Bool.and_eq_true, Option.isNone_iff_eq_none] at hB
    obtain ⟨⟨⟨g1, g2⟩, g3⟩, g4⟩ := hB
    simp only [hk, ha1, ha2] at h1
    split at h1
    · rename_i n1 o1 n2 o2 hv1 hv2
      refine ⟨a, b, y, sz, ag, n1, o1, n2, o2, g1, hk, ha1, g2, g3, ha2, hv1, hv2, ?_, ?_⟩
      · rintro rfl; simp at h1
      · intro k hk hjk r hr
        have h3 := List.all_eq_true.1 g4 k (List.mem_range.2 (List.getElem?_eq_some_iff.1 hr).1)
        simp only [hr, hl k hk, Bool.or_false, Bool.or_eq_true, decide_eq_true_eq, Bool.and_eq_true] at h3
        rcases h3 with h3 | h3
        · omega
        · exact ⟨by simpa using h3.1, by simpa using h3.2⟩
    · cases h1
  · rename_i ty es bytes hk
    right
    simp only [Bool.and_eq_true, Bool.not_eq_true'] at hB
    obtain ⟨g1, g2, g3, g4, g5⟩ := hB
    simp only [hk] at h1
    refine ⟨ty, es, bytes, g1, g2, g3, hk, g4, fun a ha => ?_⟩
    have h2 := List.all_eq_true.1 h1 a ha
    have h3 := List.all_eq_true.1 g5 a ha
    simp only [Bool.and_eq_true] at h3
    refine ⟨by simpa using h2, by simpa using h3.1, fun k hk hjk r hr => ?_⟩
    have h4 := List.all_eq_true.1 h3.2 k (List.mem_range.2 (List.getElem?_eq_some_iff.1 hr).1)
    simp only [hr, hl k hk, Bool.or_false, Bool.or_eq_true, decide_eq_true_eq] at h4
    rcases h4 with h4 | h4
    · omega
    · simpa using h4
  · cases hB

theorem allocB_ok {rs : List RG} (h : allocB rs = true) : allocOk rs := by
  intro i j r r' hne hi hj ha d hd
  have hil : i < rs.length := (List.getElem?_eq_some_iff.1 hi).1
  have := List.all_eq_true.1 h i (List.mem_range.2 hil)
  rw [hi] at this
  simp only [ha, hd, Bool.not_true, Bool.false_or] at this
  have hm : r' ∈ rs.eraseIdx i := List.mem_eraseIdx_iff_getElem?.2 ⟨j, Ne.symm hne, hj⟩
  have := List.all_eq_true.1 this r' hm
  simpa using this

section
variable {P : Program} {B nt : Nat} {w0 : World} {F0 : Fz} {s s' : St} {a : Act} {w : World}

theorem wpOp_of {ops : Array Oper} {Q : Exit → Act → World → Prop} {i : Nat} {o : Oper} (hi : ops[i]? = some o) {K : Act → World → Prop} {I : Act → World → Prop} (h : Does P ops o a w I) (hK : ∀ a w, I a w → K a w) : wpOp P ops Q i K a w := by
  unfold wpOp
  simp only [hi]
  have := h K Q hK
  split
  · rename_i hw; rw [if_pos hw] at this; exact .inl this
  · rename_i hw; rw [if_neg hw] at this; exact this

def Trs (P : Program) (nt : Nat) (ops : Array Oper) (rs : List RG) : Prop := rs.length = ops.size ∧ ∀ (i : Nat) (o : Oper), ops[i]? = some o → ∃ r : RG, rs[i]? = some r ∧ trOp P nt ops o = some r.base

theorem wpOps_of {ops : Array Oper} {rs : List RG} (ht : Trs P nt ops rs) {Q : Exit → Act → World → Prop} : ∀ {l : List Nat} {s s' : St} {a : Act} {w : World}, StepsI P rs l s s' → Inv B w0 F0 nt s a w → (∀ a w, Inv B w0 F0 nt s' a w → Q .normal a w) → wpOps P ops Q l a w
  | [], s, s', a, w, h, hi, hq => by cases h; exact hq a w hi
  | i :: l, s, s', a, w, h, hi, hq => by
    cases h with
    | cons hr h t =>
      rw [wpOps_cons]
      have hlt : i < ops.size := by rw [← ht.1]; exact (List.getElem?_eq_some_iff.1 hr).1
      obtain ⟨r', h1, h2⟩ := ht.2 i ops[i] (by simp [hlt])
      rw [hr] at h1; cases h1
      exact wpOp_of (by simp [hlt]) (step_sound h hi h2) fun a w hi => wpOps_of ht t hi hq

theorem Inv.drawn (h : Inv B w0 F0 nt s a w) (n : Nat) : Inv B w0 F0 nt s a { w with drawn := n } := by
  obtain ⟨F, m, h⟩ := h
  refine ⟨F, m, h.defers, h.size, ⟨h.below.os, h.below.tape, h.below.output, h.below.size, h.below.block⟩, h.base, h.on, h.fin, h.tmps, fun n x hx => ?_, h.inj, h.ownL, h.mfix, h.ntle⟩
  exact (h.own n x hx).keep (fun _ _ => rfl) F.le_refl fun _ _ _ => rfl

def ListedOk (ops : Array Oper) (listed : Array Bool) : Prop := ∀ i o, ops[i]? = some o → listed.getD i true = true → ∀ e ∈ o.after.toList, Region.binds .any e = true → listed.getD e.on false = true

theorem anc_listed {ops : Array Oper} {listed : Array Bool} {b : List Nat} (hm : maskChk b 0 ops.toList = true) (hsz : listed.size = ops.size) (hl : ListedOk ops listed) : ∀ (i : Nat) (o : Oper), ops[i]? = some o → (∀ e ∈ o.after.toList, Region.binds .any e = true → listed.getD e.on false = true) →
    ∀ j, (b.getD i 0).testBit j = true → listed.getD j false = true := by
  intro i
  induction i using Nat.strongRecOn with
  | _ i ih =>
    intro o ho hp j hj
    obtain ⟨h1, h2⟩ := maskChk_at (k := i) hm (by simpa using ho)
    simp only [Nat.zero_add] at h1 h2
    rw [h2] at hj
    obtain ⟨e, he, hb, h3⟩ := orL_bit hj
    have hle := hp e he hb
    rcases h3 with rfl | h3
    · exact hle
    · have hlt := h1 e he hb
      have hil : i < ops.size := (Array.getElem?_eq_some_iff.1 ho).1
      have hel : e.on < ops.size := by omega
      refine ih e.on hlt ops[e.on] (by simp [hel]) ?_ j h3
      refine hl e.on _ (by simp [hel]) ?_
      rw [Array.getD_eq_getD_getElem?] at hle ⊢
      have : e.on < listed.size := by omega
      simpa [this] using hle

theorem getD_eq {listed : Array Bool} {i : Nat} (h : i < listed.size) (x y : Bool) : listed.getD i x = listed.getD i y := by
  simp [Array.getD_eq_getD_getElem?, h]

theorem wpAny_of {ops : Array Oper} {rs : List RG} (ht : Trs P nt ops rs) {b : List Nat} (hm : maskChk b 0 ops.toList = true) {ps : List (Nat × Nat)} (hpo : pairsOk rs ps b = true) (hS : farS rs ps s' = true) (hal : allocOk rs) (hb : ∀ r ∈ rs, r.bare = true) {Q : Exit → Act → World → Prop}
    (hq : ∀ a w, Inv B w0 F0 nt s' a w → Q .normal a w) : ∀ (fuel : Nat) (listed : Array Bool) (l : List Nat) (s : St) (a : Act) (w : World), listed.size = ops.size → ListedOk ops listed → l = (List.range ops.size).filter (fun i => !listed.getD i true) → fuel = l.length → Fr rs l s →
    StepsI P rs l s s' → Inv B w0 F0 nt s a w → wpAny P .any ops Q fuel listed a w := by
  intro fuel
  induction fuel with
  | zero =>
    intro listed l s a w hsz hlo hl hn hf hst hi
    have : l = [] := List.eq_nil_of_length_eq_zero hn.symm
    subst this
    cases hst
    refine ⟨?_, hq a w hi⟩
    apply List.eq_nil_iff_forall_not_mem.2
    intro i hi'
    simp only [Region.ready, List.mem_filter, Bool.and_eq_true] at hi'
    have : i ∈ (List.range ops.size).filter (fun i => !listed.getD i true) := List.mem_filter.2 ⟨hi'.1, hi'.2.1⟩
    rw [← hl] at this; cases this
  | succ fuel ih =>
    intro listed l s a w hsz hlo hl hn hf hst hi
    have hnd : l.Nodup := by rw [hl]; exact List.Pairwise.filter _ List.nodup_range
    have hpw : l.Pairwise (· < ·) := by rw [hl]; exact List.Pairwise.filter _ List.pairwise_lt_range
    refine ⟨fun hr => ?_, fun i hi' => ?_⟩
    · exfalso
      cases hc : l with
      | nil => rw [hc] at hn; simp at hn
      | cons k l' =>
        have hk : k ∈ l := by rw [hc]; simp
        rw [hl] at hk
        obtain ⟨hk1, hk2⟩ := List.mem_filter.1 hk
        have hks : k < ops.size := List.mem_range.1 hk1
        have : k ∈ Region.ready .any ops listed := by
          refine List.mem_filter.2 ⟨hk1, ?_⟩
          simp only [Bool.and_eq_true]
          refine ⟨hk2, ?_⟩
          rw [Array.getElem?_eq_getElem hks]
          simp only [Option.map_some, Option.getD_some]
          rw [← Array.all_toList]
          refine List.all_eq_true.2 fun e he => ?_
          cases hbn : Region.binds .any e with
          | false => rfl
          | true =>
            simp only [Bool.not_true, Bool.false_or]
            obtain ⟨h1, _⟩ := maskChk_at (k := k) (o := ops[k]) hm (by simp [hks])
            have hlt := h1 e he hbn
            simp only [Nat.zero_add] at hlt
            cases hle : listed.getD e.on false with
            | true => rfl
            | false =>
              exfalso
              have hel : e.on < listed.size := by omega
              have : e.on ∈ l := by
                rw [hl]
                refine List.mem_filter.2 ⟨List.mem_range.2 (by omega), ?_⟩
                rw [getD_eq hel true false, hle]; rfl
              rw [hc] at this hpw
              rcases List.mem_cons.1 this with e1 | e1
              · omega
              · have := (List.pairwise_cons.1 hpw).1 _ e1; omega
        rw [hr] at this; cases this
    · obtain ⟨hi1, hi2⟩ := List.mem_filter.1 hi'
      simp only [Bool.and_eq_true] at hi2
      have his : i < ops.size := List.mem_range.1 hi1
      have hil : i ∈ l := by rw [hl]; exact List.mem_filter.2 ⟨hi1, hi2.1⟩
      obtain ⟨pre, post, hsplit⟩ := List.append_of_mem hil
      obtain ⟨ri, hri, htr⟩ := ht.2 i ops[i] (by simp [his])
      have hpreds : ∀ e ∈ (ops[i]).after.toList, Region.binds .any e = true → listed.getD e.on false = true := by
        have h2 := hi2.2
        rw [Array.getElem?_eq_getElem his] at h2
        simp only [Option.map_some, Option.getD_some] at h2
        rw [← Array.all_toList] at h2
        intro e he hbn
        have := List.all_eq_true.1 h2 e he
        simpa [hbn] using this
      have hcomm : ∀ j ∈ pre, ∀ rj, rs[j]? = some rj → comm rj ri = true ∨ Far rs s' (pre ++ post) j rj ri ∨ FarK rs s' (pre ++ post) j rj ri := by
        intro j hj rj hrj
        have hji : j < i := by
          rw [hsplit] at hpw
          exact (List.pairwise_append.1 hpw).2.2 j hj i (by simp)
        rcases pairsOk_at hpo hri hrj hji with h | h | h
        · exfalso
          have h1 := anc_listed hm hsz hlo i ops[i] (by simp [his]) hpreds j h
          have hjl : j ∈ l := by rw [hsplit]; simp [hj]
          rw [hl] at hjl
          have h2 := (List.mem_filter.1 hjl).2
          rw [getD_eq (by omega) true false, h1] at h2
          cases h2
        · exact .inl h
        · refine .inr (far_of hrj hri h.1 h.2 hS fun k hk => ?_)
          cases hbit : (b.getD i 0).testBit k with
          | false => rfl
          | true =>
            exfalso
            have h1 := anc_listed hm hsz hlo i ops[i] (by simp [his]) hpreds k hbit
            have hkl : k ∈ l := by
              rw [hsplit]
              rcases List.mem_append.1 hk with h | h
              · exact List.mem_append_left _ h
              · exact List.mem_append_right _ (List.mem_cons_of_mem _ h)
            rw [hl] at hkl
            have h3 := List.mem_filter.1 hkl
            have h2 := h3.2
            have := List.mem_range.1 h3.1
            rw [getD_eq (by omega) true false, h1] at h2
            cases h2
      rw [hsplit] at hst hf hnd hpw
      obtain ⟨t, g1, g2⟩ := move_front hal hb hri pre hnd hpw hcomm hf hst
      refine wpOp_of (by simp [his]) (step_sound g1 hi htr) fun a1 w1 hi1 => ?_
      have hnotin : i ∉ pre ++ post := by
        have h3 : (i :: (pre ++ post)).Nodup := List.perm_middle.nodup hnd
        exact (List.nodup_cons.1 h3).1
      refine ih (listed.setIfInBounds i true) (pre ++ post) t a1 w1 (by simp [hsz]) ?_ ?_ ?_ ?_ g2 hi1
      · intro k o ho hk e he hbn
        have hset : ∀ q x, (listed.setIfInBounds i true).getD q x = if q = i then true else listed.getD q x := fun q x => by
          simp only [Array.getD_eq_getD_getElem?, Array.getElem?_setIfInBounds]
          by_cases e1 : i = q
          · subst e1; simp [hsz, his]
          · simp [e1, Ne.symm e1]
        rw [hset] at hk ⊢
        split
        · rfl
        · by_cases e1 : k = i
          · subst e1
            have : ops[k]? = some ops[k] := by simp [his]
            rw [this] at ho; cases ho
            exact hpreds e he hbn
          · rw [if_neg e1] at hk
            exact hlo k o ho hk e he hbn
      · have h1 : (List.range ops.size).filter (fun k => !(listed.setIfInBounds i true).getD k true) = l.filter (fun k => decide (k ≠ i)) := by
          rw [hl, List.filter_filter]
          apply List.filter_congr
          intro k hk
          simp only [Array.getD_eq_getD_getElem?, Array.getElem?_setIfInBounds]
          by_cases e1 : i = k
          · subst e1; simp [hsz, his]
          · simp [e1, Ne.symm e1]
        rw [h1, hsplit, List.filter_append, List.filter_cons]
        simp only [ne_eq, not_true_eq_false, decide_false, Bool.false_eq_true, if_false]
        rw [List.filter_eq_self.2, List.filter_eq_self.2]
        · intro k hk; simp; rintro rfl; exact hnotin (by simp [hk])
        · intro k hk; simp; rintro rfl; exact hnotin (by simp [hk])
      · rw [hsplit] at hn; simp only [List.length_append, List.length_cons] at hn ⊢; omega
      · exact (hf.mono fun k hk => by
          rcases List.mem_append.1 hk with h | h
          · exact List.mem_append_left _ h
          · exact List.mem_append_right _ (List.mem_cons_of_mem _ h)).step hal hb hri g1 hnotin

theorem region_seq {ops : Array Oper} {rs : List RG} (ht : Trs P nt ops rs) {Q : Exit → Act → World → Prop} {id : Nat} (h : Steps P rs s s') (hi : Inv B w0 F0 nt s a w) (hq : ∀ a w, Inv B w0 F0 nt s' a w → Q .normal a w) : (Code.region id ops false).wp P Q a w := by
  refine wp_region ?_
  rw [← ht.1]
  exact wpOps_of ht h.range hi hq

theorem region_drawP {ps : List (Nat × Nat)} (hm : P.follows .mixedOrders = true) {ops : Array Oper} {rs : List RG} (ht : Trs P nt ops rs) (hok : drawOkP ops rs ps = true) (hS : farS rs ps s' = true) {Q : Exit → Act → World → Prop} {id : Nat} (hf : ∀ r ∈ rs, r.k.allocs = true → ∀ d, r.d = some d → s.fresh d) (h : Steps P rs s s') (hi : Inv B w0 F0 nt s a w)
    (hq : ∀ a w, Inv B w0 F0 nt s' a w → Q .normal a w) : (Code.region id ops true).wp P Q a w := by
  simp only [drawOkP, Bool.and_eq_true] at hok
  obtain ⟨⟨⟨⟨h1, h2⟩, h3⟩, h4⟩, h5⟩ := hok
  have hall : ∀ i, i < ops.size → (Array.replicate ops.size false).getD i true = false := fun i hi => by
    simp [Array.getD_eq_getD_getElem?, hi]
  have hl : List.range ops.size = (List.range ops.size).filter (fun i => !(Array.replicate ops.size false).getD i true) := by
    symm
    apply List.filter_eq_self.2
    intro i hi
    rw [hall i (List.mem_range.1 hi)]; rfl
  refine wp_region_any hm ?_
  refine wpAny_of ht h1 h2 hS (allocB_ok h3) (fun r hr => List.all_eq_true.1 h4 r hr) hq ops.size _ (List.range ops.size) s a _ (by simp) ?_ hl (by simp) ?_ ?_ (hi.drawn _)
  · intro i o ho hk
    rw [hall i (Array.getElem?_eq_some_iff.1 ho).1] at hk; cases hk
  · intro i hi r hr ha d hd
    exact hf r (List.mem_of_getElem? hr) ha d hd
  · rw [← ht.1]; exact h.range
theorem region_draw (hm : P.follows .mixedOrders = true) {ops : Array Oper} {rs : List RG} (ht : Trs P nt ops rs) (hok : drawOk ops rs = true) {Q : Exit → Act → World → Prop} {id : Nat} (hf : ∀ r ∈ rs, r.k.allocs = true → ∀ d, r.d = some d → s.fresh d) (h : Steps P rs s s') (hi : Inv B w0 F0 nt s a w)
    (hq : ∀ a w, Inv B w0 F0 nt s' a w → Q .normal a w) : (Code.region id ops true).wp P Q a w := region_drawP hm ht (ps := []) hok rfl hf h hi hq
end
end Go.Fw

set_option linter.unusedVariables false
set_option linter.unusedSimpArgs false
namespace Go.Fw
open Go.RowKit

inductive C where
  | skip
  | reg (rs : List RG)
  | regd (rs : List RG)
  | regs (rs : List RG) (ps : List (Nat × Nat))
  | seq (a b : C)
  | cond (c : Opd) (a b : C)
  | block (id : Nat) (c : C)
  | loop (c : C)
  | exit (id : Nat)
  | ret

inductive Ex where
  | n
  | exit (id : Nat)
  | ret
def Ex.x : Ex → Exit
  | .n => .normal
  | .exit id => .exit id
  | .ret => .ret

def trC (P : Program) (nt : Nat) : Code → Option C
  | .skip => some .skip
  | .region _ ops draw =>
    (mapO (trOp P nt ops) ops.toList).bind fun rs =>
      if draw then some (.regd rs) else some (.reg rs)
  | .seq a b => (trC P nt a).bind fun x => (trC P nt b).map fun y => .seq x y
  | .cond c a b => (trOpd nt c).bind fun o => (trC P nt a).bind fun x => (trC P nt b).map fun y => .cond o x y
  | .block id c => (trC P nt c).map (.block id)
  | .loop c => (trC P nt c).map .loop
  | .exit id => some (.exit id)
  | .ret => some .ret
  | _ => none

def drC (P : Program) : Code → C → Bool
  | .region _ ops true, .regd rs => P.follows .mixedOrders && drawOk ops rs
  | .region _ ops true, .regs rs ps => P.follows .mixedOrders && drawOkP ops rs ps
  | .region _ _ false, .reg _ => true
  | .seq a b, .seq x y => drC P a x && drC P b y
  | .cond _ a b, .cond _ x y => drC P a x && drC P b y
  | .block _ a, .block _ x => drC P a x
  | .loop a, .loop x => drC P a x
  | .skip, .skip => true
  | .exit _, .exit _ => true
  | .ret, .ret => true
  | _, _ => false

def C.base : C → C
  | .reg rs => .reg (rs.map RG.base)
  | .regd rs => .regd (rs.map RG.base)
  | .regs rs _ => .regd (rs.map RG.base)
  | .seq a b => .seq a.base b.base
  | .cond c a b => .cond c a.base b.base
  | .block id c => .block id c.base
  | .loop c => .loop c.base
  | c => c

def Weak (s s' : St) : Prop := ∀ B w0 F0 nt a w, Inv B w0 F0 nt s a w → Inv B w0 F0 nt s' a w

inductive Exec (P : Program) : C → St → Ex → St → Prop
  | skip (s : St) : Exec P .skip s .n s
  | reg {rs : List RG} {s s' : St} (h : Steps P rs s s') : Exec P (.reg rs) s .n s'
  | regd {rs : List RG} {s s' : St} (hf : ∀ r ∈ rs, r.k.allocs = true → ∀ d, r.d = some d → s.fresh d) (h : Steps P rs s s') : Exec P (.regd rs) s .n s'
  | regs {rs : List RG} {ps : List (Nat × Nat)} {s s' : St} (hf : ∀ r ∈ rs, r.k.allocs = true → ∀ d, r.d = some d → s.fresh d) (h : Steps P rs s s') (hS : farS rs ps s' = true) : Exec P (.regs rs ps) s .n s'
  | seqN {a b : C} {s s1 s2 : St} {e : Ex} (h1 : Exec P a s .n s1) (h2 : Exec P b s1 e s2) : Exec P (.seq a b) s e s2
  | seqX {a b : C} {s s1 : St} {e : Ex} (h1 : Exec P a s e s1) (he : e ≠ .n) : Exec P (.seq a b) s e s1
  | cond {c : Opd} {a b : C} {s s1 : St} {e : Ex} {t : Bool} (hc : s.ev c = .p (.v (.bool t))) (h : Exec P (if t then a else b) s e s1) : Exec P (.cond c a b) s e s1
  | blkN {id : Nat} {c : C} {s s1 : St} (h : Exec P c s .n s1) : Exec P (.block id c) s .n s1
  | blkE {id : Nat} {c : C} {s s1 : St} (h : Exec P c s (.exit id) s1) : Exec P (.block id c) s .n s1
  | blkX {id id' : Nat} {c : C} {s s1 : St} (h : Exec P c s (.exit id') s1) (hne : id' ≠ id) : Exec P (.block id c) s (.exit id') s1
  | blkR {id : Nat} {c : C} {s s1 : St} (h : Exec P c s .ret s1) : Exec P (.block id c) s .ret s1
  | loopN {c : C} {s s1 s2 : St} {e : Ex} (h1 : Exec P c s .n s1) (h2 : Exec P (.loop c) s1 e s2) : Exec P (.loop c) s e s2
  | loopX {c : C} {s s1 : St} {e : Ex} (h1 : Exec P c s e s1) (he : e ≠ .n) : Exec P (.loop c) s e s1
  | exit (id : Nat) (s : St) : Exec P (.exit id) s (.exit id) s
  | ret (s : St) : Exec P .ret s .ret s
  | weak {c : C} {s s1 s2 : St} {e : Ex} (hw : Weak s s1) (h : Exec P c s1 e s2) : Exec P c s e s2

def LoopWp (P : Program) (c : Code) (Q : Exit → Act → World → Prop) (a : Act) (w : World) : Prop :=
  ∀ (b : Frame) (k : List Item) (cs : List Frame), ∃ e a' w', Q e a' w' ∧ Arrives P (lone (b.at a (.code c :: .inLoop c :: k)) cs w) b k cs e a' w'

theorem LoopWp.round {P : Program} {c : Code} {Q : Exit → Act → World → Prop} {a : Act} {w : World} (h : c.wp P (Exit.then (LoopWp P c Q) Q) a w) : LoopWp P c Q a w := by
  intro b k cs
  obtain ⟨e, a1, w1, hq, harr⟩ := h b (.inLoop c :: k) cs
  cases e with
  | normal =>
    obtain ⟨e2, a2, w2, hq2, harr2⟩ := hq b k cs
    exact ⟨e2, a2, w2, hq2, .of_steps (Steps.trans harr (.one step_inLoop)) harr2⟩
  | exit id => exact ⟨_, a1, w1, hq, .pass (x := .inLoop c) rfl (fun _ _ => .inl (by simp)) harr⟩
  | goto l => exact ⟨_, a1, w1, hq, .pass (x := .inLoop c) rfl (fun _ _ => .inl (by simp)) harr⟩
  | ret => exact ⟨_, a1, w1, hq, .pass (x := .inLoop c) rfl (fun _ _ => .inl (by simp)) harr⟩
  | panic ch => exact ⟨_, a1, w1, hq, .pass (x := .inLoop c) rfl (fun _ _ => .inl (by simp)) harr⟩
  | outgrown => exact ⟨_, a1, w1, hq, .pass (x := .inLoop c) rfl (fun _ _ => .inl (by simp)) harr⟩
theorem LoopWp.loop {P : Program} {c : Code} {Q : Exit → Act → World → Prop} {a : Act} {w : World} (h : LoopWp P c Q a w) : (Code.loop c).wp P Q a w := by
  intro b k cs
  obtain ⟨e, a', w', hq, harr⟩ := h b k cs
  exact ⟨e, a', w', hq, .of_steps (.one step_loop) harr⟩

theorem trs_of0 {P : Program} {nt : Nat} {ops : Array Oper} {rs : List RG} (h : mapO (trOp P nt ops) ops.toList = some rs) : rs.length = ops.size ∧ ∀ (i : Nat) (o : Oper), ops[i]? = some o → ∃ r : RG, rs[i]? = some r ∧ trOp P nt ops o = some r := by
  have key : ∀ {l : List Oper} {rs : List RG}, mapO (trOp P nt ops) l = some rs → rs.length = l.length ∧ ∀ (i : Nat) (o : Oper), l[i]? = some o → ∃ r : RG, rs[i]? = some r ∧ trOp P nt ops o = some r := by
    intro l
    induction l with
    | nil => intro rs h; cases h; exact ⟨rfl, fun i o h => by simp at h⟩
    | cons o l ih =>
      intro rs h
      simp only [mapO, Option.bind_eq_some_iff, Option.map_eq_some_iff] at h
      obtain ⟨r, hr, rs', hrs, rfl⟩ := h
      obtain ⟨h1, h2⟩ := ih hrs
      refine ⟨by simp [h1], fun i o' ho => ?_⟩
      cases i with
      | zero => simp at ho; subst ho; exact ⟨r, rfl, hr⟩
      | succ i => exact h2 i o' (by simpa using ho)
  obtain ⟨h1, h2⟩ := key h
  exact ⟨by simpa using h1, fun i o ho => h2 i o (by simpa using ho)⟩

theorem trs_of {P : Program} {nt : Nat} {ops : Array Oper} {rs : List RG} (h : mapO (trOp P nt ops) ops.toList = some (rs.map RG.base)) : Trs P nt ops rs := by
  obtain ⟨h1, h2⟩ := trs_of0 h
  refine ⟨by simpa using h1, fun i o ho => ?_⟩
  obtain ⟨r, hr, ht⟩ := h2 i o ho
  rw [List.getElem?_map, Option.map_eq_some_iff] at hr
  obtain ⟨r', hr', rfl⟩ := hr
  exact ⟨r', hr', ht⟩
theorem trs_of1 {P : Program} {nt : Nat} {ops : Array Oper} {rs : List RG} (h : mapO (trOp P nt ops) ops.toList = some rs) : Trs P nt ops rs := by
  obtain ⟨h1, h2⟩ := trs_of0 h
  refine ⟨h1, fun i o ho => ?_⟩
  obtain ⟨r, hr, ht⟩ := h2 i o ho
  exact ⟨r, hr, trOp_base ht⟩

theorem exec_sound {P : Program} {nt : Nat} {c : C} {s s' : St} {e : Ex} (h : Exec P c s e s') :
    (∀ code, trC P nt code = some c.base → drC P code c = true → ∀ {B : Nat} {w0 : World} {F0 : Fz} {a : Act} {w : World}, Inv B w0 F0 nt s a w → ∀ Q : Exit → Act → World → Prop, (∀ a w, Inv B w0 F0 nt s' a w → Q e.x a w) → code.wp P Q a w) ∧
    (∀ c', c = .loop c' → ∀ body, trC P nt body = some c'.base → drC P body c' = true → ∀ {B : Nat} {w0 : World} {F0 : Fz} {a : Act} {w : World}, Inv B w0 F0 nt s a w → ∀ Q : Exit → Act → World → Prop, (∀ a w, Inv B w0 F0 nt s' a w → Q e.x a w) → LoopWp P body Q a w) := by
  have inv0 : ∀ {code : Code} {c : C}, trC P nt code = some c →
      (c = .skip → code = .skip) ∧ (∀ rs, c = .reg rs → ∃ id ops, code = .region id ops false ∧ mapO (trOp P nt ops) ops.toList = some rs) ∧
      (∀ rs, c = .regd rs → ∃ id ops, code = .region id ops true ∧ mapO (trOp P nt ops) ops.toList = some rs) ∧
      (∀ x y, c = .seq x y → ∃ a b, code = .seq a b ∧ trC P nt a = some x ∧ trC P nt b = some y) ∧
      (∀ o x y, c = .cond o x y → ∃ o' a b, code = .cond o' a b ∧ trOpd nt o' = some o ∧ trC P nt a = some x ∧ trC P nt b = some y) ∧
      (∀ id x, c = .block id x → ∃ a, code = .block id a ∧ trC P nt a = some x) ∧
      (∀ x, c = .loop x → ∃ a, code = .loop a ∧ trC P nt a = some x) ∧
      (∀ id, c = .exit id → code = .exit id) ∧ (c = .ret → code = .ret) := by
    intro code c h
    cases code <;> simp only [trC, Option.bind_eq_some_iff, Option.map_eq_some_iff] at h <;> try (cases h; done)
    case skip => cases h; simp
    case region id ops draw =>
      obtain ⟨rs, hrs, h⟩ := h
      cases draw
      · simp at h; subst h; simp; exact ⟨_, _, ⟨rfl, rfl⟩, hrs⟩
      · simp at h; subst h; simp; exact ⟨_, _, ⟨rfl, rfl⟩, hrs⟩
    case seq a b => obtain ⟨x, hx, y, hy, rfl⟩ := h; simp; exact ⟨_, _, ⟨rfl, rfl⟩, hx, hy⟩
    case cond o a b => obtain ⟨o', ho, x, hx, y, hy, rfl⟩ := h; simp; exact ⟨_, _, _, ⟨rfl, rfl, rfl⟩, ho, hx, hy⟩
    case block id a => obtain ⟨x, hx, rfl⟩ := h; simp [hx]
    case loop a => obtain ⟨x, hx, rfl⟩ := h; simp [hx]
    case exit id => cases h; simp
    case ret => cases h; simp
  have inv : ∀ {code : Code} {c : C}, trC P nt code = some c.base → drC P code c = true →
      (c = .skip → code = .skip) ∧ (∀ rs, c = .reg rs → ∃ id ops, code = .region id ops false ∧ Trs P nt ops rs) ∧
      (∀ rs, c = .regd rs → ∃ id ops, code = .region id ops true ∧ Trs P nt ops rs ∧ P.follows .mixedOrders = true ∧ drawOk ops rs = true) ∧
      (∀ x y, c = .seq x y → ∃ a b, code = .seq a b ∧ (trC P nt a = some x.base ∧ drC P a x = true) ∧ trC P nt b = some y.base ∧ drC P b y = true) ∧
      (∀ o x y, c = .cond o x y → ∃ o' a b, code = .cond o' a b ∧ trOpd nt o' = some o ∧ (trC P nt a = some x.base ∧ drC P a x = true) ∧ trC P nt b = some y.base ∧ drC P b y = true) ∧
      (∀ id x, c = .block id x → ∃ a, code = .block id a ∧ trC P nt a = some x.base ∧ drC P a x = true) ∧
      (∀ x, c = .loop x → ∃ a, code = .loop a ∧ trC P nt a = some x.base ∧ drC P a x = true) ∧
      (∀ id, c = .exit id → code = .exit id) ∧ (c = .ret → code = .ret) ∧
      (∀ rs ps, c = .regs rs ps → ∃ id ops, code = .region id ops true ∧ Trs P nt ops rs ∧ P.follows .mixedOrders = true ∧ drawOkP ops rs ps = true) := by
    intro code c h hd
    have g := inv0 h
    refine ⟨?_, ?_, ?_, ?_, ?_, ?_, ?_, ?_, ?_, ?_⟩
    · rintro rfl; exact g.1 rfl
    · rintro rs rfl; obtain ⟨id, ops, h1, h2⟩ := g.2.1 _ rfl; exact ⟨id, ops, h1, trs_of h2⟩
    · rintro rs rfl
      obtain ⟨id, ops, rfl, h2⟩ := g.2.2.1 _ rfl
      simp only [drC, Bool.and_eq_true] at hd
      exact ⟨id, ops, rfl, trs_of h2, hd⟩
    · rintro x y rfl
      obtain ⟨a, b, rfl, h1, h2⟩ := g.2.2.2.1 _ _ rfl
      simp only [drC, Bool.and_eq_true] at hd
      exact ⟨a, b, rfl, ⟨h1, hd.1⟩, h2, hd.2⟩
    · rintro o x y rfl
      obtain ⟨o', a, b, rfl, ho, h1, h2⟩ := g.2.2.2.2.1 _ _ _ rfl
      simp only [drC, Bool.and_eq_true] at hd
      exact ⟨o', a, b, rfl, ho, ⟨h1, hd.1⟩, h2, hd.2⟩
    · rintro id x rfl
      obtain ⟨a, rfl, h1⟩ := g.2.2.2.2.2.1 _ _ rfl
      exact ⟨a, rfl, h1, by simpa only [drC] using hd⟩
    · rintro x rfl
      obtain ⟨a, rfl, h1⟩ := g.2.2.2.2.2.2.1 _ rfl
      exact ⟨a, rfl, h1, by simpa only [drC] using hd⟩
    · rintro id rfl; exact g.2.2.2.2.2.2.2.1 _ rfl
    · rintro rfl; exact g.2.2.2.2.2.2.2.2 rfl
    · rintro rs ps rfl
      obtain ⟨id, ops, rfl, h2⟩ := g.2.2.1 _ rfl
      simp only [drC, Bool.and_eq_true] at hd
      exact ⟨id, ops, rfl, trs_of h2, hd⟩
  have noloop : ∀ {c c' : C} {X : Prop}, (∀ x, c ≠ .loop x) → c = .loop c' → X := fun h e => absurd e (h _)
  induction h with
  | skip s =>
    refine ⟨fun code ht hd B w0 F0 a w hi Q hq => ?_, fun c' e => noloop (by simp) e⟩
    obtain rfl := (inv ht hd).1 rfl
    exact wp_skip (hq _ _ hi)
  | reg h =>
    refine ⟨fun code ht hd B w0 F0 a w hi Q hq => ?_, fun c' e => noloop (by simp) e⟩
    obtain ⟨id, ops, rfl, htr⟩ := (inv ht hd).2.1 _ rfl
    exact region_seq htr h hi hq
  | regd hf h =>
    refine ⟨fun code ht hd B w0 F0 a w hi Q hq => ?_, fun c' e => noloop (by simp) e⟩
    obtain ⟨id, ops, rfl, htr, hm, hok⟩ := (inv ht hd).2.2.1 _ rfl
    exact region_draw hm htr hok hf h hi hq
  | regs hf h hS =>
    refine ⟨fun code ht hd B w0 F0 a w hi Q hq => ?_, fun c' e => noloop (by simp) e⟩
    obtain ⟨id, ops, rfl, htr, hm, hok⟩ := (inv ht hd).2.2.2.2.2.2.2.2.2 _ _ rfl
    exact region_drawP hm htr hok hS hf h hi hq
  | seqN h1 h2 ih1 ih2 =>
    refine ⟨fun code ht hd B w0 F0 a w hi Q hq => ?_, fun c' e => noloop (by simp) e⟩
    obtain ⟨x, y, rfl, hx, hy⟩ := (inv ht hd).2.2.2.1 _ _ rfl
    exact wp_seq (ih1.1 x hx.1 hx.2 hi _ fun a w hi => ih2.1 y hy.1 hy.2 hi Q hq)
  | seqX h1 he ih1 =>
    rename_i a0 b0 s0 s1 ex
    refine ⟨fun code ht hd B w0 F0 a w hi Q hq => ?_, fun c' e => noloop (by simp) e⟩
    obtain ⟨x, y, rfl, hx, hy⟩ := (inv ht hd).2.2.2.1 _ _ rfl
    refine wp_seq (ih1.1 x hx.1 hx.2 hi _ fun a w hi => ?_)
    have := hq a w hi
    cases ex
    · exact absurd rfl he
    · exact this
    · exact this
  | cond hc h ih =>
    refine ⟨fun code ht hd B w0 F0 a w hi Q hq => ?_, fun c' e => noloop (by simp) e⟩
    obtain ⟨o, x, y, rfl, ho, hx, hy⟩ := (inv ht hd).2.2.2.2.1 _ _ _ rfl
    obtain ⟨F, m, hp⟩ := id hi
    have h1 := trOpd_rep hp ho
    rw [hc] at h1
    have h2 : a.eval o = _ := Rep.v_inv h1
    refine wp_cond h2 ?_
    split
    · rename_i ht'; rw [if_pos ht'] at ih; exact ih.1 x hx.1 hx.2 hi Q hq
    · rename_i ht'; rw [if_neg ht'] at ih; exact ih.1 y hy.1 hy.2 hi Q hq
  | blkN h ih =>
    refine ⟨fun code ht hd B w0 F0 a w hi Q hq => ?_, fun c' e => noloop (by simp) e⟩
    obtain ⟨x, rfl, hx⟩ := (inv ht hd).2.2.2.2.2.1 _ _ rfl
    exact wp_block (ih.1 x hx.1 hx.2 hi _ hq)
  | blkE h ih =>
    refine ⟨fun code ht hd B w0 F0 a w hi Q hq => ?_, fun c' e => noloop (by simp) e⟩
    obtain ⟨x, rfl, hx⟩ := (inv ht hd).2.2.2.2.2.1 _ _ rfl
    exact wp_block (ih.1 x hx.1 hx.2 hi _ fun a w hi => by simp only [Ex.x, Exit.inBlock, if_true]; exact hq a w hi)
  | blkX h hne ih =>
    refine ⟨fun code ht hd B w0 F0 a w hi Q hq => ?_, fun c' e => noloop (by simp) e⟩
    obtain ⟨x, rfl, hx⟩ := (inv ht hd).2.2.2.2.2.1 _ _ rfl
    exact wp_block (ih.1 x hx.1 hx.2 hi _ fun a w hi => by simp only [Ex.x, Exit.inBlock, hne, if_false]; exact hq a w hi)
  | blkR h ih =>
    refine ⟨fun code ht hd B w0 F0 a w hi Q hq => ?_, fun c' e => noloop (by simp) e⟩
    obtain ⟨x, rfl, hx⟩ := (inv ht hd).2.2.2.2.2.1 _ _ rfl
    exact wp_block (ih.1 x hx.1 hx.2 hi _ hq)
  | loopN h1 h2 ih1 ih2 =>
    have key : ∀ body, trC P nt body = some (C.base _) → drC P body _ = true → ∀ {B : Nat} {w0 : World} {F0 : Fz} {a : Act} {w : World}, Inv B w0 F0 nt _ a w → ∀ Q : Exit → Act → World → Prop, (∀ a w, Inv B w0 F0 nt _ a w → Q _ a w) → LoopWp P body Q a w :=
      fun body hb hbd B w0 F0 a w hi Q hq => LoopWp.round (ih1.1 body hb hbd hi _ fun a w hi => ih2.2 _ rfl body hb hbd hi Q hq)
    refine ⟨fun code ht hd B w0 F0 a w hi Q hq => ?_, fun c' e => ?_⟩
    · obtain ⟨x, rfl, hx⟩ := (inv ht hd).2.2.2.2.2.2.1 _ rfl
      exact (key x hx.1 hx.2 hi Q hq).loop
    · cases e; exact key
  | loopX h1 he ih1 =>
    rename_i c s s1 ex
    have key : ∀ body, trC P nt body = some c.base → drC P body c = true → ∀ {B : Nat} {w0 : World} {F0 : Fz} {a : Act} {w : World}, Inv B w0 F0 nt s a w → ∀ Q : Exit → Act → World → Prop, (∀ a w, Inv B w0 F0 nt s1 a w → Q ex.x a w) → LoopWp P body Q a w := by
      intro body hb hbd B w0 F0 a w hi Q hq
      refine LoopWp.round (ih1.1 body hb hbd hi _ fun a w hi => ?_)
      have := hq a w hi
      cases ex
      · exact absurd rfl he
      · exact this
      · exact this
    refine ⟨fun code ht hd B w0 F0 a w hi Q hq => ?_, fun c' e => ?_⟩
    · obtain ⟨x, rfl, hx⟩ := (inv ht hd).2.2.2.2.2.2.1 _ rfl
      exact (key x hx.1 hx.2 hi Q hq).loop
    · cases e; exact key
  | exit id s =>
    refine ⟨fun code ht hd B w0 F0 a w hi Q hq => ?_, fun c' e => noloop (by simp) e⟩
    obtain rfl := (inv ht hd).2.2.2.2.2.2.2.1 _ rfl
    exact wp_exit (hq _ _ hi)
  | ret s =>
    refine ⟨fun code ht hd B w0 F0 a w hi Q hq => ?_, fun c' e => noloop (by simp) e⟩
    obtain rfl := (inv ht hd).2.2.2.2.2.2.2.2.1 rfl
    exact wp_ret (hq _ _ hi)
  | weak hw h ih =>
    exact ⟨fun code ht hd B w0 F0 a w hi Q hq => ih.1 code ht hd (hw _ _ _ _ _ _ hi) Q hq, fun c' e body hb hbd B w0 F0 a w hi Q hq => ih.2 c' e body hb hbd (hw _ _ _ _ _ _ hi) Q hq⟩

end Go.Fw

set_option linter.unusedVariables false
set_option linter.unusedSimpArgs false
namespace Go.Fw
open Go.RowKit

inductive RV where
  | t (n : Nat)
  | c (n sz : Nat) (ag : Bool)
def trRes (P : Program) (nt : Nat) : ResultVar → Option RV
  | .tmp t => if t < nt then some (.t t) else none
  | .cell a t => match P.underlying t with | some d => if a < nt ∧ (isAggD d || P.cellsOf t == 1) = true then some (.c a (P.cellsOf t) (isAggD d)) else none | none => none

def St.outV (s : St) : RV → Option (PV × List Nat)
  | .t n => (s.res (.t n)).bind fun a => a.pv.map fun p => (p, a.frz)
  | .c n sz ag => match s.res (.t n) with
    | some (.own _ off cells) => (ldv cells off sz ag).map fun p => (p, [])
    | _ => none
def St.out (s : St) : List RV → Option (PV × List Nat)
  | [] => some (.tup [], [])
  | [x] => s.outV x
  | [x, y] => (s.outV x).bind fun p => (s.outV y).map fun q => (.tup [p.1, q.1], p.2 ++ q.2)
  | _ => none

def St.init (ps : List PV) : St := ⟨fun k => .p (ps[k]?.getD .any), fun _ => none⟩

theorem inv_init {P : Program} {nt : Nat} {ps : List PV} {w : World} {F : Fz} {ys : List Value} (hf : FzIn w F) (hr : RepL F ps ys) (h9 : nt ≤ LN) (hn : ps.length ≤ nt) :
    Inv w.heap.size w F nt (St.init ps) { tmps := ys.toArray ++ Array.replicate (nt - ys.toArray.size) undef, defers := [] } w := by
  refine ⟨F, fun n => if n = LN then (some w.heap.size, w.drawn) else (none, 0), rfl, ?_, BelowX.refl _ _, Nat.le_refl _, FzOn.refl _ _, hf, fun k hk => ?_, fun n x hx => ?_, fun n n' b hn => ?_, fun n b hn => ?_, by simp, h9⟩
  · have := hr.1; simp; omega
  · simp only [St.init, RepT]
    have hl := hr.1
    rw [Array.getD_eq_getD_getElem?, Array.getElem?_append]
    by_cases h : k < ps.length
    · have hk' : k < ys.toArray.size := by simpa [hl] using h
      rw [if_pos hk']
      have h1 : ps[k]? = some ps[k] := by simp [h]
      have hy : k < ys.length := by omega
      have h2 : ys[k]? = some ys[k] := by simp [hy]
      simp only [List.getElem?_toArray, h2, Option.getD_some, h1]
      exact hr.2 k _ _ h1 h2
    · have : ps[k]? = none := List.getElem?_eq_none_iff.2 (by omega)
      rw [this]; exact Rep.any _
  · cases hx
  · cases hn
  · cases hn

def oneRes (tmps : Array Value) : ResultVar → Sem Value
  | .tmp t => pure (tmps.getD t undef)
  | .cell a t => do loadVar t (← asAddr (tmps.getD a undef))
theorem results_eq (fn : Func) (tmps : Array Value) : results fn tmps = (do
    let vs ← fn.results.mapM (oneRes tmps)
    pure (if h : vs.size = 1 then vs[0] else .tuple vs)) := rfl

theorem outV_rep {P : Program} {B nt : Nat} {w0 : World} {F0 : Fz} {s : St} {o0 : Nat → Option Own} {a : Act} {w : World} {F : Fz} {m : Mp} {ns : List Nat} (h : InvP B w0 F0 nt ⟨s.t, frzO s.o ns⟩ a w F m) (hfil : ∀ n ∈ ns, ∀ x, s.o n = some x → Filled F (m n) x) {rv : ResultVar} {x : RV} (ht : trRes P nt rv = some x)
    {p : PV} {fs : List Nat} (hp : s.outV x = some (p, fs)) (hns : ∀ n ∈ fs, n ∈ ns) :
    ∃ v, (oneRes a.tmps rv).run P w = .ok v w ∧ Rep F p v := by
  cases rv with
  | tmp t =>
    simp only [trRes] at ht
    split at ht
    · rename_i hlt; cases ht
      simp only [St.outV, Option.bind_eq_some_iff, Option.map_eq_some_iff] at hp
      obtain ⟨ra, hra, q, hq, he⟩ := hp
      cases he
      refine ⟨_, rfl, ?_⟩
      exact (h.arg hfil hra (h.tmps t hlt)).pv hns hq
    · cases ht
  | cell c t =>
    simp only [trRes] at ht
    split at ht
    · rename_i d hd
      split at ht
      · rename_i hok; cases ht
        simp only [St.outV] at hp
        split at hp
        · rename_i n off cells hra
          obtain ⟨q, hq, he⟩ := Option.map_eq_some_iff.1 hp
          cases he
          obtain ⟨b, ys, hb, hv, hr, h1, hc, _⟩ := h.arg hfil hra (h.tmps c hok.1)
          obtain ⟨v, hrun, hrep⟩ := ldv_run (o0 := 0) (b := b) hd hok.2 hr h1 (fun j y e => by rw [Nat.zero_add]; exact hc j y e) hq
          rw [Nat.zero_add] at hrun
          exact ⟨v, by simp [oneRes, hv, asAddr, hrun], hrep⟩
        · cases hp
      · cases ht
    · cases ht

theorem ret_of {P : Program} {f : FuncId} {fn : Func} {body : Code} {c : C} {nt : Nat} {ps : List PV} {rvs : List RV} {p : PV} (hf : P.funcs[f]? = some fn) (hb : fn.body = some body) (hname : (fn.name == "runtime.NumGoroutine") = false) (hnt : fn.ntmps = nt)
    (hr : mapO (trRes P nt) fn.results.toList = some rvs) (ht : trC P nt body = some c.base) (hdr : drC P body c = true) (h9 : Nat.ble nt LN = true) (hn : ps.length ≤ nt)
    (h : ∃ e s', Exec P c (St.init ps) e s' ∧ (∀ id, e ≠ .exit id) ∧ ∃ ns, s'.out rvs = some (p, ns)) : Ret P f ps p := by
  constructor
  · intro args w
    have hne : ¬ fn.name = "runtime.NumGoroutine" := by simpa using hname
    simp [callFunc, hf, hne, hb]
  · intro w F ys hfin hrep
    obtain ⟨e, s', hex, he, ns, hout⟩ := h
    refine calls_of_wp hf hb ?_
    rw [hnt]
    refine (exec_sound hex).1 body ht hdr (inv_init (P := P) hfin hrep (Nat.le_of_ble_eq_true h9) hn) _ fun a w' hi => ?_
    have goal : a.defers = [] ∧ ∃ v, (results fn a.tmps).run P w' = .ok v w' ∧ ∃ v' F', (Ending.returned v = .returned v') ∧ Rep F' p v' ∧ FzIn w' F' ∧ FzOn w.heap.size F F' ∧ Below w.heap.size w w' := by
      obtain ⟨F1, m, h1⟩ := hi
      obtain ⟨F2, h2, hle, hfil⟩ := h1.frz ns
      refine ⟨h2.defers, ?_⟩
      have hres : ∃ v, (results fn a.tmps).run P w' = .ok v w' ∧ Rep F2 p v := by
        obtain ⟨name, origin, targs, params, rts, nfree, ntmps, ⟨rs⟩, fbody, norace, ours, file, endLine, litNo, met, tmpNames⟩ := fn
        simp only at hr
        match rs, rvs, hr, hout with
        | [], _, hr, hout =>
          cases hr; cases hout
          exact ⟨.tuple #[], by simp [results_eq], by simpa using Rep.tup (F := F2) [] [] rfl (by simp)⟩
        | [r1], _, hr, hout =>
          simp only [mapO, Option.bind_eq_some_iff, Option.map_eq_some_iff] at hr
          obtain ⟨x, hx, _, h3, rfl⟩ := hr
          cases h3
          obtain ⟨v, hv, hrp⟩ := outV_rep (P := P) (o0 := s'.o) h2 hfil hx hout (fun _ h => h)
          refine ⟨v, ?_, hrp⟩
          simp [results_eq, hv]
        | [r1, r2], _, hr, hout =>
          simp only [mapO, Option.bind_eq_some_iff, Option.map_eq_some_iff] at hr
          obtain ⟨x, hx, _, ⟨y, hy, _, h3, rfl⟩, rfl⟩ := hr
          cases h3
          simp only [St.out, Option.bind_eq_some_iff, Option.map_eq_some_iff] at hout
          obtain ⟨⟨p1, n1⟩, hp1, ⟨p2, n2⟩, hp2, he⟩ := hout
          cases he
          obtain ⟨v1, hv1, hr1⟩ := outV_rep (P := P) (o0 := s'.o) h2 hfil hx hp1 (fun _ h => List.mem_append_left _ h)
          obtain ⟨v2, hv2, hr2⟩ := outV_rep (P := P) (o0 := s'.o) h2 hfil hy hp2 (fun _ h => List.mem_append_right _ h)
          refine ⟨.tuple #[v1, v2], ?_, by simpa using Rep.tup (F := F2) [p1, p2] [v1, v2] rfl (RepL.cons hr1 (RepL.cons hr2 RepL.nil)).2⟩
          simp [results_eq, hv1, hv2]
        | r1 :: r2 :: r3 :: rest, _, hr, hout =>
          simp only [mapO, Option.bind_eq_some_iff, Option.map_eq_some_iff] at hr
          obtain ⟨x, hx, _, ⟨y, hy, _, ⟨z, hz, _, h3, rfl⟩, rfl⟩, rfl⟩ := hr
          simp only [St.out] at hout
          cases hout
      obtain ⟨v, hv, hrp⟩ := hres
      exact ⟨v, hv, v, F2, rfl, hrp, h2.fin, h2.on, h2.below.below⟩
    cases e with
    | n => exact goal
    | ret => exact goal
    | exit id => exact absurd rfl (he id)
theorem retN_of {P : Program} {f : FuncId} {fn : Func} {body : Code} {c : C} {nt t ty es : Nat} {ps : List PV} {zs : List (List PV)} (hf : P.funcs[f]? = some fn) (hb : fn.body = some body) (hname : (fn.name == "runtime.NumGoroutine") = false) (hnt : fn.ntmps = nt)
    (hr : fn.results = #[.tmp t]) (htn : t < nt) (ht : trC P nt body = some c.base) (hdr : drC P body c = true) (h9 : Nat.ble nt LN = true) (hn : ps.length ≤ nt)
    (h : ∃ e s', Exec P c (St.init ps) e s' ∧ (∀ id, e ≠ .exit id) ∧ ((s'.t t = .nil ∧ zs = []) ∨ ∃ n, s'.t t = .row n zs.length ∧ s'.o n = some (.row ty es zs false))) : RetN P f ps ty es zs := by
  constructor
  · intro args w
    have hne : ¬ fn.name = "runtime.NumGoroutine" := by simpa using hname
    simp [callFunc, hf, hne, hb]
  · intro w F ys hfin hrep
    obtain ⟨e, s', hex, he, hor⟩ := h
    refine calls_of_wp hf hb ?_
    rw [hnt]
    refine (exec_sound hex).1 body ht hdr (inv_init (P := P) hfin hrep (Nat.le_of_ble_eq_true h9) hn) _ fun a w' hi => ?_
    have goal : a.defers = [] ∧ ∃ v, (results fn a.tmps).run P w' = .ok v w' ∧ ∃ v' F' us, (Ending.returned v = .returned v') ∧ RowIs F' w' w.heap.size ty es v' zs us ∧ FzIn w' F' ∧ FzOn w.heap.size F F' ∧ Below w.heap.size w w' := by
      obtain ⟨F1, m, h1⟩ := hi
      refine ⟨h1.defers, a.tmps.getD t undef, ?_, ?_⟩
      · rw [results_eq, hr]
        simp [oneRes]
      · have hv := h1.tmps t htn
        rcases hor with ⟨hsn, rfl⟩ | ⟨n, hsn, hon⟩
        · rw [hsn] at hv
          refine ⟨_, F1, [], rfl, ?_, h1.fin, h1.on, h1.below.below⟩
          rw [show a.tmps.getD t undef = .slice none 0 0 from hv]
          exact ⟨World.ownsRow_nil w' _ ty es, RepL.nil, by simp, by simp, fun _ => rfl, by simp [Value.ownBlock]⟩
        · obtain ⟨us, hri⟩ := (h1.own n _ hon).rowIs
          rw [hsn] at hv
          refine ⟨_, F1, us, rfl, ?_, h1.fin, h1.on, h1.below.below⟩
          rw [hv.1]; exact hri
    cases e with
    | n => exact goal
    | ret => exact goal
    | exit id => exact absurd rfl (he id)
def St.initU (len : Nat) (ps : List PV) (ty es : Nat) (xs : List (List PV)) : St := ⟨fun k => match k with | 0 => .row LN len | k + 1 => .p (ps[k]?.getD .any), fun n => if n = LN then some (.row ty es xs false) else none⟩

theorem inv_initU {nt ty es : Nat} {xs : List (List PV)} {ps : List PV} {w : World} {F : Fz} {g cap : Nat} {us ys : List Value} (hf : FzIn w F) (hr : RepL F ps ys) (hv : RowIs F w g ty es (.slice (some ⟨g, 0, none⟩) xs.length cap) xs us) (h9 : nt ≤ LN) (hn : ps.length + 1 ≤ nt) :
    Inv g { w with drawn := cap } F nt (St.initU xs.length ps ty es xs) { tmps := (.slice (some ⟨g, 0, none⟩) xs.length cap :: ys).toArray ++ Array.replicate (nt - (.slice (some ⟨g, 0, none⟩) xs.length cap :: ys : List Value).toArray.size) undef, defers := [] } w := by
  have hgw : g < w.heap.size := (hv.ge rfl).2
  refine ⟨F, fun n => if n = LN then (some g, cap) else (none, 0), rfl, ?_, ⟨rfl, rfl, rfl, Nat.le_refl _, fun _ _ _ => rfl⟩, Nat.le_of_lt hgw, FzOn.refl _ _, hf, fun k hk => ?_, fun n x hx => ?_, fun n n' b hn hn' _ _ => ?_, fun n b hn hb => ?_, by simp, h9⟩
  · have := hr.1; simp; omega
  · rw [Array.getD_eq_getD_getElem?, Array.getElem?_append]
    have hl := hr.1
    cases k with
    | zero =>
      simp only [St.initU, RepT]
      simp [rowVal]
    | succ k =>
      simp only [St.initU, RepT]
      by_cases h : k < ps.length
      · rw [if_pos (by simp; omega)]
        have h1 : ps[k]? = some ps[k] := by simp [h]
        have hy : k < ys.length := by omega
        have h2 : ys[k]? = some ys[k] := by simp [hy]
        simp only [List.getElem?_toArray, List.getElem?_cons_succ, h2, Option.getD_some, h1]
        exact hr.2 k _ _ h1 h2
      · have : ps[k]? = none := List.getElem?_eq_none_iff.2 (by omega)
        rw [this]; exact Rep.any _
  · simp only [St.initU] at hx
    split at hx
    · rename_i e; subst e; cases hx
      have := hv.ownOk
      simpa [Value.ownBlock, capOf] using this
    · cases hx
  · simp only [St.initU] at hn hn'
    have e1 : n = LN := by by_cases e : n = LN; exact e; simp [e] at hn
    have e2 : n' = LN := by by_cases e : n' = LN; exact e; simp [e] at hn'
    rw [e1, e2]
  · have e1 : n = LN := by by_cases e : n = LN; exact e; simp [St.initU, e] at hn
    subst e1
    simp only [if_true] at hb
    left; cases hb; rfl

theorem retU_of {P : Program} {f : FuncId} {fn : Func} {body : Code} {c : C} {nt ty es : Nat} {ps : List PV} {xs zs : List (List PV)} (hf : P.funcs[f]? = some fn) (hb : fn.body = some body) (hname : (fn.name == "runtime.NumGoroutine") = false) (hnt : fn.ntmps = nt)
    (hr : fn.results = #[]) (ht : trC P nt body = some c.base) (hdr : drC P body c = true) (h9 : Nat.ble nt LN = true) (hn : ps.length + 1 ≤ nt) (hzl : zs.length = xs.length) (hx : xs ≠ []) (hlv : ∀ p ∈ zs.flatten, ∃ x, p = .v x)
    (h : ∃ e s', Exec P c (St.initU xs.length ps ty es xs) e s' ∧ (∀ id, e ≠ .exit id) ∧ ∃ fz, s'.o LN = some (.row ty es zs fz)) : RetU P f ty es xs ps zs := by
  refine ⟨hzl, ?_, ?_⟩
  · intro args w
    have hne : ¬ fn.name = "runtime.NumGoroutine" := by simpa using hname
    simp [callFunc, hf, hne, hb]
  · intro w F B v us ys hfin hrep hB hv
    obtain ⟨g, cap, cur, rfl, hBg, hg, hle, hm, hcs, hus, hnone⟩ : ∃ g cap cur, v = .slice (some ⟨g, 0, none⟩) xs.length cap ∧ B ≤ g ∧ w.heap[g]? = some (.cells cur ty (0, 0)) ∧ xs.length ≤ cap ∧ cap ≤ maxLen ∧ cur.size = cap * es ∧ cur.toList.take (xs.length * es) = us ∧ noneF F g := by
      rcases hv.own.2 with ⟨h1, h2⟩ | ⟨g, cap, cur, h1, h2, h3, h4, h5, h6, h7⟩
      · exact absurd (List.eq_nil_of_length_eq_zero h2) hx
      · exact ⟨g, cap, cur, h1, h2, h3, h4, h5, h6, h7, hv.free g (by rw [h1]; rfl)⟩
    have hv' : RowIs F w g ty es (.slice (some ⟨g, 0, none⟩) xs.length cap) xs us := ⟨⟨hv.own.1, .inr ⟨g, cap, cur, rfl, Nat.le_refl _, hg, hle, hm, hcs, hus⟩⟩, hv.rep, hv.one, hv.len, hv.nil, hv.free⟩
    obtain ⟨e, s', hex, he, fz, hon⟩ := h
    refine calls_of_wp hf hb ?_
    rw [hnt]
    refine (exec_sound hex).1 body ht hdr (inv_initU hfin hrep hv' (Nat.le_of_ble_eq_true h9) hn) _ fun a w' hi => ?_
    have goal : a.defers = [] ∧ ∃ u, (results fn a.tmps).run P w' = .ok u w' ∧ ∃ us' v', (Ending.returned u = .returned v') ∧ Rep F (.tup []) v' ∧ RowIs F w' B ty es (.slice (some ⟨g, 0, none⟩) xs.length cap) zs us' ∧ FzIn w' F ∧ w.grownBy w' (Value.slice (some ⟨g, 0, none⟩) xs.length cap).ownBlock := by
      obtain ⟨F1, m, h1⟩ := hi
      have hgb : w.grownBy w' (some g) := ⟨h1.below.os, h1.below.tape, h1.below.output, h1.below.size, fun k hk hne => h1.below.block k hk (by simpa using hne)⟩
      refine ⟨h1.defers, .tuple #[], by rw [results_eq, hr]; simp, ?_⟩
      have hmf := h1.mfix
      have hown := h1.own LN _ hon
      obtain ⟨us', hri⟩ : ∃ us, RowIs F w' g ty es (rowVal (m LN) zs.length) zs us := by
        obtain ⟨k1, ys', k2, k3, k4, k5, k6⟩ := hown
        refine ⟨ys', k2, ⟨k3.1, fun j p y hp hy => ?_⟩, k4, k1, fun e => ?_, fun b hb => ?_⟩
        · obtain ⟨x, rfl⟩ := hlv p (List.mem_of_getElem? hp)
          obtain rfl := Rep.v_inv (k3.2 j _ y hp hy)
          exact .v _
        · rw [hmf] at e; simp [rowVal, Value.ownBlock] at e
        · rw [hmf] at hb; simp [rowVal, Value.ownBlock] at hb; subst hb; exact hnone
      rw [hmf] at hri
      refine ⟨us', _, rfl, Rep.tup [] [] rfl (fun j p y h => by simp at h), ?_, fun b o y e => ?_, hgb⟩
      · have := hri.weaken hBg
        rw [hzl] at this
        exact this
      · have h2 := hfin b o y e
        have hne : b ≠ g := fun e' => by subst e'; rw [hnone o] at e; cases e
        exact (World.cell?_of_block (hgb.block b (World.block_lt_of_cell? w _ h2) (by simpa using hne))).trans h2
    cases e with
    | n => exact goal
    | ret => exact goal
    | exit id => exact absurd rfl (he id)

theorem retUv_of {P : Program} {f : FuncId} {fn : Func} {body : Code} {c : C} {nt t ty es : Nat} {ps : List PV} {xs zs : List (List PV)} {x : Value} (hf : P.funcs[f]? = some fn) (hb : fn.body = some body) (hname : (fn.name == "runtime.NumGoroutine") = false) (hnt : fn.ntmps = nt)
    (hr : fn.results = #[.tmp t]) (htn : t < nt) (ht : trC P nt body = some c.base) (hdr : drC P body c = true) (h9 : Nat.ble nt LN = true) (hn : ps.length + 1 ≤ nt) (hzl : zs.length = xs.length) (hx : xs ≠ []) (hlv : ∀ p ∈ zs.flatten, ∃ x, p = .v x)
    (h : ∃ e s', Exec P c (St.initU xs.length ps ty es xs) e s' ∧ (∀ id, e ≠ .exit id) ∧ ∃ fz, s'.t t = .p (.v x) ∧ s'.o LN = some (.row ty es zs fz)) : RetU P f ty es xs ps zs (.v x) := by
  refine ⟨hzl, ?_, ?_⟩
  · intro args w
    have hne : ¬ fn.name = "runtime.NumGoroutine" := by simpa using hname
    simp [callFunc, hf, hne, hb]
  · intro w F B v us ys hfin hrep hB hv
    obtain ⟨g, cap, cur, rfl, hBg, hg, hle, hm, hcs, hus, hnone⟩ : ∃ g cap cur, v = .slice (some ⟨g, 0, none⟩) xs.length cap ∧ B ≤ g ∧ w.heap[g]? = some (.cells cur ty (0, 0)) ∧ xs.length ≤ cap ∧ cap ≤ maxLen ∧ cur.size = cap * es ∧ cur.toList.take (xs.length * es) = us ∧ noneF F g := by
      rcases hv.own.2 with ⟨h1, h2⟩ | ⟨g, cap, cur, h1, h2, h3, h4, h5, h6, h7⟩
      · exact absurd (List.eq_nil_of_length_eq_zero h2) hx
      · exact ⟨g, cap, cur, h1, h2, h3, h4, h5, h6, h7, hv.free g (by rw [h1]; rfl)⟩
    have hv' : RowIs F w g ty es (.slice (some ⟨g, 0, none⟩) xs.length cap) xs us := ⟨⟨hv.own.1, .inr ⟨g, cap, cur, rfl, Nat.le_refl _, hg, hle, hm, hcs, hus⟩⟩, hv.rep, hv.one, hv.len, hv.nil, hv.free⟩
    obtain ⟨e, s', hex, he, fz, hsn, hon⟩ := h
    refine calls_of_wp hf hb ?_
    rw [hnt]
    refine (exec_sound hex).1 body ht hdr (inv_initU hfin hrep hv' (Nat.le_of_ble_eq_true h9) hn) _ fun a w' hi => ?_
    have goal : a.defers = [] ∧ ∃ u, (results fn a.tmps).run P w' = .ok u w' ∧ ∃ us' v', (Ending.returned u = .returned v') ∧ Rep F (.v x) v' ∧ RowIs F w' B ty es (.slice (some ⟨g, 0, none⟩) xs.length cap) zs us' ∧ FzIn w' F ∧ w.grownBy w' (Value.slice (some ⟨g, 0, none⟩) xs.length cap).ownBlock := by
      obtain ⟨F1, m, h1⟩ := hi
      have hgb : w.grownBy w' (some g) := ⟨h1.below.os, h1.below.tape, h1.below.output, h1.below.size, fun k hk hne => h1.below.block k hk (by simpa using hne)⟩
      have hvx := h1.tmps t htn
      rw [hsn] at hvx
      replace hvx : a.tmps.getD t undef = x := Rep.v_inv hvx
      refine ⟨h1.defers, a.tmps.getD t undef, by rw [results_eq, hr]; simp [oneRes], ?_⟩
      have hmf := h1.mfix
      have hown := h1.own LN _ hon
      obtain ⟨us', hri⟩ : ∃ us, RowIs F w' g ty es (rowVal (m LN) zs.length) zs us := by
        obtain ⟨k1, ys', k2, k3, k4, k5, k6⟩ := hown
        refine ⟨ys', k2, ⟨k3.1, fun j p y hp hy => ?_⟩, k4, k1, fun e => ?_, fun b hb => ?_⟩
        · obtain ⟨x, rfl⟩ := hlv p (List.mem_of_getElem? hp)
          obtain rfl := Rep.v_inv (k3.2 j _ y hp hy)
          exact .v _
        · rw [hmf] at e; simp [rowVal, Value.ownBlock] at e
        · rw [hmf] at hb; simp [rowVal, Value.ownBlock] at hb; subst hb; exact hnone
      rw [hmf] at hri
      refine ⟨us', _, rfl, by rw [hvx]; exact .v _, ?_, fun b o y e => ?_, hgb⟩
      · have := hri.weaken hBg
        rw [hzl] at this
        exact this
      · have h2 := hfin b o y e
        have hne : b ≠ g := fun e' => by subst e'; rw [hnone o] at e; cases e
        exact (World.cell?_of_block (hgb.block b (World.block_lt_of_cell? w _ h2) (by simpa using hne))).trans h2
    cases e with
    | n => exact goal
    | ret => exact goal
    | exit id => exact absurd rfl (he id)

theorem RowIs.leaves {F F' : Fz} {w : World} {B ty es : Nat} {m : Option Nat × Nat} {xs : List (List PV)} {fz : Bool} (h : OwnOk F w B m (.row ty es xs fz)) (hl : ∀ p ∈ xs.flatten, ∃ x, p = .v x) (hF : ∀ b, m.1 = some b → noneF F' b) : ∃ us, RowIs F' w B ty es (rowVal m xs.length) xs us := by
  obtain ⟨g1, ys, g2, g3, g4, g5, g6⟩ := h
  have hob : (rowVal m xs.length).ownBlock = m.1 := by unfold rowVal; cases e : m.1 <;> simp [Value.ownBlock]
  refine ⟨ys, g2, ⟨g3.1, fun j p y hp hy => ?_⟩, g4, g1, fun e => g5 (by rw [← hob]; exact e), fun b hb => hF b (by rw [← hob]; exact hb)⟩
  obtain ⟨x, rfl⟩ := hl p (List.mem_of_getElem? hp)
  obtain rfl := Rep.v_inv (g3.2 j _ y hp hy)
  exact .v _
theorem retV_of {P : Program} {f : FuncId} {fn : Func} {body : Code} {c : C} {nt t ty es : Nat} {ps : List PV} {zs : List (List PV)} (hf : P.funcs[f]? = some fn) (hb : fn.body = some body) (hname : (fn.name == "runtime.NumGoroutine") = false) (hnt : fn.ntmps = nt)
    (hr : fn.results = #[.tmp t]) (htn : t < nt) (ht : trC P nt body = some c.base) (hdr : drC P body c = true) (h9 : Nat.ble nt LN = true) (hn : ps.length ≤ nt) (hl : ∀ p ∈ zs.flatten, ∃ x, p = .v x)
    (h : ∃ e s', Exec P c (St.init ps) e s' ∧ (∀ id, e ≠ .exit id) ∧ ∃ n fz, s'.t t = .row n zs.length ∧ s'.o n = some (.row ty es zs fz)) : RetN P f ps ty es zs := by
  constructor
  · intro args w
    have hne : ¬ fn.name = "runtime.NumGoroutine" := by simpa using hname
    simp [callFunc, hf, hne, hb]
  · intro w F ys hfin hrep
    obtain ⟨e, s', hex, he, n, fz, hsn, hon⟩ := h
    refine calls_of_wp hf hb ?_
    rw [hnt]
    refine (exec_sound hex).1 body ht hdr (inv_init (P := P) hfin hrep (Nat.le_of_ble_eq_true h9) hn) _ fun a w' hi => ?_
    have goal : a.defers = [] ∧ ∃ v, (results fn a.tmps).run P w' = .ok v w' ∧ ∃ v' F' us, (Ending.returned v = .returned v') ∧ RowIs F' w' w.heap.size ty es v' zs us ∧ FzIn w' F' ∧ FzOn w.heap.size F F' ∧ Below w.heap.size w w' := by
      obtain ⟨F1, m, h1⟩ := hi
      refine ⟨h1.defers, a.tmps.getD t undef, ?_, ?_⟩
      · rw [results_eq, hr]
        simp [oneRes]
      · have hv := h1.tmps t htn
        have hown := h1.own n _ hon
        have hge : ∀ b, (m n).1 = some b → noneF F b := fun b hb => hfin.noneF (hown.lt hb).1
        obtain ⟨us, hri⟩ := RowIs.leaves (F' := F) hown hl hge
        rw [hsn] at hv
        refine ⟨_, F, us, rfl, ?_, hfin.blocks (fun k hk => h1.below.below.block k hk), FzOn.refl _ _, h1.below.below⟩
        rw [hv.1]; exact hri
    cases e with
    | n => exact goal
    | ret => exact goal
    | exit id => exact absurd rfl (he id)
end Go.Fw

set_option linter.unusedVariables false
set_option linter.unusedSimpArgs false
namespace Go.Fw
open Go.RowKit

def tl : List (Nat × T) → Nat → T
  | [], _ => .p .any
  | (j, x) :: r, k => if k = j then x else tl r k
def ol : List (Nat × Option Own) → Nat → Option Own
  | [], _ => none
  | (j, x) :: r, k => if k = j then x else ol r k
theorem upd_tl (l : List (Nat × T)) (k : Nat) (v : T) : upd (tl l) k v = tl ((k, v) :: l) := by funext j; rfl
theorem upd_ol (m : List (Nat × Option Own)) (k : Nat) (v : Option Own) : upd (ol m) k v = ol ((k, v) :: m) := by funext j; rfl
abbrev S (l : List (Nat × T)) (m : List (Nat × Option Own)) : St := ⟨tl l, ol m⟩

theorem init_nil : St.init [] = S [] [] := by
  simp only [St.init, S, St.mk.injEq]
  exact ⟨by funext k; simp [tl], rfl⟩
def initL : Nat → List PV → List (Nat × T)
  | _, [] => []
  | n, p :: ps => (n, .p p) :: initL (n + 1) ps
theorem tl_initL : ∀ (ps : List PV) (n k : Nat), tl (initL n ps) (n + k) = .p (ps[k]?.getD .any)
  | [], n, k => by simp [initL, tl]
  | p :: ps, n, 0 => by simp [initL, tl]
  | p :: ps, n, k + 1 => by
    simp only [initL, tl]
    rw [if_neg (by omega), show n + (k + 1) = n + 1 + k by omega, tl_initL ps (n + 1) k]
    simp
theorem init_eq (ps : List PV) : St.init ps = S (initL 0 ps) [] := by
  simp only [St.init, S, St.mk.injEq]
  refine ⟨?_, rfl⟩
  funext k
  have := tl_initL ps 0 k
  rw [Nat.zero_add] at this
  exact this.symm

def freshB (d : Nat) : List (Nat × T) → Bool
  | [] => true
  | (_, x) :: r => (match x.name with | some n => !Nat.beq n d | none => true) && freshB d r
theorem freshB_ok {d : Nat} : ∀ {l : List (Nat × T)}, freshB d l = true → ∀ k, (tl l k).name ≠ some d
  | [], _, k => by simp [tl, T.name]
  | (j, x) :: r, h, k => by
    simp only [freshB, Bool.and_eq_true] at h
    simp only [tl]
    split
    · intro e; rw [e] at h; simp at h
    · exact freshB_ok h.2 k
theorem fresh_S {d : Nat} {l : List (Nat × T)} {m : List (Nat × Option Own)} (h : freshB d l = true) : (S l m).fresh d := freshB_ok h

def killL (n : Nat) : List (Nat × T) → List (Nat × T)
  | [] => []
  | (j, x) :: r => (j, match x.name with | some q => if Nat.beq q n then .p .any else x | none => x) :: killL n r
def kill1 (n : Nat) (x : T) : T := if x.name = some n then .p .any else x
theorem kill1_eq (n : Nat) (x : T) : kill1 n x = match x.name with | some q => if Nat.beq q n then .p .any else x | none => x := by
  unfold kill1
  cases hx : x.name with
  | none => simp
  | some q =>
    by_cases hq : q = n
    · subst hq; simp
    · have : Nat.beq q n = false := by cases hb : Nat.beq q n with
        | false => rfl
        | true => exact absurd (Nat.eq_of_beq_eq_true hb) hq
      simp [hq, this]
theorem killL_ok (n : Nat) (l : List (Nat × T)) : killT (tl l) n = tl (killL n l) := by
  funext k
  show kill1 n (tl l k) = tl (killL n l) k
  induction l with
  | nil => simp [kill1, tl, killL, T.name]
  | cons jx r ih =>
    obtain ⟨j, x⟩ := jx
    simp only [tl, killL]
    split
    · exact kill1_eq n x
    · exact ih
def frzL (fs : List Nat) : List (Nat × Option Own) → List (Nat × Option Own)
  | [] => []
  | (j, x) :: r => (j, if j ∈ fs then x.map Own.freeze else x) :: frzL fs r
theorem frzL_ok (fs : List Nat) : ∀ m : List (Nat × Option Own), frzO (ol m) fs = ol (frzL fs m)
  | [] => by funext k; simp [frzO, ol, frzL]
  | (j, x) :: r => by
    funext k
    have ih := congrFun (frzL_ok fs r) k
    simp only [frzO, ol, frzL] at ih ⊢
    by_cases h : k = j
    · subst h; simp
    · simp only [if_neg h]; exact ih

def AllEq (t : Nat → T) : List (Nat × T) → Prop
  | [] => True
  | (k, v) :: r => t k = v ∧ AllEq t r
def AllOwn (o : Nat → Option Own) : List (Nat × Option Own) → Prop
  | [] => True
  | (k, v) :: r => o k = v ∧ AllOwn o r
theorem AllEq.at {t : Nat → T} : ∀ {l : List (Nat × T)}, AllEq t l → ∀ k, tl l k = .p .any ∨ tl l k = t k
  | [], _, k => .inl rfl
  | (j, x) :: r, h, k => by
    simp only [tl]
    split
    · rename_i e; subst e; exact .inr h.1.symm
    · exact AllEq.at h.2 k
theorem AllOwn.at {o : Nat → Option Own} : ∀ {m : List (Nat × Option Own)}, AllOwn o m → ∀ k x, ol m k = some x → o k = some x
  | [], _, k, x, hx => by cases hx
  | (j, y) :: r, h, k, x, hx => by
    simp only [ol] at hx
    split at hx
    · rename_i e; subst e; rw [h.1]; exact hx
    · exact AllOwn.at h.2 k x hx
theorem weak_S {t : Nat → T} {o : Nat → Option Own} {l : List (Nat × T)} {m : List (Nat × Option Own)} (h : AllEq t l) (h2 : AllOwn o m) : Weak ⟨t, o⟩ (S l m) := by
  rintro B w0 F0 nt a w ⟨F, mp, hi⟩
  refine ⟨F, mp, hi.defers, hi.size, hi.below, hi.base, hi.on, hi.fin, fun k hk => ?_, fun n x hx => hi.own n x (h2.at n x hx), fun n n' b hn hn' => ?_, fun n b hn => ?_, hi.mfix, hi.ntle⟩
  · rcases h.at k with e | e
    · simp only [e]; exact Rep.any _
    · simp only [e]; exact hi.tmps k hk
  · refine hi.inj n n' b ?_ ?_
    · obtain ⟨x, hx⟩ := Option.isSome_iff_exists.1 hn; simp [h2.at n x hx]
    · obtain ⟨x, hx⟩ := Option.isSome_iff_exists.1 hn'; simp [h2.at n' x hx]
  · obtain ⟨x, hx⟩ := Option.isSome_iff_exists.1 hn
    exact hi.ownL n b (by simp [h2.at n x hx])

inductive Kf where
  | seq (b : C)
  | blk (id : Nat)
  | loop (c : C)
  | far (rs : List RG) (ps : List (Nat × Nat))

def FinD (P : Program) (Q : Ex → St → Prop) : List Kf → Ex → St → Prop
  | [], e, s => Q e s
  | .seq b :: ks, .n, s => ∃ e' s', Exec P b s e' s' ∧ FinD P Q ks e' s'
  | .seq _ :: ks, e, s => FinD P Q ks e s
  | .blk _ :: ks, .n, s => FinD P Q ks .n s
  | .blk id :: ks, .exit j, s => if j = id then FinD P Q ks .n s else FinD P Q ks (.exit j) s
  | .blk _ :: ks, .ret, s => FinD P Q ks .ret s
  | .loop c :: ks, .n, s => ∃ e' s', Exec P (.loop c) s e' s' ∧ FinD P Q ks e' s'
  | .loop _ :: ks, e, s => FinD P Q ks e s
  | .far rs ps :: ks, e, s => farS rs ps s = true ∧ FinD P Q ks e s
structure Fin (P : Program) (Q : Ex → St → Prop) (ks : List Kf) (e : Ex) (s : St) : Prop where
  out : FinD P Q ks e s
structure Run (P : Program) (Q : Ex → St → Prop) (ks : List Kf) (c : C) (s : St) : Prop where
  out : ∃ e s', Exec P c s e s' ∧ FinD P Q ks e s'
structure RunR (P : Program) (Q : Ex → St → Prop) (ks : List Kf) (rs : List RG) (s : St) : Prop where
  out : ∃ s', Steps P rs s s' ∧ FinD P Q ks .n s'

section
variable {P : Program} {Q : Ex → St → Prop} {ks : List Kf} {s : St} {rs : List RG}

theorem run_skip (h : Fin P Q ks .n s) : Run P Q ks .skip s := ⟨⟨_, _, .skip s, h.out⟩⟩
theorem run_reg (h : RunR P Q ks rs s) : Run P Q ks (.reg rs) s := let ⟨_, h1, h2⟩ := h.out; ⟨⟨_, _, .reg h1, h2⟩⟩
def freshAll (s : St) : List RG → Prop
  | [] => True
  | r :: rs => (match r.k.allocs, r.d with | true, some d => s.fresh d | _, _ => True) ∧ freshAll s rs
theorem freshAll_ok : ∀ {rs : List RG}, freshAll s rs → ∀ r ∈ rs, r.k.allocs = true → ∀ d, r.d = some d → s.fresh d
  | [], _, r, hr, _, _, _ => by cases hr
  | r' :: rs, h, r, hr, ha, d, hd => by
    rcases List.mem_cons.1 hr with rfl | hr
    · have := h.1; rw [ha, hd] at this; exact this
    · exact freshAll_ok h.2 r hr ha d hd
def newsOf : List RG → List Nat
  | [] => []
  | r :: rs => (match r.k.allocs, r.d with | true, some d => [d] | _, _ => []) ++ newsOf rs
theorem run_regd {l : List (Nat × T)} {m : List (Nat × Option Own)} (hf : (newsOf rs).all (freshB · l) = true) (h : RunR P Q ks rs (S l m)) : Run P Q ks (.regd rs) (S l m) := by
  obtain ⟨_, h1, h2⟩ := (h).out
  refine ⟨⟨_, _, .regd (fun r hr ha d hd => ?_) h1, h2⟩⟩
  refine fresh_S (List.all_eq_true.1 hf d ?_)
  clear hf h1 h
  induction rs with
  | nil => cases hr
  | cons r' rs ih =>
    simp only [newsOf, List.mem_append]
    rcases List.mem_cons.1 hr with rfl | hr
    · left; rw [ha, hd]; simp
    · right; exact ih hr
theorem run_regs {ps : List (Nat × Nat)} {l : List (Nat × T)} {m : List (Nat × Option Own)} (hf : (newsOf rs).all (freshB · l) = true) (h : RunR P Q (.far rs ps :: ks) rs (S l m)) : Run P Q ks (.regs rs ps) (S l m) := by
  obtain ⟨_, h1, h2⟩ := (h).out
  refine ⟨⟨_, _, .regs (fun r hr ha d hd => ?_) h1 h2.1, h2.2⟩⟩
  refine fresh_S (List.all_eq_true.1 hf d ?_)
  clear hf h1 h2 h
  induction rs with
  | nil => cases hr
  | cons r' rs ih =>
    simp only [newsOf, List.mem_append]
    rcases List.mem_cons.1 hr with rfl | hr
    · left; rw [ha, hd]; simp
    · right; exact ih hr
theorem fin_far {ps : List (Nat × Nat)} {rs : List RG} (hs : farS rs ps s = true) (h : Fin P Q ks .n s) : Fin P Q (.far rs ps :: ks) .n s := ⟨⟨hs, h.out⟩⟩
theorem run_seq {a b : C} (h : Run P Q (.seq b :: ks) a s) : Run P Q ks (.seq a b) s := by
  obtain ⟨e, s1, h1, h2⟩ := (h).out
  cases e with
  | n => obtain ⟨e', s', h3, h4⟩ := h2; exact ⟨⟨e', s', .seqN h1 h3, h4⟩⟩
  | exit id => exact ⟨⟨_, s1, .seqX h1 (by simp), h2⟩⟩
  | ret => exact ⟨⟨_, s1, .seqX h1 (by simp), h2⟩⟩
theorem run_cond {c : Opd} {a b : C} {t : Bool} (hc : s.ev c = .p (.v (.bool t))) (h1 : t = true → Run P Q ks a s) (h2 : t = false → Run P Q ks b s) : Run P Q ks (.cond c a b) s := by
  cases t with
  | true => obtain ⟨e, s', h3, h4⟩ := (h1 rfl).out; exact ⟨⟨e, s', .cond hc h3, h4⟩⟩
  | false => obtain ⟨e, s', h3, h4⟩ := (h2 rfl).out; exact ⟨⟨e, s', .cond hc h3, h4⟩⟩
theorem run_cond_t {c : Opd} {a b : C} {t : Bool} (hc : s.ev c = .p (.v (.bool t))) (ht : t = true) (h1 : Run P Q ks a s) : Run P Q ks (.cond c a b) s := run_cond hc (fun _ => h1) fun h => by rw [ht] at h; cases h
theorem run_cond_f {c : Opd} {a b : C} {t : Bool} (hc : s.ev c = .p (.v (.bool t))) (ht : t = false) (h1 : Run P Q ks b s) : Run P Q ks (.cond c a b) s := run_cond hc (fun h => by rw [ht] at h; cases h) fun _ => h1
theorem run_block {id : Nat} {c : C} (h : Run P Q (.blk id :: ks) c s) : Run P Q ks (.block id c) s := by
  obtain ⟨e, s1, h1, h2⟩ := (h).out
  cases e with
  | n => exact ⟨⟨_, s1, .blkN h1, h2⟩⟩
  | exit j =>
    simp only [FinD] at h2
    split at h2
    · rename_i e; subst e; exact ⟨⟨_, s1, .blkE h1, h2⟩⟩
    · rename_i e; exact ⟨⟨_, s1, .blkX h1 e, h2⟩⟩
  | ret => exact ⟨⟨_, s1, .blkR h1, h2⟩⟩
theorem run_loop {c : C} (h : Run P Q (.loop c :: ks) c s) : Run P Q ks (.loop c) s := by
  obtain ⟨e, s1, h1, h2⟩ := (h).out
  cases e with
  | n => obtain ⟨e', s', h3, h4⟩ := h2; exact ⟨⟨e', s', .loopN h1 h3, h4⟩⟩
  | exit id => exact ⟨⟨_, s1, .loopX h1 (by simp), h2⟩⟩
  | ret => exact ⟨⟨_, s1, .loopX h1 (by simp), h2⟩⟩
theorem run_inv {c : C} {ι : Type} (σ : ι → St) (I : ι → Prop) (μ : ι → Nat) (h : ∀ i, I i → (∀ j, I j → μ j < μ i → Run P Q ks (.loop c) (σ j)) → Run P Q (.loop c :: ks) c (σ i)) (i0 : ι) (h0 : I i0) : Run P Q ks (.loop c) (σ i0) := by
  have key : ∀ n i, μ i = n → I i → Run P Q ks (.loop c) (σ i) := by
    intro n
    induction n using Nat.strongRecOn with
    | _ n ih =>
      intro i hn hi
      exact run_loop (h i hi fun j hj hlt => ih (μ j) (by omega) j rfl hj)
  exact key _ i0 rfl h0
theorem run_exit {id : Nat} (h : Fin P Q ks (.exit id) s) : Run P Q ks (.exit id) s := ⟨⟨_, _, .exit id s, h.out⟩⟩
theorem run_ret (h : Fin P Q ks .ret s) : Run P Q ks .ret s := ⟨⟨_, _, .ret s, h.out⟩⟩
theorem run_weak {c : C} {s1 : St} (hw : Weak s s1) (h : Run P Q ks c s1) : Run P Q ks c s := by
  obtain ⟨e, s', h1, h2⟩ := (h).out; exact ⟨⟨e, s', .weak hw h1, h2⟩⟩
theorem fin_nil {e : Ex} (h : Q e s) : Fin P Q [] e s := ⟨h⟩
theorem fin_seq {b : C} (h : Run P Q ks b s) : Fin P Q (.seq b :: ks) .n s := ⟨h.out⟩
theorem fin_seq_e {b : C} {id : Nat} (h : Fin P Q ks (.exit id) s) : Fin P Q (.seq b :: ks) (.exit id) s := ⟨h.out⟩
theorem fin_seq_r {b : C} (h : Fin P Q ks .ret s) : Fin P Q (.seq b :: ks) .ret s := ⟨h.out⟩
theorem fin_blk {id : Nat} (h : Fin P Q ks .n s) : Fin P Q (.blk id :: ks) .n s := ⟨h.out⟩
theorem fin_blk_e {id : Nat} (h : Fin P Q ks .n s) : Fin P Q (.blk id :: ks) (.exit id) s := ⟨by simp only [FinD, if_true]; exact h.out⟩
theorem fin_blk_x {id j : Nat} (hne : Nat.beq j id = false) (h : Fin P Q ks (.exit j) s) : Fin P Q (.blk id :: ks) (.exit j) s := by
  have : j ≠ id := fun e => by subst e; simp at hne
  exact ⟨by simp only [FinD, if_neg this]; exact h.out⟩
theorem fin_blk_r {id : Nat} (h : Fin P Q ks .ret s) : Fin P Q (.blk id :: ks) .ret s := ⟨h.out⟩
theorem run_reg_join {b : C} (s2 : St) (h1 : RunR P (fun _ s' => Weak s' s2) [] rs s) (h2 : Run P Q ks b s2) : RunR P Q (.seq b :: ks) rs s := by
  obtain ⟨s', g1, g2⟩ := h1.out
  obtain ⟨e, s3, g3, g4⟩ := h2.out
  exact ⟨⟨s', g1, e, s3, .weak g2 g3, g4⟩⟩
theorem run_join {c b : C} (s2 : St) (h1 : Run P (fun e s' => (e = .n ∧ Weak s' s2) ∨ (e ≠ .n ∧ FinD P Q ks e s')) [] c s) (h2 : Run P Q ks b s2) : Run P Q (.seq b :: ks) c s := by
  obtain ⟨e, s', g1, g2⟩ := h1.out
  obtain ⟨e2, s3, g3, g4⟩ := h2.out
  rcases g2 with ⟨rfl, hw⟩ | ⟨hne, hf⟩
  · exact ⟨⟨.n, s', g1, e2, s3, .weak hw g3, g4⟩⟩
  · cases e with
    | n => exact absurd rfl hne
    | exit id => exact ⟨⟨_, s', g1, hf⟩⟩
    | ret => exact ⟨⟨_, s', g1, hf⟩⟩
theorem fin_join {s2 : St} (h : Weak s s2) : Fin P (fun e s' => (e = .n ∧ Weak s' s2) ∨ (e ≠ .n ∧ FinD P Q ks e s')) [] .n s := ⟨.inl ⟨rfl, h⟩⟩
theorem fin_leave {s2 : St} (h : Fin P Q ks .ret s) : Fin P (fun e s' => (e = .n ∧ Weak s' s2) ∨ (e ≠ .n ∧ FinD P Q ks e s')) [] .ret s := ⟨.inr ⟨by simp, h.out⟩⟩
theorem fin_leave_e {s2 : St} {id : Nat} (h : Fin P Q ks (.exit id) s) : Fin P (fun e s' => (e = .n ∧ Weak s' s2) ∨ (e ≠ .n ∧ FinD P Q ks e s')) [] (.exit id) s := ⟨.inr ⟨by simp, h.out⟩⟩
theorem tb {t : T} {a b : Bool} (h : t = .p (.v (.bool a))) (e : a = b) : t = .p (.v (.bool b)) := e ▸ h
theorem ti {t : T} {k : IntKind} {a b : Int} (h : t = .p (.v (.int k a))) (e : a = b) : t = .p (.v (.int k b)) := e ▸ h
theorem tp {t : T} {a b : PV} (h : t = .p a) (e : a = b) : t = .p b := e ▸ h
theorem fin_loop {c : C} (h : Run P Q ks (.loop c) s) : Fin P Q (.loop c :: ks) .n s := ⟨h.out⟩
theorem fin_loop_e {c : C} {id : Nat} (h : Fin P Q ks (.exit id) s) : Fin P Q (.loop c :: ks) (.exit id) s := ⟨h.out⟩
theorem fin_loop_r {c : C} (h : Fin P Q ks .ret s) : Fin P Q (.loop c :: ks) .ret s := ⟨h.out⟩

theorem r_nil (h : Fin P Q ks .n s) : RunR P Q ks [] s := ⟨⟨_, .nil s, h.out⟩⟩
theorem r_cons {r : RG} {s1 : St} (h : Step1 P r s s1) (h2 : RunR P Q ks rs s1) : RunR P Q ks (r :: rs) s := let ⟨s', h3, h4⟩ := h2.out; ⟨⟨s', .cons h h3, h4⟩⟩

theorem Step1.reguard {d : Option Nat} {k : Kd} {a : List Opd} {g : Option (Nat × Bool)} {s' : St} (h : Step1 P ⟨d, k, a, none⟩ s s') (hw : s.want g = some true) : Step1 P ⟨d, k, a, g⟩ s s' := by
  cases h with
  | skip hw' => cases hw'
  | plain as e hk _ ha he hn => exact .plain ⟨d, k, a, g⟩ s as e hk hw ha he hn
  | storeBox sz x y n off cells cs a' p hk hd _ ha hx ho hy hp hc hl hn => exact .storeBox ⟨d, k, a, g⟩ s sz x y n off cells cs a' p hk hd hw ha hx ho hy hp hc hl hn
  | storeRow sz x y n es i off ty xs c cs a' p hk hd _ ha hx ho hi hy hp hc hl hn => exact .storeRow ⟨d, k, a, g⟩ s sz x y n es i off ty xs c cs a' p hk hd hw ha hx ho hi hy hp hc hl hn
  | appNil ty es bytes d' x y a' ys sp hk hd _ ha hx hy hp he hl hf => exact .appNil ⟨d, k, a, g⟩ s ty es bytes d' x y a' ys sp hk hd hw ha hx hy hp he hl hf
  | appRow ty es bytes d' n x y a' xs ys sp fz hk hd _ ha hx ho hy hp he hl hn hf => exact .appRow ⟨d, k, a, g⟩ s ty es bytes d' n x y a' xs ys sp fz hk hd hw ha hx ho hy hp he hl hn hf
  | mset kt et n x y z a' k' p cs es hk hd _ ha hx ho hy hz hp hn => exact .mset ⟨d, k, a, g⟩ s kt et n x y z a' k' p cs es hk hd hw ha hx ho hy hz hp hn
  | mdel kt et n x y k' es hk hd _ ha hx ho hy => exact .mdel ⟨d, k, a, g⟩ s kt et n x y k' es hk hd hw ha hx ho hy
  | calln f d' as ps ty es zs hk hd _ ha hp hr hf => exact .calln ⟨d, k, a, g⟩ s f d' as ps ty es zs hk hd hw ha hp hr hf
  | callu f n x ys as ps ty es xs zs hk _ ha hx ho hy hp hn hr => exact .callu ⟨d, k, a, g⟩ s f n x ys as ps ty es xs zs hk hw ha hx ho hy hp hn hr
  | calli f d' n x ys as ps ty es xs zs hk hd _ ha hx ho hy hp hn hr hf => exact .calli ⟨d, k, a, g⟩ s f d' n x ys as ps ty es xs zs hk hd hw ha hx ho hy hp hn hr hf

variable {l : List (Nat × T)} {m : List (Nat × Option Own)} {g : Option (Nat × Bool)} {d : Nat}

theorem r_do {d : Option Nat} {k : Kd} {a : List Opd} {n : Nat} {b c : Bool} (hn : tl l n = .p (.v (.bool c))) (hc : c = b) (h : RunR P Q ks (⟨d, k, a, none⟩ :: rs) (S l m)) : RunR P Q ks (⟨d, k, a, some (n, b)⟩ :: rs) (S l m) := by
  obtain ⟨s', h1, h2⟩ := (h).out
  cases h1 with
  | cons h t => exact ⟨⟨s', .cons (h.reguard (by simp only [St.want, S, hn, boolOf, hc]; simp)) t, h2⟩⟩
theorem r_skip {k : Kd} {a : List Opd} {n : Nat} {b c : Bool} (hn : tl l n = .p (.v (.bool c))) (hc : c = !b) (h : RunR P Q ks rs (S ((d, .p (.v undef)) :: l) m)) : RunR P Q ks (⟨some d, k, a, some (n, b)⟩ :: rs) (S l m) := by
  refine r_cons ?_ h
  have := Step1.skip (P := P) ⟨some d, k, a, some (n, b)⟩ (S l m) (by simp only [St.want, S, hn, boolOf, hc]; cases b <;> rfl)
  simpa only [putT, upd_tl] using this
theorem r_skip0 {k : Kd} {a : List Opd} {n : Nat} {b c : Bool} (hn : tl l n = .p (.v (.bool c))) (hc : c = !b) (h : RunR P Q ks rs (S l m)) : RunR P Q ks (⟨none, k, a, some (n, b)⟩ :: rs) (S l m) := by
  refine r_cons ?_ h
  exact Step1.skip (P := P) ⟨none, k, a, some (n, b)⟩ (S l m) (by simp only [St.want, S, hn, boolOf, hc]; cases b <;> rfl)
theorem r_skipU {k : Kd} {a : List Opd} {n : Nat} {b : Bool} (hn : tl l n = .p (.v undef)) (h : RunR P Q ks rs (S ((d, .p (.v undef)) :: l) m)) : RunR P Q ks (⟨some d, k, a, some (n, b)⟩ :: rs) (S l m) := by
  refine r_cons ?_ h
  have := Step1.skip (P := P) ⟨some d, k, a, some (n, b)⟩ (S l m) (by simp only [St.want, S, hn]; rfl)
  simpa only [putT, upd_tl] using this
theorem r_skipU0 {k : Kd} {a : List Opd} {n : Nat} {b : Bool} (hn : tl l n = .p (.v undef)) (h : RunR P Q ks rs (S l m)) : RunR P Q ks (⟨none, k, a, some (n, b)⟩ :: rs) (S l m) := by
  refine r_cons ?_ h
  exact Step1.skip (P := P) ⟨none, k, a, some (n, b)⟩ (S l m) (by simp only [St.want, S, hn]; rfl)
theorem r_split {d : Option Nat} {k : Kd} {a : List Opd} {n : Nat} {b c : Bool} (hn : tl l n = .p (.v (.bool c))) (h1 : c = true → RunR P Q ks (⟨d, k, a, some (n, b)⟩ :: rs) (S l m)) (h2 : c = false → RunR P Q ks (⟨d, k, a, some (n, b)⟩ :: rs) (S l m)) : RunR P Q ks (⟨d, k, a, some (n, b)⟩ :: rs) (S l m) := by
  cases c with
  | true => exact h1 rfl
  | false => exact h2 rfl

theorem r_sem {k : Kd} {a : List Opd} {as : List RA} {p : PV} (hk : k.solo = false) (ha : (S l m).resL a = some as) (he : sem k d as = some { v := .p p }) (hc : (match k with | .call _ | .callv => false | _ => true) = true) (h : RunR P Q ks rs (S ((d, .p p) :: l) m)) :
    RunR P Q ks (⟨some d, k, a, none⟩ :: rs) (S l m) := by
  refine r_cons ?_ h
  have hs : SemA P k d as { v := .p p } := by cases k <;> first | exact he | (cases hc)
  have := Step1.plain (P := P) ⟨some d, k, a, none⟩ (S l m) as { v := .p p } hk rfl ha hs (fun h => by cases h)
  simpa only [St.eff, putT, newO, frzO_nil, upd_tl] using this
theorem lookT_toT {o : Nat → Option Own} {t : T} {a : RA} (h : lookT o t = some a) : a.toT = t := by
  cases t with
  | p x => cases h; rfl
  | nil => cases h; rfl
  | own n off => simp only [lookT] at h; split at h <;> cases h; rfl
  | row n l =>
    simp only [lookT] at h
    split at h
    · split at h <;> cases h; rfl
    · cases h
  | rp n es i off =>
    simp only [lookT] at h
    split at h
    · split at h
      · simp only [Option.map_eq_some_iff] at h; obtain ⟨c, _, rfl⟩ := h; rfl
      · cases h
    · cases h
  | mp n => simp only [lookT] at h; split at h <;> cases h; rfl
theorem r_mv {x : Opd} {t : T} (hx : (S l m).ev x = t) (ho : (lookT (ol m) t).isSome = true) (h : RunR P Q ks rs (S ((d, t) :: l) m)) : RunR P Q ks (⟨some d, .mv, [x], none⟩ :: rs) (S l m) := by
  refine r_cons ?_ h
  obtain ⟨a, ha⟩ := Option.isSome_iff_exists.1 ho
  have hr : (S l m).res x = some a := by unfold St.res; rw [hx]; exact ha
  have := Step1.plain (P := P) ⟨some d, .mv, [x], none⟩ (S l m) [a] { v := a.toT } rfl rfl (by simp only [St.resL, hr]; rfl) rfl (fun h => by cases h)
  simpa only [St.eff, putT, newO, frzO_nil, upd_tl, lookT_toT ha] using this
theorem r_mv_p {x : Opd} {p : PV} (hx : (S l m).ev x = .p p) (h : RunR P Q ks rs (S ((d, .p p) :: l) m)) : RunR P Q ks (⟨some d, .mv, [x], none⟩ :: rs) (S l m) := r_mv hx rfl h
theorem r_mv_nil {x : Opd} (hx : (S l m).ev x = .nil) (h : RunR P Q ks rs (S ((d, .nil) :: l) m)) : RunR P Q ks (⟨some d, .mv, [x], none⟩ :: rs) (S l m) := r_mv hx rfl h
theorem r_mv_own {x : Opd} {n off : Nat} (hx : (S l m).ev x = .own n off) (ho : (lookT (ol m) (.own n off)).isSome = true) (h : RunR P Q ks rs (S ((d, .own n off) :: l) m)) : RunR P Q ks (⟨some d, .mv, [x], none⟩ :: rs) (S l m) := r_mv hx ho h
theorem r_mv_mp {x : Opd} {n : Nat} (hx : (S l m).ev x = .mp n) (ho : (lookT (ol m) (.mp n)).isSome = true) (h : RunR P Q ks rs (S ((d, .mp n) :: l) m)) : RunR P Q ks (⟨some d, .mv, [x], none⟩ :: rs) (S l m) := r_mv hx ho h
theorem r_mv_row {x : Opd} {n len ty es : Nat} {xs : List (List PV)} {fz : Bool} (hx : (S l m).ev x = .row n len) (ho : ol m n = some (.row ty es xs fz)) (hl : len ≤ xs.length) (h : RunR P Q ks rs (S ((d, .row n len) :: l) m)) : RunR P Q ks (⟨some d, .mv, [x], none⟩ :: rs) (S l m) :=
  r_mv hx (by simp only [lookT, ho, if_pos hl]; rfl) h
theorem r_mv_rp {x : Opd} {n es i off : Nat} {ty : Nat} {xs : List (List PV)} {fz : Bool} (hx : (S l m).ev x = .rp n es i off) (ho : ol m n = some (.row ty es xs fz)) (hl : i < xs.length) (h : RunR P Q ks rs (S ((d, .rp n es i off) :: l) m)) : RunR P Q ks (⟨some d, .mv, [x], none⟩ :: rs) (S l m) :=
  r_mv hx (by simp [lookT, ho, hl]) h
theorem r_pick {x y z : Opd} {c : Bool} {t u : T} (hx : (S l m).ev x = .p (.v (.bool c))) (hy : (S l m).ev y = t) (hyo : (lookT (ol m) t).isSome = true) (hz : (S l m).ev z = u) (hzo : (lookT (ol m) u).isSome = true)
    (h : RunR P Q ks rs (S ((d, if c then t else u) :: l) m)) : RunR P Q ks (⟨some d, .pick, [x, y, z], none⟩ :: rs) (S l m) := by
  refine r_cons ?_ h
  obtain ⟨a, ha⟩ := Option.isSome_iff_exists.1 hyo
  obtain ⟨b, hb⟩ := Option.isSome_iff_exists.1 hzo
  have hr : (S l m).resL [x, y, z] = some [.p (.v (.bool c)), a, b] := by
    simp only [St.resL, St.res, hx, hy, hz]
    rw [show lookT (S l m).o t = some a from ha, show lookT (S l m).o u = some b from hb]
    rfl
  have := Step1.plain (P := P) ⟨some d, .pick, [x, y, z], none⟩ (S l m) _ { v := if c then a.toT else b.toT } rfl rfl hr rfl (fun h => by cases h)
  simpa only [St.eff, putT, newO, frzO_nil, upd_tl, lookT_toT ha, lookT_toT hb] using this
theorem r_pick_t {x y z : Opd} {c : Bool} {t u : PV} (hx : (S l m).ev x = .p (.v (.bool c))) (hc : c = true) (hy : (S l m).ev y = .p t) (hz : (S l m).ev z = .p u) (h : RunR P Q ks rs (S ((d, .p t) :: l) m)) : RunR P Q ks (⟨some d, .pick, [x, y, z], none⟩ :: rs) (S l m) :=
  r_pick hx hy rfl hz rfl (by rw [if_pos hc]; exact h)
theorem r_pick_f {x y z : Opd} {c : Bool} {t u : PV} (hx : (S l m).ev x = .p (.v (.bool c))) (hc : c = false) (hy : (S l m).ev y = .p t) (hz : (S l m).ev z = .p u) (h : RunR P Q ks rs (S ((d, .p u) :: l) m)) : RunR P Q ks (⟨some d, .pick, [x, y, z], none⟩ :: rs) (S l m) :=
  r_pick hx hy rfl hz rfl (by rw [if_neg (by simp [hc])]; exact h)

theorem r_fad {x : Opd} {n off o : Nat} {cells : List PV} {fz : Bool} (hx : (S l m).ev x = .own n o) (ho : ol m n = some (.box cells fz)) (h : RunR P Q ks rs (S ((d, .own n (o + off)) :: l) m)) : RunR P Q ks (⟨some d, .fad off, [x], none⟩ :: rs) (S l m) := by
  refine r_cons ?_ h
  have hr : (S l m).resL [x] = some [.own n o cells] := by
    simp only [St.resL, St.res, hx, lookT]
    rw [ho]; rfl
  have := Step1.plain (P := P) ⟨some d, .fad off, [x], none⟩ (S l m) _ { v := .own n (o + off) } rfl rfl hr rfl (fun h => by cases h)
  simpa only [St.eff, putT, newO, frzO_nil, upd_tl] using this
theorem r_fad_rp {x : Opd} {n es i off o ty : Nat} {xs : List (List PV)} {fz : Bool} (hx : (S l m).ev x = .rp n es i o) (ho : ol m n = some (.row ty es xs fz)) (hi : i < xs.length) (h : RunR P Q ks rs (S ((d, .rp n es i (o + off)) :: l) m)) : RunR P Q ks (⟨some d, .fad off, [x], none⟩ :: rs) (S l m) := by
  refine r_cons ?_ h
  have hr : (S l m).resL [x] = some [.rp n es i o xs[i]] := by
    simp only [St.resL, St.res, hx, lookT]
    rw [ho]; simp [hi]
  have := Step1.plain (P := P) ⟨some d, .fad off, [x], none⟩ (S l m) _ { v := .rp n es i (o + off) } rfl rfl hr rfl (fun h => by cases h)
  simpa only [St.eff, putT, newO, frzO_nil, upd_tl] using this

theorem r_new {k : Kd} {a : List Opd} {as : List RA} {t : T} {x : Own} (hk : k.solo = false) (ha : (S l m).resL a = some as) (he : sem k d as = some { v := t, new := some x }) (hc : (match k with | .call _ | .callv => false | _ => true) = true) (hf : freshB d l = true)
    (h : RunR P Q ks rs (S ((d, t) :: l) ((d, some x) :: m))) : RunR P Q ks (⟨some d, k, a, none⟩ :: rs) (S l m) := by
  refine r_cons ?_ h
  have hs : SemA P k d as { v := t, new := some x } := by cases k <;> first | exact he | (cases hc)
  have := Step1.plain (P := P) ⟨some d, k, a, none⟩ (S l m) as _ hk rfl ha hs (fun _ => ⟨d, rfl, fresh_S hf⟩)
  simpa only [St.eff, putT, newO, frzO_nil, upd_tl, upd_ol] using this
theorem r_alloc {z : List PV} (hf : freshB d l = true) (h : RunR P Q ks rs (S ((d, .own d 0) :: l) ((d, some (.box z false)) :: m))) : RunR P Q ks (⟨some d, .alloc z, [], none⟩ :: rs) (S l m) :=
  r_new (as := []) rfl rfl rfl rfl hf h
theorem r_mkmap {kt et : Nat} (hf : freshB d l = true) (h : RunR P Q ks rs (S ((d, .mp d) :: l) ((d, some (.mp kt et [])) :: m))) : RunR P Q ks (⟨some d, .mkmap kt et, [], none⟩ :: rs) (S l m) :=
  r_new (as := []) rfl rfl rfl rfl hf h
theorem r_box {x : Opd} {p : PV} {cs : List PV} (hx : (S l m).ev x = .p p) (hc : p.cells = some cs) (hf : freshB d l = true) (h : RunR P Q ks rs (S ((d, .own d 0) :: l) ((d, some (.box cs false)) :: m))) : RunR P Q ks (⟨some d, .box, [x], none⟩ :: rs) (S l m) :=
  r_new (as := [.p p]) rfl (by simp only [St.resL, St.res, hx, lookT]; rfl) (by simp only [sem, RA.pv, Option.bind_some, hc, Option.map_some, RA.frz]) rfl hf h
theorem r_bsl {ty es n : Nat} {z : List PV} {ix : List Nat} {a : List Opd} {as : List RA} {ps : List PV} {xs : List (List PV)} (ha : (S l m).resL a = some as) (hp : pvs as = some ps) (hfz : frzs as = []) (hl : ps.length = ix.length) (hx : fillX es (List.replicate n z) (ix.zip ps) = some xs) (hf : freshB d l = true)
    (h : RunR P Q ks rs (S ((d, .row d n) :: l) ((d, some (.row ty es xs false)) :: m))) : RunR P Q ks (⟨some d, .bsl ty es n z ix, a, none⟩ :: rs) (S l m) :=
  r_new rfl ha (by simp only [sem, hp, Option.bind_some, hl, if_true, hx, Option.map_some, hfz]) rfl hf h
theorem r_bsl1 {ty es : Nat} {z : List PV} {x : Opd} {cs : List PV} (hx : (S l m).ev x = .p (.agg cs)) (hl : cs.length = es) (hf : freshB d l = true)
    (h : RunR P Q ks rs (S ((d, .row d 1) :: l) ((d, some (.row ty es [cs] false)) :: m))) : RunR P Q ks (⟨some d, .bsl ty es 1 z [0], [x], none⟩ :: rs) (S l m) :=
  r_bsl (as := [.p (.agg cs)]) (ps := [.agg cs]) (by simp only [St.resL, St.res, hx, lookT]; rfl) rfl rfl rfl (by simp [fillX, PV.cells, hl]) hf h
theorem r_mks {ty es bytes : Nat} {z : List PV} {x y : Opd} {i j : Int} (hx : (S l m).ev x = .p (.v (.int .i64 i))) (hy : (S l m).ev y = .p (.v (.int .i64 j))) (hc : 0 ≤ i ∧ i ≤ j ∧ j * bytes ≤ 140737488355328) (hf : freshB d l = true)
    (h : RunR P Q ks rs (S ((d, .row d i.toNat) :: l) ((d, some (.row ty es (List.replicate i.toNat z) false)) :: m))) : RunR P Q ks (⟨some d, .mks ty es bytes z, [x, y], none⟩ :: rs) (S l m) :=
  r_new (as := [.p (.v (.int .i64 i)), .p (.v (.int .i64 j))]) rfl (by simp only [St.resL, St.res, hx, hy, lookT]; rfl) (by simp only [sem, hc, and_self, if_true]) rfl hf h

theorem r_iad {es : Nat} {x y : Opd} {xs sp : List (List PV)} {k : IntKind} {j : Int} {c : List PV} (hx : (S l m).ev x = .p (.sl xs sp)) (hy : (S l m).ev y = .p (.v (.int k j))) (h0 : 0 ≤ j) (hc : xs[j.toNat]? = some c) (hl : c.length = es) (h : RunR P Q ks rs (S ((d, .p (.ref c 0)) :: l) m)) :
    RunR P Q ks (⟨some d, .iad es, [x, y], none⟩ :: rs) (S l m) :=
  r_sem (as := [.p (.sl xs sp), .p (.v (.int k j))]) rfl (by simp only [St.resL, St.res, hx, hy, lookT]; rfl) (by simp only [sem, h0, if_true, hc, Option.bind_some, hl]) rfl h
theorem r_iad_row {es n len ty : Nat} {x y : Opd} {xs : List (List PV)} {fz : Bool} {k : IntKind} {j : Int} (hx : (S l m).ev x = .row n len) (ho : ol m n = some (.row ty es xs fz)) (hle : len ≤ xs.length) (hy : (S l m).ev y = .p (.v (.int k j))) (h0 : 0 ≤ j ∧ j < len) (h : RunR P Q ks rs (S ((d, .rp n es j.toNat 0) :: l) m)) :
    RunR P Q ks (⟨some d, .iad es, [x, y], none⟩ :: rs) (S l m) := by
  refine r_cons ?_ h
  have hr : (S l m).resL [x, y] = some [.row n len es xs, .p (.v (.int k j))] := by
    simp only [St.resL, St.res, hx, hy, lookT]
    rw [ho]; simp [hle]
  have := Step1.plain (P := P) ⟨some d, .iad es, [x, y], none⟩ (S l m) _ { v := .rp n es j.toNat 0 } rfl rfl hr (by simp [SemA, sem, h0]) (fun h => by cases h)
  simpa only [St.eff, putT, newO, frzO_nil, upd_tl] using this
theorem r_load_rp {sz es n i off ty : Nat} {ag : Bool} {x : Opd} {xs : List (List PV)} {fz : Bool} {c : List PV} {p : PV} (hx : (S l m).ev x = .rp n es i off) (ho : ol m n = some (.row ty es xs fz)) (hc : xs[i]? = some c) (hp : ldv c off sz ag = some p) (h : RunR P Q ks rs (S ((d, .p p) :: l) m)) :
    RunR P Q ks (⟨some d, .load sz ag, [x], none⟩ :: rs) (S l m) := by
  refine r_cons ?_ h
  have hr : (S l m).resL [x] = some [.rp n es i off c] := by
    simp only [St.resL, St.res, hx, lookT]
    rw [ho]; simp [hc]
  have := Step1.plain (P := P) ⟨some d, .load sz ag, [x], none⟩ (S l m) _ { v := .p p } rfl rfl hr (by simp [SemA, sem, hp]) (fun h => by cases h)
  simpa only [St.eff, putT, newO, frzO_nil, upd_tl] using this
theorem ldv_all {c : List PV} {sz : Nat} (h : c.length = sz) : ldv c 0 sz true = some (.agg c) := by
  simp only [ldv, Nat.zero_add, h, Nat.le_refl, if_true, List.drop_zero]
  rw [List.take_of_length_le (by omega)]

theorem r_arith {op : BinOp} {x y : Opd} {a b c : Int} (hx : (S l m).ev x = .p (.v (.int .i64 a))) (hy : (S l m).ev y = .p (.v (.int .i64 b))) (he : binV op (.int .i64 a) (.int .i64 b) = some (.int .i64 c)) (h : RunR P Q ks rs (S ((d, .p (.v (.int .i64 c))) :: l) m)) :
    RunR P Q ks (⟨some d, .bin op, [x, y], none⟩ :: rs) (S l m) :=
  r_sem (as := [.p (.v (.int .i64 a)), .p (.v (.int .i64 b))]) rfl (by simp only [St.resL, St.res, hx, hy, lookT]; rfl) (by simp only [sem, he, Option.map_some]) rfl h
theorem r_loadAll {sz : Nat} {x : Opd} {cells : List PV} (hx : (S l m).ev x = .p (.ref cells 0)) (hl : cells.length = sz) (h : RunR P Q ks rs (S ((d, .p (.agg cells)) :: l) m)) : RunR P Q ks (⟨some d, .load sz true, [x], none⟩ :: rs) (S l m) :=
  r_sem (as := [.p (.ref cells 0)]) rfl (by simp only [St.resL, St.res, hx, lookT]; rfl) (by simp only [sem, ldv_all hl, Option.map_some]) rfl h
theorem r_loadAllB {sz n : Nat} {x : Opd} {cells : List PV} {fz : Bool} (hx : (S l m).ev x = .own n 0) (ho : ol m n = some (.box cells fz)) (hl : cells.length = sz) (h : RunR P Q ks rs (S ((d, .p (.agg cells)) :: l) m)) : RunR P Q ks (⟨some d, .load sz true, [x], none⟩ :: rs) (S l m) :=
  r_sem (as := [.own n 0 cells]) rfl (by simp only [St.resL, St.res, hx, lookT]; rw [ho]; rfl) (by simp only [sem, ldv_all hl, Option.map_some]) rfl h
theorem wrap_id {n : Int} (h : -9223372036854775808 ≤ n ∧ n ≤ 9223372036854775807) : IntKind.i64.wrap n = n := by rw [IntKind.wrap_i64]; omega
theorem r_add {x y : Opd} {a b : Int} (hx : (S l m).ev x = .p (.v (.int .i64 a))) (hy : (S l m).ev y = .p (.v (.int .i64 b))) (hb : -9223372036854775808 ≤ a + b ∧ a + b ≤ 9223372036854775807) (h : RunR P Q ks rs (S ((d, .p (.v (.int .i64 (a + b)))) :: l) m)) :
    RunR P Q ks (⟨some d, .bin .add, [x, y], none⟩ :: rs) (S l m) := r_arith hx hy (by simp only [binV, if_true, wrap_id hb]) h
theorem r_sub {x y : Opd} {a b : Int} (hx : (S l m).ev x = .p (.v (.int .i64 a))) (hy : (S l m).ev y = .p (.v (.int .i64 b))) (hb : -9223372036854775808 ≤ a - b ∧ a - b ≤ 9223372036854775807) (h : RunR P Q ks rs (S ((d, .p (.v (.int .i64 (a - b)))) :: l) m)) :
    RunR P Q ks (⟨some d, .bin .sub, [x, y], none⟩ :: rs) (S l m) := r_arith hx hy (by simp only [binV, if_true, wrap_id hb]) h
theorem r_quo {x y : Opd} {a b : Int} (hx : (S l m).ev x = .p (.v (.int .i64 a))) (hy : (S l m).ev y = .p (.v (.int .i64 b))) (hb : b ≠ 0) (h : RunR P Q ks rs (S ((d, .p (.v (.int .i64 (IntKind.i64.wrap (a.tdiv b))))) :: l) m)) :
    RunR P Q ks (⟨some d, .bin .quo, [x, y], none⟩ :: rs) (S l m) := r_arith hx hy (by simp only [binV, if_true, if_neg hb]) h
theorem r_rem {x y : Opd} {a b : Int} (hx : (S l m).ev x = .p (.v (.int .i64 a))) (hy : (S l m).ev y = .p (.v (.int .i64 b))) (hb : b ≠ 0) (h : RunR P Q ks rs (S ((d, .p (.v (.int .i64 (IntKind.i64.wrap (a.tmod b))))) :: l) m)) (hw : IntKind.i64.wrap (a.tmod b) = a.tmod b) :
    RunR P Q ks (⟨some d, .bin .rem, [x, y], none⟩ :: rs) (S l m) := r_arith hx hy (by simp only [binV, if_true, if_neg hb]; rw [hw]) h

def plainL (t : Nat → T) : List Opd → Option (List PV)
  | [] => some []
  | .t n :: r => match t n with | .p x => (plainL t r).map (x :: ·) | _ => none
  | .c (.p x) :: r => (plainL t r).map (x :: ·)
  | _ => none
theorem plainL_ok {s : St} : ∀ {a : List Opd} {ps : List PV}, plainL s.t a = some ps → ∃ as, s.resL a = some as ∧ pvs as = some ps ∧ frzs as = []
  | [], ps, h => by cases h; exact ⟨[], rfl, rfl, rfl⟩
  | x :: r, ps, h => by
    have key : ∀ p, s.ev x = .p p → (plainL s.t r).map (p :: ·) = some ps → ∃ as, s.resL (x :: r) = some as ∧ pvs as = some ps ∧ frzs as = [] := fun p hx h => by
      obtain ⟨qs, hq, rfl⟩ := Option.map_eq_some_iff.1 h
      obtain ⟨as, h1, h2, h3⟩ := plainL_ok hq
      refine ⟨.p p :: as, ?_, ?_, ?_⟩
      · simp only [St.resL, St.res, hx, lookT, h1]; rfl
      · simp only [pvs, RA.pv, h2]; rfl
      · simp only [frzs, List.flatMap_cons, RA.frz, List.nil_append]; exact h3
    cases x with
    | t n =>
      simp only [plainL] at h
      split at h
      · rename_i e; exact key _ e h
      · cases h
    | c y =>
      cases y with
      | p z => exact key z rfl h
      | _ => cases h
theorem r_call {f : FuncId} {a : List Opd} {ps : List PV} {r : PV} (ha : plainL (tl l) a = some ps) (hr : Ret P f ps r) (h : RunR P Q ks rs (S ((d, .p r) :: l) m)) : RunR P Q ks (⟨some d, .call f, a, none⟩ :: rs) (S l m) := by
  refine r_cons ?_ h
  obtain ⟨as, h1, h2, h3⟩ := plainL_ok (s := S l m) ha
  have := Step1.plain (P := P) ⟨some d, .call f, a, none⟩ (S l m) as { v := .p r, frz := frzs as } rfl rfl h1 ⟨ps, r, h2, hr, rfl⟩ (fun h => by cases h)
  simpa only [St.eff, putT, newO, h3, frzO_nil, upd_tl] using this
theorem r_callv {a : List Opd} {f : FuncId} {caps ps : List PV} {r : PV} (ha : plainL (tl l) a = some (.clo f caps :: ps)) (hr : Ret P f (ps ++ caps) r) (h : RunR P Q ks rs (S ((d, .p r) :: l) m)) : RunR P Q ks (⟨some d, .callv, a, none⟩ :: rs) (S l m) := by
  refine r_cons ?_ h
  obtain ⟨as, h1, h2, h3⟩ := plainL_ok (s := S l m) ha
  cases as with
  | nil => cases h2
  | cons b bs =>
    simp only [pvs, Option.bind_eq_some_iff, Option.map_eq_some_iff] at h2
    obtain ⟨q, hq, qs, hqs, he⟩ := h2
    simp only [List.cons.injEq] at he
    obtain ⟨rfl, rfl⟩ := he
    have hb : b = .p (.clo f caps) := by cases b <;> simp_all [RA.pv]
    subst hb
    have := Step1.plain (P := P) ⟨some d, .callv, a, none⟩ (S l m) _ { v := .p r, frz := frzs (.p (.clo f caps) :: bs) } rfl rfl h1 ⟨f, caps, bs, qs, r, rfl, hqs, hr, rfl⟩ (fun h => by cases h)
    simpa only [St.eff, putT, newO, h3, frzO_nil, upd_tl] using this
theorem r_callF {f : FuncId} {a : List Opd} {as : List RA} {ps : List PV} {r : PV} {fs : List Nat} (ha : (S l m).resL a = some as) (hp : pvs as = some ps) (hf : frzs as = fs) (hr : Ret P f ps r) (h : RunR P Q ks rs (S ((d, .p r) :: l) (frzL fs m))) : RunR P Q ks (⟨some d, .call f, a, none⟩ :: rs) (S l m) := by
  refine r_cons ?_ h
  have := Step1.plain (P := P) ⟨some d, .call f, a, none⟩ (S l m) as { v := .p r, frz := frzs as } rfl rfl ha ⟨ps, r, hp, hr, rfl⟩ (fun h => by cases h)
  simpa only [St.eff, putT, newO, hf, frzL_ok, upd_tl] using this
theorem r_semF {k : Kd} {a : List Opd} {as : List RA} {p : PV} {fs : List Nat} (hk : k.solo = false) (ha : (S l m).resL a = some as) (he : sem k d as = some { v := .p p, frz := fs }) (hc : (match k with | .call _ | .callv => false | _ => true) = true) (h : RunR P Q ks rs (S ((d, .p p) :: l) (frzL fs m))) :
    RunR P Q ks (⟨some d, k, a, none⟩ :: rs) (S l m) := by
  refine r_cons ?_ h
  have hs : SemA P k d as { v := .p p, frz := fs } := by cases k <;> first | exact he | (cases hc)
  have := Step1.plain (P := P) ⟨some d, k, a, none⟩ (S l m) as { v := .p p, frz := fs } hk rfl ha hs (fun h => by cases h)
  simpa only [St.eff, putT, newO, frzL_ok, upd_tl] using this

theorem r_store {sz : Nat} {x y : Opd} {n off : Nat} {cells cs : List PV} {p : PV} (hx : (S l m).ev x = .own n off) (ho : ol m n = some (.box cells false)) (hy : (S l m).ev y = .p p) (hc : p.cells = some cs) (hl : cs.length = sz ∧ off + sz ≤ cells.length)
    (h : RunR P Q ks rs (S l ((n, some (.box (splice cells off cs) false)) :: m))) : RunR P Q ks (⟨none, .store sz, [x, y], none⟩ :: rs) (S l m) := by
  refine r_cons ?_ h
  have := Step1.storeBox (P := P) ⟨none, .store sz, [x, y], none⟩ (S l m) sz x y n off cells cs (.p p) p rfl rfl rfl rfl hx ho (by simp only [St.res, hy, lookT]) rfl hc hl (by simp [RA.frz])
  simpa only [RA.frz, frzO_nil, upd_ol] using this
theorem r_storeAll {sz : Nat} {x y : Opd} {n : Nat} {cells cs : List PV} {p : PV} (hx : (S l m).ev x = .own n 0) (ho : ol m n = some (.box cells false)) (hy : (S l m).ev y = .p p) (hc : p.cells = some cs) (hl : cs.length = sz) (hl2 : cells.length = sz)
    (h : RunR P Q ks rs (S l ((n, some (.box cs false)) :: m))) : RunR P Q ks (⟨none, .store sz, [x, y], none⟩ :: rs) (S l m) :=
  r_store hx ho hy hc ⟨hl, by omega⟩ (by
    have : splice cells 0 cs = cs := by simp [splice, List.drop_eq_nil_of_le (show cells.length ≤ cs.length by omega)]
    rw [this]; exact h)
theorem r_store_rp {sz : Nat} {x y : Opd} {n es i off ty : Nat} {xs : List (List PV)} {c cs : List PV} {p : PV} (hx : (S l m).ev x = .rp n es i off) (ho : ol m n = some (.row ty es xs false)) (hi : xs[i]? = some c) (hy : (S l m).ev y = .p p) (hc : p.cells = some cs) (hl : cs.length = sz ∧ off + sz ≤ es)
    (h : RunR P Q ks rs (S l ((n, some (.row ty es (xs.set i (splice c off cs)) false)) :: m))) : RunR P Q ks (⟨none, .store sz, [x, y], none⟩ :: rs) (S l m) := by
  refine r_cons ?_ h
  have := Step1.storeRow (P := P) ⟨none, .store sz, [x, y], none⟩ (S l m) sz x y n es i off ty xs c cs (.p p) p rfl rfl rfl rfl hx ho hi (by simp only [St.res, hy, lookT]) rfl hc hl (by simp [RA.frz])
  simpa only [RA.frz, frzO_nil, upd_ol] using this
theorem r_storeF {sz : Nat} {x y : Opd} {n off : Nat} {cells cs : List PV} {a : RA} {p : PV} {fs : List Nat} (hx : (S l m).ev x = .own n off) (ho : ol m n = some (.box cells false)) (hy : (S l m).res y = some a) (hp : a.pv = some p) (hf : a.frz = fs) (hc : p.cells = some cs) (hl : cs.length = sz ∧ off + sz ≤ cells.length) (hn : n ∉ fs)
    (h : RunR P Q ks rs (S l ((n, some (.box (splice cells off cs) false)) :: frzL fs m))) : RunR P Q ks (⟨none, .store sz, [x, y], none⟩ :: rs) (S l m) := by
  refine r_cons ?_ h
  subst hf
  have := Step1.storeBox (P := P) ⟨none, .store sz, [x, y], none⟩ (S l m) sz x y n off cells cs a p rfl rfl rfl rfl hx ho hy hp hc hl hn
  simpa only [frzL_ok, upd_ol] using this

theorem r_appNil {ty es bytes : Nat} {x y : Opd} {a : RA} {ys sp : List (List PV)} {fs : List Nat} (hx : (S l m).ev x = .nil) (hy : (S l m).res y = some a) (hp : a.pv = some (.sl ys sp)) (hfs : a.frz = fs) (he : ∀ z ∈ ys, z.length = es) (hl : ys.length * bytes ≤ 140737488355328) (hf : freshB d l = true)
    (h : RunR P Q ks rs (S ((d, .row d ys.length) :: l) ((d, some (.row ty es ys false)) :: frzL fs m))) : RunR P Q ks (⟨some d, .app ty es bytes, [x, y], none⟩ :: rs) (S l m) := by
  refine r_cons ?_ h
  subst hfs
  have := Step1.appNil (P := P) ⟨some d, .app ty es bytes, [x, y], none⟩ (S l m) ty es bytes d x y a ys sp rfl rfl rfl rfl hx hy hp he hl (fresh_S hf)
  simpa only [frzL_ok, upd_ol, upd_tl] using this
theorem r_appRow {ty es bytes n len : Nat} {x y : Opd} {a : RA} {xs ys sp : List (List PV)} {fz : Bool} {fs : List Nat} (hx : (S l m).ev x = .row n len) (ho : ol m n = some (.row ty es xs fz)) (hlen : len = xs.length) (hy : (S l m).res y = some a) (hp : a.pv = some (.sl ys sp)) (hfs : a.frz = fs) (he : ∀ z ∈ ys, z.length = es)
    (hl : (xs.length + ys.length) * bytes ≤ 140737488355328) (hn : n ∉ fs) (hf : d = n ∨ freshB d l = true)
    (h : RunR P Q ks rs (S ((d, .row d (xs.length + ys.length)) :: killL n l) ((d, some (.row ty es (xs ++ ys) fz)) :: (n, none) :: frzL fs m))) : RunR P Q ks (⟨some d, .app ty es bytes, [x, y], none⟩ :: rs) (S l m) := by
  refine r_cons ?_ h
  subst hfs; subst hlen
  have := Step1.appRow (P := P) ⟨some d, .app ty es bytes, [x, y], none⟩ (S l m) ty es bytes d n x y a xs ys sp fz rfl rfl rfl rfl hx ho hy hp he hl hn (fun hne => fresh_S (hf.resolve_left hne))
  simpa only [frzL_ok, killL_ok, upd_ol, upd_tl] using this

theorem r_calln {f : FuncId} {a : List Opd} {as : List RA} {ps : List PV} {fs : List Nat} {ty es : Nat} {zs : List (List PV)} (ha : (S l m).resL a = some as) (hp : pvs as = some ps) (hfs : frzs as = fs) (hr : RetN P f ps ty es zs) (hf : freshB d l = true)
    (h : RunR P Q ks rs (S ((d, .row d zs.length) :: l) ((d, some (.row ty es zs false)) :: frzL fs m))) : RunR P Q ks (⟨some d, .calln f, a, none⟩ :: rs) (S l m) := by
  refine r_cons ?_ h
  subst hfs
  have := Step1.calln (P := P) ⟨some d, .calln f, a, none⟩ (S l m) f d as ps ty es zs rfl rfl rfl ha hp hr (fresh_S hf)
  simpa only [frzL_ok, upd_ol, upd_tl] using this
theorem r_calli {f : FuncId} {n len : Nat} {x : Opd} {a : List Opd} {as : List RA} {ps : List PV} {fs : List Nat} {ty es : Nat} {xs zs : List (List PV)} (hx : (S l m).ev x = .row n len) (ho : ol m n = some (.row ty es xs false)) (hlen : len = xs.length) (ha : (S l m).resL a = some as) (hp : pvs as = some ps) (hfs : frzs as = fs)
    (hr : RetI P f ty es xs ps zs) (hn : n ∉ fs) (hf : d = n ∨ freshB d l = true)
    (h : RunR P Q ks rs (S ((d, .row d zs.length) :: killL n l) ((d, some (.row ty es zs false)) :: (n, none) :: frzL fs m))) : RunR P Q ks (⟨some d, .calli f, x :: a, none⟩ :: rs) (S l m) := by
  refine r_cons ?_ h
  subst hfs; subst hlen
  have := Step1.calli (P := P) ⟨some d, .calli f, x :: a, none⟩ (S l m) f d n x a as ps ty es xs zs rfl rfl rfl rfl hx ho ha hp hn hr (fun hne => fresh_S (hf.resolve_left hne))
  simpa only [frzL_ok, killL_ok, upd_ol, upd_tl] using this

theorem r_callu {f : FuncId} {n len : Nat} {x : Opd} {a : List Opd} {as : List RA} {ps : List PV} {fs : List Nat} {ty es : Nat} {xs zs : List (List PV)} {q : PV} (hx : (S l m).ev x = .row n len) (ho : ol m n = some (.row ty es xs false)) (hlen : len = xs.length) (ha : (S l m).resL a = some as) (hp : pvs as = some ps) (hfs : frzs as = fs)
    (hr : RetU P f ty es xs ps zs q) (hn : n ∉ fs) (h : RunR P Q ks rs (S ((d, .p q) :: l) ((n, some (.row ty es zs false)) :: frzL fs m))) : RunR P Q ks (⟨some d, .callu f, x :: a, none⟩ :: rs) (S l m) := by
  refine r_cons ?_ h
  subst hfs; subst hlen
  have := Step1.callu (P := P) ⟨some d, .callu f, x :: a, none⟩ (S l m) f n x a as ps ty es xs zs rfl rfl rfl hx ho ha hp hn hr
  simpa only [frzL_ok, upd_ol, upd_tl, putT] using this

theorem r_slc {es : Nat} {lo hi : Bool} {x : Opd} {r : List Opd} {xs sp : List (List PV)} {rs' : List RA} {i j : Nat} (hx : (S l m).ev x = .p (.sl xs sp)) (hr : (S l m).resL r = some rs') (hb : bnds lo hi xs.length rs' = some (i, j)) (hij : i ≤ j ∧ j ≤ (xs ++ sp).length ∧ (i = 0 ∨ headLen es (xs ++ sp) = true))
    (h : RunR P Q ks rs (S ((d, .p (.sl (((xs ++ sp).take j).drop i) ((xs ++ sp).drop j))) :: l) m)) : RunR P Q ks (⟨some d, .slc es lo hi, x :: r, none⟩ :: rs) (S l m) :=
  r_sem (as := .p (.sl xs sp) :: rs') rfl (by simp only [St.resL, St.res, hx, lookT, hr]; rfl) (by simp only [sem, hb, Option.bind_some, if_pos hij]) rfl h
theorem r_slc_row {es n len es' ty : Nat} {lo hi : Bool} {x : Opd} {r : List Opd} {xs : List (List PV)} {fz : Bool} {rs' : List RA} {j : Nat} (hx : (S l m).ev x = .row n len) (ho : ol m n = some (.row ty es' xs fz)) (hle : len ≤ xs.length) (hr : (S l m).resL r = some rs') (hb : bnds lo hi len rs' = some (0, j)) (hij : j ≤ xs.length)
    (h : RunR P Q ks rs (S ((d, .row n j) :: l) m)) : RunR P Q ks (⟨some d, .slc es lo hi, x :: r, none⟩ :: rs) (S l m) := by
  refine r_cons ?_ h
  have hres : (S l m).resL (x :: r) = some (.row n len es' xs :: rs') := by
    simp only [St.resL, St.res, hx, lookT]
    rw [ho]; simp only [if_pos hle, hr]; rfl
  have := Step1.plain (P := P) ⟨some d, .slc es lo hi, x :: r, none⟩ (S l m) _ { v := .row n j } rfl rfl hres (by simp [SemA, sem, hb, hij]) (fun h => by cases h)
  simpa only [St.eff, putT, newO, frzO_nil, upd_tl] using this

theorem r_look {kt kt' et : Nat} {z p : PV} {ok : Bool} {x y : Opd} {n : Nat} {k : ByteArray} {es : List (ByteArray × PV)} (hx : (S l m).ev x = .mp n) (ho : ol m n = some (.mp kt et es)) (hy : (S l m).ev y = .p (.v (.string k))) (hp : p = (match mfind k es, ok with
    | some x, true => .tup [x, .v (.bool true)]
    | some x, false => x
    | none, true => .tup [z, .v (.bool false)]
    | none, false => z)) (h : RunR P Q ks rs (S ((d, .p p) :: l) m)) : RunR P Q ks (⟨some d, .look kt z ok, [x, y], none⟩ :: rs) (S l m) := by
  refine r_sem (as := [.mp n kt et es, .p (.v (.string k))]) rfl ?_ ?_ rfl h
  · simp only [St.resL, St.res, hx, hy, lookT]; rw [ho]; rfl
  · subst hp; simp only [sem, if_true]; cases mfind k es <;> cases ok <;> rfl
theorem r_mset {kt et n : Nat} {x y z : Opd} {k : ByteArray} {p : PV} {es : List (ByteArray × PV)} (hx : (S l m).ev x = .mp n) (ho : ol m n = some (.mp kt et es)) (hy : (S l m).ev y = .p (.v (.string k))) (hz : (S l m).ev z = .p p)
    (h : RunR P Q ks rs (S l ((n, some (.mp kt et (mput k p es))) :: m))) : RunR P Q ks (⟨none, .mset kt et, [x, y, z], none⟩ :: rs) (S l m) := by
  refine r_cons ?_ h
  have := Step1.mset (P := P) ⟨none, .mset kt et, [x, y, z], none⟩ (S l m) kt et n x y z (.p p) k p [] es rfl rfl rfl rfl hx ho hy (by simp only [St.res, hz, lookT]) rfl (by simp [RA.frz])
  simpa only [RA.frz, frzO_nil, upd_ol] using this
theorem r_mdel {kt et n : Nat} {x y : Opd} {k : ByteArray} {es : List (ByteArray × PV)} (hx : (S l m).ev x = .mp n) (ho : ol m n = some (.mp kt et es)) (hy : (S l m).ev y = .p (.v (.string k)))
    (h : RunR P Q ks rs (S l ((n, some (.mp kt et (mcut k es))) :: m))) : RunR P Q ks (⟨none, .mdel kt, [x, y], none⟩ :: rs) (S l m) := by
  refine r_cons ?_ h
  have := Step1.mdel (P := P) ⟨none, .mdel kt, [x, y], none⟩ (S l m) kt et n x y k es rfl rfl rfl rfl hx ho hy
  simpa only [upd_ol] using this

def PV.bd1 : PV → Prop
  | .sl xs sp => (xs ++ sp).length ≤ maxLen
  | _ => True
def PV.bd : PV → Prop
  | .agg cs => ∀ c ∈ cs, c.bd1
  | p => p.bd1
theorem Rep.bd1 {F : Fz} {p : PV} {v : Value} (h : Rep F p v) : p.bd1 := by
  cases h with
  | sl xs sp es b off cap o ys hw hcap hm ho hl h1 hF hr => exact Nat.le_trans hcap hm
  | _ => exact trivial
theorem Rep.bd {F : Fz} {p : PV} {v : Value} (h : Rep F p v) : p.bd := by
  cases h with
  | agg cs ys hl h1 hr =>
    intro c hc
    obtain ⟨j, hj, rfl⟩ := List.mem_iff_getElem.1 hc
    exact (hr j _ (ys[j]'(by omega)) (by simp) (by simp)).bd1
  | sl xs sp es b off cap o ys hw hcap hm ho hl h1 hF hr => exact Nat.le_trans hcap hm
  | _ => exact trivial

theorem ret_run {f : FuncId} {fn : Func} {body : Code} {c : C} {nt : Nat} {ps : List PV} {rvs : List RV} {p : PV} (hf : P.funcs[f]? = some fn) (hb : fn.body = some body) (hname : (fn.name == "runtime.NumGoroutine") = false) (hnt : fn.ntmps = nt)
    (hr : mapO (trRes P nt) fn.results.toList = some rvs) (ht : trC P nt body = some c.base) (hdr : drC P body c = true) (h9 : Nat.ble nt LN = true) (hn : ps.length ≤ nt)
    (h : (∀ q ∈ ps, q.bd) → Run P (fun e s' => (∀ id, e ≠ .exit id) ∧ ∃ ns, s'.out rvs = some (p, ns)) [] c (S (initL 0 ps) [])) : Ret P f ps p := by
  have key : (∀ q ∈ ps, q.bd) → Ret P f ps p := fun hbd => by
    refine ret_of hf hb hname hnt hr ht hdr h9 hn ?_
    obtain ⟨e, s', h1, h2⟩ := (h hbd).out
    rw [init_eq]
    exact ⟨e, s', h1, h2⟩
  refine ⟨fun args w => ?_, fun w F ys hfin hrep => (key ?_).2 w F ys hfin hrep⟩
  · have hne : ¬ fn.name = "runtime.NumGoroutine" := by simpa using hname
    simp [callFunc, hf, hne, hb]
  · intro q hq
    obtain ⟨j, hj, rfl⟩ := List.mem_iff_getElem.1 hq
    have hl := hrep.1
    exact (hrep.2 j _ (ys[j]'(by omega)) (by simp) (by simp)).bd
theorem retN_run {f : FuncId} {fn : Func} {body : Code} {c : C} {nt t ty es : Nat} {ps : List PV} {zs : List (List PV)} (hf : P.funcs[f]? = some fn) (hb : fn.body = some body) (hname : (fn.name == "runtime.NumGoroutine") = false) (hnt : fn.ntmps = nt)
    (hr : fn.results = #[.tmp t]) (htn : t < nt) (ht : trC P nt body = some c.base) (hdr : drC P body c = true) (h9 : Nat.ble nt LN = true) (hn : ps.length ≤ nt)
    (h : (∀ q ∈ ps, q.bd) → Run P (fun e s' => (∀ id, e ≠ .exit id) ∧ ((s'.t t = .nil ∧ zs = []) ∨ ∃ n, s'.t t = .row n zs.length ∧ s'.o n = some (.row ty es zs false))) [] c (S (initL 0 ps) [])) : RetN P f ps ty es zs := by
  have key : (∀ q ∈ ps, q.bd) → RetN P f ps ty es zs := fun hbd => by
    refine retN_of hf hb hname hnt hr htn ht hdr h9 hn ?_
    obtain ⟨e, s', h1, h2⟩ := (h hbd).out
    rw [init_eq]
    exact ⟨e, s', h1, h2⟩
  refine ⟨fun args w => ?_, fun w F ys hfin hrep => (key ?_).2 w F ys hfin hrep⟩
  · have hne : ¬ fn.name = "runtime.NumGoroutine" := by simpa using hname
    simp [callFunc, hf, hne, hb]
  · intro q hq
    obtain ⟨j, hj, rfl⟩ := List.mem_iff_getElem.1 hq
    have hl := hrep.1
    exact (hrep.2 j _ (ys[j]'(by omega)) (by simp) (by simp)).bd
theorem initU_eq (len : Nat) (ps : List PV) (ty es : Nat) (xs : List (List PV)) : St.initU len ps ty es xs = S ((0, .row LN len) :: initL 1 ps) [(LN, some (.row ty es xs false))] := by
  simp only [St.initU, S, St.mk.injEq]
  refine ⟨?_, ?_⟩
  · funext k
    cases k with
    | zero => simp [tl]
    | succ k =>
      have := tl_initL ps 1 k
      rw [Nat.add_comm] at this
      simp only [tl]
      rw [if_neg (by omega)]
      exact this.symm
  · funext n; simp only [ol]
theorem retU_run {f : FuncId} {fn : Func} {body : Code} {c : C} {nt ty es : Nat} {ps : List PV} {xs zs : List (List PV)} (hf : P.funcs[f]? = some fn) (hb : fn.body = some body) (hname : (fn.name == "runtime.NumGoroutine") = false) (hnt : fn.ntmps = nt)
    (hr : fn.results = #[]) (ht : trC P nt body = some c.base) (hdr : drC P body c = true) (h9 : Nat.ble nt LN = true) (hn : ps.length + 1 ≤ nt) (hzl : zs.length = xs.length) (hx : xs ≠ []) (hlv : ∀ p ∈ zs.flatten, ∃ x, p = .v x)
    (h : Run P (fun e s' => (∀ id, e ≠ .exit id) ∧ ∃ fz, s'.o LN = some (.row ty es zs fz)) [] c (S ((0, .row LN xs.length) :: initL 1 ps) [(LN, some (.row ty es xs false))])) : RetU P f ty es xs ps zs := by
  refine retU_of hf hb hname hnt hr ht hdr h9 hn hzl hx hlv ?_
  obtain ⟨e, s', h1, h2⟩ := h.out
  rw [initU_eq]
  exact ⟨e, s', h1, h2⟩
theorem retUv_run {f : FuncId} {fn : Func} {body : Code} {c : C} {nt t ty es : Nat} {ps : List PV} {xs zs : List (List PV)} {x : Value} (hf : P.funcs[f]? = some fn) (hb : fn.body = some body) (hname : (fn.name == "runtime.NumGoroutine") = false) (hnt : fn.ntmps = nt)
    (hr : fn.results = #[.tmp t]) (htn : t < nt) (ht : trC P nt body = some c.base) (hdr : drC P body c = true) (h9 : Nat.ble nt LN = true) (hn : ps.length + 1 ≤ nt) (hzl : zs.length = xs.length) (hx : xs ≠ []) (hlv : ∀ p ∈ zs.flatten, ∃ x, p = .v x)
    (h : Run P (fun e s' => (∀ id, e ≠ .exit id) ∧ ∃ fz, s'.t t = .p (.v x) ∧ s'.o LN = some (.row ty es zs fz)) [] c (S ((0, .row LN xs.length) :: initL 1 ps) [(LN, some (.row ty es xs false))])) : RetU P f ty es xs ps zs (.v x) := by
  refine retUv_of hf hb hname hnt hr htn ht hdr h9 hn hzl hx hlv ?_
  obtain ⟨e, s', h1, h2⟩ := h.out
  rw [initU_eq]
  exact ⟨e, s', h1, h2⟩
theorem fin_lentv {t ty es : Nat} {fz : Bool} {zs ws : List (List PV)} {x : Value} (h1 : s.t t = .p (.v x)) (h2 : s.o LN = some (.row ty es ws fz)) (he : ws = zs) : Fin P (fun e s' => (∀ id, e ≠ .exit id) ∧ ∃ fz, s'.t t = .p (.v x) ∧ s'.o LN = some (.row ty es zs fz)) [] .ret s :=
  ⟨⟨fun _ e => (by cases e), fz, h1, he ▸ h2⟩⟩
theorem fin_lent {ty es : Nat} {fz : Bool} {zs ws : List (List PV)} (h2 : s.o LN = some (.row ty es ws fz)) (he : ws = zs) : Fin P (fun e s' => (∀ id, e ≠ .exit id) ∧ ∃ fz, s'.o LN = some (.row ty es zs fz)) [] .n s :=
  ⟨⟨fun _ e => (by cases e), fz, he ▸ h2⟩⟩
theorem retV_run {f : FuncId} {fn : Func} {body : Code} {c : C} {nt t ty es : Nat} {ps : List PV} {zs : List (List PV)} (hf : P.funcs[f]? = some fn) (hb : fn.body = some body) (hname : (fn.name == "runtime.NumGoroutine") = false) (hnt : fn.ntmps = nt)
    (hr : fn.results = #[.tmp t]) (htn : t < nt) (ht : trC P nt body = some c.base) (hdr : drC P body c = true) (h9 : Nat.ble nt LN = true) (hn : ps.length ≤ nt) (hl : ∀ p ∈ zs.flatten, ∃ x, p = .v x)
    (h : (∀ q ∈ ps, q.bd) → Run P (fun e s' => (∀ id, e ≠ .exit id) ∧ ∃ n fz, s'.t t = .row n zs.length ∧ s'.o n = some (.row ty es zs fz)) [] c (S (initL 0 ps) [])) : RetN P f ps ty es zs := by
  have key : (∀ q ∈ ps, q.bd) → RetN P f ps ty es zs := fun hbd => by
    refine retV_of hf hb hname hnt hr htn ht hdr h9 hn hl ?_
    obtain ⟨e, s', h1, h2⟩ := (h hbd).out
    rw [init_eq]
    exact ⟨e, s', h1, h2⟩
  refine ⟨fun args w => ?_, fun w F ys hfin hrep => (key ?_).2 w F ys hfin hrep⟩
  · have hne : ¬ fn.name = "runtime.NumGoroutine" := by simpa using hname
    simp [callFunc, hf, hne, hb]
  · intro q hq
    obtain ⟨j, hj, rfl⟩ := List.mem_iff_getElem.1 hq
    have hl := hrep.1
    exact (hrep.2 j _ (ys[j]'(by omega)) (by simp) (by simp)).bd
theorem fin_rowV {t ty es n len : Nat} {fz : Bool} {zs ws : List (List PV)} (h : s.t t = .row n len) (hl : len = zs.length) (h2 : s.o n = some (.row ty es ws fz)) (he : ws = zs) : Fin P (fun e s' => (∀ id, e ≠ .exit id) ∧ ∃ n fz, s'.t t = .row n zs.length ∧ s'.o n = some (.row ty es zs fz)) [] .ret s :=
  ⟨⟨fun _ e => (by cases e), n, fz, hl ▸ h, he ▸ h2⟩⟩
theorem r_len_row {d n len ty es : Nat} {x : Opd} {xs : List (List PV)} {fz : Bool} (hx : (S l m).ev x = .row n len) (ho : ol m n = some (.row ty es xs fz)) (hle : len ≤ xs.length)
    (h : RunR P Q ks rs (S ((d, .p (.v (.int .i64 (len : Nat)))) :: l) m)) : RunR P Q ks (⟨some d, .len 0, [x], none⟩ :: rs) (S l m) :=
  r_sem (as := [.row n len es xs]) rfl (by simp only [St.resL, St.res, hx, lookT]; rw [ho]; simp [hle]) rfl rfl h
theorem r_rem2 {d : Nat} {x y : Opd} {a b : Int} (hx : (S l m).ev x = .p (.v (.int .i64 a))) (hy : (S l m).ev y = .p (.v (.int .i64 b))) (hb : b ≠ 0)
    (h : RunR P Q ks rs (S ((d, .p (.v (.int .i64 (a.tmod b)))) :: l) m)) : RunR P Q ks (⟨some d, .bin .rem, [x, y], none⟩ :: rs) (S l m) := r_arith hx hy (by simp only [binV, if_true, if_neg hb]) h
theorem fin_row {t ty es n len : Nat} {zs ws : List (List PV)} (h : s.t t = .row n len) (hl : len = zs.length) (h2 : s.o n = some (.row ty es ws false)) (he : ws = zs) : Fin P (fun e s' => (∀ id, e ≠ .exit id) ∧ ((s'.t t = .nil ∧ zs = []) ∨ ∃ n, s'.t t = .row n zs.length ∧ s'.o n = some (.row ty es zs false))) [] .ret s :=
  ⟨⟨fun _ e => (by cases e), .inr ⟨n, hl ▸ h, he ▸ h2⟩⟩⟩
theorem fin_rowNil {t ty es : Nat} {zs : List (List PV)} (h : s.t t = .nil) (he : zs = []) : Fin P (fun e s' => (∀ id, e ≠ .exit id) ∧ ((s'.t t = .nil ∧ zs = []) ∨ ∃ n, s'.t t = .row n zs.length ∧ s'.o n = some (.row ty es zs false))) [] .ret s :=
  ⟨⟨fun _ e => (by cases e), .inl ⟨h, he⟩⟩⟩
theorem q_ret' {rvs : List RV} {p p0 : PV} {ns : List Nat} (h : s.out rvs = some (p0, ns)) (he : p0 = p) : (∀ id, Ex.ret ≠ .exit id) ∧ ∃ ns, s.out rvs = some (p, ns) := ⟨fun _ e => (by cases e), ns, he ▸ h⟩
theorem q_n' {rvs : List RV} {p p0 : PV} {ns : List Nat} (h : s.out rvs = some (p0, ns)) (he : p0 = p) : (∀ id, Ex.n ≠ .exit id) ∧ ∃ ns, s.out rvs = some (p, ns) := ⟨fun _ e => (by cases e), ns, he ▸ h⟩
theorem fin_out {rvs : List RV} {p p0 : PV} {ns : List Nat} (h : s.out rvs = some (p0, ns)) (he : p0 = p) : Fin P (fun e s' => (∀ id, e ≠ .exit id) ∧ ∃ ns, s'.out rvs = some (p, ns)) [] .ret s := ⟨⟨fun _ e => (by cases e), ns, he ▸ h⟩⟩
theorem fin_outn {rvs : List RV} {p p0 : PV} {ns : List Nat} (h : s.out rvs = some (p0, ns)) (he : p0 = p) : Fin P (fun e s' => (∀ id, e ≠ .exit id) ∧ ∃ ns, s'.out rvs = some (p, ns)) [] .n s := ⟨⟨fun _ e => (by cases e), ns, he ▸ h⟩⟩
theorem q_ret {rvs : List RV} {p : PV} {ns : List Nat} (h : s.out rvs = some (p, ns)) : (∀ id, Ex.ret ≠ .exit id) ∧ ∃ ns, s.out rvs = some (p, ns) := ⟨fun _ e => (by cases e), ns, h⟩
theorem q_n {rvs : List RV} {p : PV} {ns : List Nat} (h : s.out rvs = some (p, ns)) : (∀ id, Ex.n ≠ .exit id) ∧ ∃ ns, s.out rvs = some (p, ns) := ⟨fun _ e => (by cases e), ns, h⟩
theorem r_doA {d : Option Nat} {k : Kd} {a : List Opd} {n : Nat} {b c : Bool} (hn : tl l n = .p (.v (.bool c))) (h : RunR P Q ks (⟨d, k, a, none⟩ :: rs) (S l m)) (hc : c = b := by first | with_reducible rfl | assumption | decide) : RunR P Q ks (⟨d, k, a, some (n, b)⟩ :: rs) (S l m) := r_do hn hc h
theorem r_skipA {k : Kd} {a : List Opd} {n : Nat} {b c : Bool} (hn : tl l n = .p (.v (.bool c))) (h : RunR P Q ks rs (S ((d, .p (.v undef)) :: l) m)) (hc : c = !b := by first | with_reducible rfl | assumption | decide) : RunR P Q ks (⟨some d, k, a, some (n, b)⟩ :: rs) (S l m) := r_skip hn hc h
theorem r_pickT {x y z : Opd} {c : Bool} {t u : PV} (hx : (S l m).ev x = .p (.v (.bool c))) (hy : (S l m).ev y = .p t) (hz : (S l m).ev z = .p u) (h : RunR P Q ks rs (S ((d, .p t) :: l) m)) (hc : c = true := by first | with_reducible rfl | assumption | decide) : RunR P Q ks (⟨some d, .pick, [x, y, z], none⟩ :: rs) (S l m) := r_pick_t hx hc hy hz h
theorem r_pickF {x y z : Opd} {c : Bool} {t u : PV} (hx : (S l m).ev x = .p (.v (.bool c))) (hy : (S l m).ev y = .p t) (hz : (S l m).ev z = .p u) (h : RunR P Q ks rs (S ((d, .p u) :: l) m)) (hc : c = false := by first | with_reducible rfl | assumption | decide) : RunR P Q ks (⟨some d, .pick, [x, y, z], none⟩ :: rs) (S l m) := r_pick_f hx hc hy hz h
theorem run_condT {c : Opd} {a b : C} {t : Bool} (hc : s.ev c = .p (.v (.bool t))) (h1 : Run P Q ks a s) (ht : t = true := by first | with_reducible rfl | assumption | decide) : Run P Q ks (.cond c a b) s := run_cond_t hc ht h1
theorem run_condF {c : Opd} {a b : C} {t : Bool} (hc : s.ev c = .p (.v (.bool t))) (h1 : Run P Q ks b s) (ht : t = false := by first | with_reducible rfl | assumption | decide) : Run P Q ks (.cond c a b) s := run_cond_f hc ht h1
theorem r_iadA {es : Nat} {x y : Opd} {xs sp : List (List PV)} {k : IntKind} {j : Int} {c : List PV} (hx : (S l m).ev x = .p (.sl xs sp)) (hy : (S l m).ev y = .p (.v (.int k j))) (h : RunR P Q ks rs (S ((d, .p (.ref c 0)) :: l) m)) (h0 : 0 ≤ j := by omega) (hc : xs[j.toNat]? = some c := by assumption) (hl : c.length = es := by first | rfl | assumption | omega | (simp; done) | (simp; omega)) :
    RunR P Q ks (⟨some d, .iad es, [x, y], none⟩ :: rs) (S l m) := r_iad hx hy h0 hc hl h
theorem r_loadA {sz : Nat} {x : Opd} {cells : List PV} (hx : (S l m).ev x = .p (.ref cells 0)) (h : RunR P Q ks rs (S ((d, .p (.agg cells)) :: l) m)) (hl : cells.length = sz := by first | rfl | assumption) : RunR P Q ks (⟨some d, .load sz true, [x], none⟩ :: rs) (S l m) := r_loadAll hx hl h
theorem r_loadB {sz n : Nat} {x : Opd} {cells : List PV} {fz : Bool} (hx : (S l m).ev x = .own n 0) (ho : ol m n = some (.box cells fz)) (h : RunR P Q ks rs (S ((d, .p (.agg cells)) :: l) m)) (hl : cells.length = sz := by first | rfl | assumption) : RunR P Q ks (⟨some d, .load sz true, [x], none⟩ :: rs) (S l m) := r_loadAllB hx ho hl h
theorem r_mv_rowA {x : Opd} {n len ty es : Nat} {xs : List (List PV)} {fz : Bool} (hx : (S l m).ev x = .row n len) (ho : ol m n = some (.row ty es xs fz)) (h : RunR P Q ks rs (S ((d, .row n len) :: l) m)) (hl : len ≤ xs.length := by first | rfl | assumption | omega | (simp; done) | (simp; omega)) : RunR P Q ks (⟨some d, .mv, [x], none⟩ :: rs) (S l m) := r_mv_row hx ho hl h
theorem r_addA {x y : Opd} {a b : Int} (hx : (S l m).ev x = .p (.v (.int .i64 a))) (hy : (S l m).ev y = .p (.v (.int .i64 b))) (h : RunR P Q ks rs (S ((d, .p (.v (.int .i64 (a + b)))) :: l) m)) (hb : -9223372036854775808 ≤ a + b ∧ a + b ≤ 9223372036854775807 := by omega) :
    RunR P Q ks (⟨some d, .bin .add, [x, y], none⟩ :: rs) (S l m) := r_add hx hy hb h
end
end Go.Fw
