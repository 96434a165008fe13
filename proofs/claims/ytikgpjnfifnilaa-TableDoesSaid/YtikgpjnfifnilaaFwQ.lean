/-
  A run of operations, and a drawn region: any order that the edges leave open ends in the same state.
-/
import Derived.Test.YtikgpjnfifnilaaFwP
set_option linter.unusedVariables false
set_option linter.unusedSimpArgs false
namespace Go.Fw
open Go.RowKit

def Own.shape : Own → Own → Prop
  | .box c _, .box c' _ => True
  | .row _ es xs _, .row _ es' xs' _ => es' = es ∧ xs'.length = xs.length
  | .mp .., .mp .. => True
  | _, _ => False
theorem Own.shape_freeze (x : Own) : x.shape x.freeze := by cases x <;> simp [Own.shape, Own.freeze]
theorem Own.shape_refl (x : Own) : x.shape x := by cases x <;> simp [Own.shape]

theorem lookT_shape {o o' : Nat → Option Own} (h : ∀ k x, o k = some x → ∃ y, o' k = some y ∧ x.shape y) {t : T} {a : RA} (ha : lookT o t = some a) : ∃ a', lookT o' t = some a' ∧ a'.toT = a.toT ∧ ∀ x, a = .p x → a' = a := by
  cases t with
  | p x => exact ⟨a, ha, rfl, fun _ _ => rfl⟩
  | nil => exact ⟨a, ha, rfl, fun _ _ => rfl⟩
  | own n off =>
    simp only [lookT] at ha
    split at ha
    · rename_i e; cases ha
      obtain ⟨y, hy, hs⟩ := h n _ e
      cases y <;> simp only [Own.shape] at hs
      rename_i c' _
      exact ⟨.own n off c', by simp only [lookT, hy], rfl, fun x hx => by cases hx⟩
    · cases ha
  | row n l =>
    simp only [lookT] at ha
    split at ha
    · rename_i e
      split at ha
      · rename_i hl; cases ha
        obtain ⟨y, hy, hs⟩ := h n _ e
        cases y <;> simp only [Own.shape] at hs
        rename_i es' xs' _
        obtain ⟨rfl, hs⟩ := hs
        exact ⟨.row n l es' xs', by simp only [lookT, hy]; rw [if_pos (by omega)], rfl, fun x hx => by cases hx⟩
      · cases ha
    · cases ha
  | rp n es i off =>
    simp only [lookT] at ha
    split at ha
    · rename_i e
      split at ha
      · rename_i he
        simp only [Option.map_eq_some_iff] at ha
        obtain ⟨c, hc, rfl⟩ := ha
        obtain ⟨y, hy, hs⟩ := h n _ e
        cases y <;> simp only [Own.shape] at hs
        rename_i xs' _
        obtain ⟨rfl, hs⟩ := hs
        have hi : i < xs'.length := by have := (List.getElem?_eq_some_iff.1 hc).1; omega
        exact ⟨.rp n es i off xs'[i], by simp only [lookT, hy]; rw [if_pos he, List.getElem?_eq_getElem hi]; rfl, rfl, fun x hx => by cases hx⟩
      · cases ha
    · cases ha
  | mp n =>
    simp only [lookT] at ha
    split at ha
    · rename_i e; cases ha
      obtain ⟨y, hy, hs⟩ := h n _ e
      cases y <;> simp only [Own.shape] at hs
      rename_i kt' et' es'
      exact ⟨.mp n kt' et' es', by simp only [lookT, hy], rfl, fun x hx => by cases hx⟩
    · cases ha

theorem shape_upd {o : Nat → Option Own} {fs : List Nat} {n : Nat} {x y : Own} (hn : o n = some x) (hs : x.shape y) : ∀ k z, o k = some z → ∃ z', upd (frzO o fs) n (some y) k = some z' ∧ z.shape z' := by
  intro k z hz
  by_cases e : k = n
  · subst e; rw [hn] at hz; cases hz; exact ⟨y, upd_same _ _ _, hs⟩
  · rw [upd_ne _ _ e]
    unfold frzO
    split
    · rw [hz]; exact ⟨_, rfl, z.shape_freeze⟩
    · exact ⟨z, hz, z.shape_refl⟩

theorem resL_plain {s : St} {o' : Nat → Option Own} (ho : ∀ k x, s.o k = some x → ∃ y, o' k = some y ∧ x.shape y) : ∀ {xs : List Opd} {as : List RA}, s.resL xs = some as → (∀ a ∈ as, ∃ x, a = .p x) → (⟨s.t, o'⟩ : St).resL xs = some as
  | [], as, h, _ => by cases h; rfl
  | x :: xs, as, h, hp => by
    simp only [St.resL, Option.bind_eq_some_iff, Option.map_eq_some_iff] at h
    obtain ⟨b, hb, bs, hbs, rfl⟩ := h
    obtain ⟨q, rfl⟩ := hp b (by simp)
    obtain ⟨a', g1, g2, g3⟩ := lookT_shape ho hb
    have g4 := g3 _ rfl
    subst g4
    have h1 : (⟨s.t, o'⟩ : St).res x = some (.p q) := by unfold St.res; cases x <;> exact g1
    simp only [St.resL, h1, resL_plain ho hbs (fun a ha => hp a (by simp [ha]))]
    rfl
/-- What hangs on the slots alone is done alike after a store. -/
theorem ActA.slots {P : Program} {r : RG} {s : St} {e : Eff} (h : ActA P r s e) (hk : r.k.slots = true) {o' : Nat → Option Own} (ho : ∀ k x, s.o k = some x → ∃ y, o' k = some y ∧ x.shape y) : ActA P r ⟨s.t, o'⟩ e ∧ e.new = none ∧ e.frz = [] := by
  rcases h with ⟨hw, rfl⟩ | ⟨hw, as, hr, he, hn⟩
  · exact ⟨.inl ⟨hw, rfl⟩, rfl, rfl⟩
  · cases hkk : r.k <;> rw [hkk] at hk <;> simp only [Kd.slots] at hk <;> try (cases hk; done)
    case mv =>
      rw [hkk] at he
      simp only [SemA, sem] at he
      split at he
      · rename_i a
        cases he
        cases hx : r.a with
        | nil => rw [hx] at hr; simp [St.resL] at hr
        | cons x xs =>
          rw [hx] at hr
          cases xs with
          | cons y ys => simp only [St.resL, Option.bind_eq_some_iff, Option.map_eq_some_iff] at hr; obtain ⟨_, _, l, ⟨_, _, l2, _, rfl⟩, h⟩ := hr; cases h
          | nil =>
            simp only [St.resL, Option.bind_eq_some_iff, Option.map_eq_some_iff] at hr
            obtain ⟨b, hb, l, h1, h2⟩ := hr
            cases h1; cases h2
            obtain ⟨a', g1, g2, g3⟩ := lookT_shape ho hb
            refine ⟨.inr ⟨hw, [a'], ?_, ?_, fun h => by cases h⟩, rfl, rfl⟩
            · rw [hx]; simp only [St.resL]
              have : (⟨s.t, o'⟩ : St).res x = some a' := by unfold St.res; cases x <;> exact g1
              rw [this]; rfl
            · rw [hkk]; simp only [SemA, sem, g2]
      · cases he
    case fad off =>
      rw [hkk] at he
      simp only [SemA] at he
      have key : ∃ a, as = [a] ∧ e.new = none ∧ e.frz = [] ∧ ∀ a' : RA, a'.toT = a.toT → (∀ x, a = .p x → a' = a) → sem (.fad off) (r.d.getD 0) [a'] = some e := by
        simp only [sem] at he
        split at he
        · cases he
          refine ⟨_, rfl, rfl, rfl, fun a' h1 _ => ?_⟩
          cases a' <;> simp only [RA.toT] at h1 <;> cases h1
          rfl
        · cases he
          refine ⟨_, rfl, rfl, rfl, fun a' h1 _ => ?_⟩
          cases a' <;> simp only [RA.toT] at h1 <;> cases h1
          rfl
        · cases he
          refine ⟨_, rfl, rfl, rfl, fun a' _ h2 => ?_⟩
          rw [h2 _ rfl]; rfl
        · cases he
      obtain ⟨a, rfl, e1, e2, hsem⟩ := key
      cases hx : r.a with
      | nil => rw [hx] at hr; simp [St.resL] at hr
      | cons x xs =>
        rw [hx] at hr
        cases xs with
        | cons y ys => simp only [St.resL, Option.bind_eq_some_iff, Option.map_eq_some_iff] at hr; obtain ⟨_, _, l, ⟨_, _, l2, _, rfl⟩, h⟩ := hr; cases h
        | nil =>
          simp only [St.resL, Option.bind_eq_some_iff, Option.map_eq_some_iff] at hr
          obtain ⟨b, hb, l, h1, h2⟩ := hr
          cases h1; cases h2
          obtain ⟨a', g1, g2, g3⟩ := lookT_shape ho hb
          refine ⟨.inr ⟨hw, [a'], ?_, ?_, fun h => by rw [e1] at h; cases h⟩, e1, e2⟩
          · rw [hx]; simp only [St.resL]
            have : (⟨s.t, o'⟩ : St).res x = some a' := by unfold St.res; cases x <;> exact g1
            rw [this]; rfl
          · rw [hkk]; exact hsem a' g2 g3
    case bin op =>
      rw [hkk] at he
      have he0 := he
      simp only [SemA, sem] at he
      split at he
      · rename_i a b
        obtain ⟨v, hv, rfl⟩ := Option.map_eq_some_iff.1 he
        refine ⟨.inr ⟨hw, _, resL_plain ho hr (by intro x hx; simp at hx; rcases hx with rfl | rfl <;> exact ⟨_, rfl⟩), by rw [hkk]; exact he0, fun h => by cases h⟩, rfl, rfl⟩
      · cases he
    case ext i =>
      rw [hkk] at he
      simp only [SemA, sem] at he
      split at he
      · rename_i cs
        obtain ⟨p, hp, rfl⟩ := Option.map_eq_some_iff.1 he
        cases hx : r.a with
        | nil => rw [hx] at hr; simp [St.resL] at hr
        | cons x xs =>
          rw [hx] at hr
          cases xs with
          | cons y ys => simp only [St.resL, Option.bind_eq_some_iff, Option.map_eq_some_iff] at hr; obtain ⟨_, _, l, ⟨_, _, l2, _, rfl⟩, h⟩ := hr; cases h
          | nil =>
            simp only [St.resL, Option.bind_eq_some_iff, Option.map_eq_some_iff] at hr
            obtain ⟨b, hb, l, h1, h2⟩ := hr
            cases h1; cases h2
            obtain ⟨a', g1, g2, g3⟩ := lookT_shape ho hb
            have g4 := g3 _ rfl
            subst g4
            refine ⟨.inr ⟨hw, [.p (.tup cs)], ?_, ?_, fun h => by cases h⟩, rfl, rfl⟩
            · rw [hx]; simp only [St.resL]
              have : (⟨s.t, o'⟩ : St).res x = some (.p (.tup cs)) := by unfold St.res; cases x <;> exact g1
              rw [this]; rfl
            · rw [hkk]; simp only [SemA, sem, hp]; rfl
      · cases he

theorem ev_ne {s : St} {r : RG} {d : Option Nat} {v : T} (hd : ∀ k, d = some k → k ∉ r.looks) {x : Opd} (hx : x ∈ r.a) {o : Nat → Option Own} : (⟨putT s.t d v, o⟩ : St).ev x = s.ev x := by
  cases x with
  | c y => rfl
  | t n => exact putT_ne fun e => hd n e (looks_arg hx)

/-- THE DIAMOND, of a move and a store behind it. -/
theorem diamondS {P : Program} {r1 r2 : RG} {s s1 s2 : St} (ha : apartR r1 r2 = true) (hk1 : r1.k.slots = true) (hk2 : r2.k.isStore = true) (hd2 : r2.d = none)
    (h1 : Step1 P r1 s s1) (h2 : Step1 P r2 s1 s2) : ∃ t, Step1 P r2 s t ∧ Step1 P r1 t s2 := by
  obtain ⟨p1, p2, p3⟩ := apartR_spec ha
  have hs1 : r1.k.solo = false := by cases hk : r1.k <;> rw [hk] at hk1 <;> first | rfl | (simp [Kd.slots] at hk1; done)
  have hs2 : r2.k.solo = true := by cases hk : r2.k <;> rw [hk] at hk2 <;> first | rfl | (simp [Kd.isStore] at hk2; done)
  obtain ⟨e1, a1, rfl⟩ := (step_iff hs1).1 h1
  have hb := a1.slots hk1 (o' := s.o) fun k x hx => ⟨x, hx, x.shape_refl⟩
  have hst : s.eff r1.d e1 = ⟨putT s.t r1.d e1.v, s.o⟩ := by simp [St.eff, hb.2.1, hb.2.2, frzO_nil, newO]
  rw [hst] at h2
  have hw : (⟨putT s.t r1.d e1.v, s.o⟩ : St).want r2.g = s.want r2.g := want_congr fun k b hg => putT_ne fun e => p1 k e (looks_g hg)
  have hres : ∀ y ∈ r2.a, (⟨putT s.t r1.d e1.v, s.o⟩ : St).res y = s.res y := fun y hy => by
    unfold St.res; rw [ev_ne p1 hy]
  have fin : ∀ o', (∀ k x, s.o k = some x → ∃ y, o' k = some y ∧ x.shape y) → Step1 P r1 ⟨s.t, o'⟩ ⟨putT s.t r1.d e1.v, o'⟩ := fun o' ho => by
    obtain ⟨g1, g2, g3⟩ := a1.slots hk1 ho
    refine (step_iff hs1).2 ⟨e1, g1, ?_⟩
    simp [St.eff, g2, g3, frzO_nil, newO]
  cases h2 with
  | skip hw2 =>
    refine ⟨s, ?_, ?_⟩
    · have := Step1.skip (P := P) r2 s (by rw [← hw]; exact hw2)
      rw [hd2] at this; exact this
    · rw [hd2]; exact fin s.o fun k x hx => ⟨x, hx, x.shape_refl⟩
  | plain as e hk _ _ _ _ => rw [hs2] at hk; cases hk
  | storeBox sz x y n off cells cs a p hk hd hw2 hra hx ho hy hp hc hl hn =>
    rw [hw] at hw2
    rw [ev_ne p1 (by rw [hra]; simp)] at hx
    rw [hres y (by rw [hra]; simp)] at hy
    exact ⟨_, .storeBox r2 s sz x y n off cells cs a p hk hd hw2 hra hx ho hy hp hc hl hn, fin _ (shape_upd ho trivial)⟩
  | storeRow sz x y n es i off ty xs c cs a p hk hd hw2 hra hx ho hi hy hp hc hl hn =>
    rw [hw] at hw2
    rw [ev_ne p1 (by rw [hra]; simp)] at hx
    rw [hres y (by rw [hra]; simp)] at hy
    exact ⟨_, .storeRow r2 s sz x y n es i off ty xs c cs a p hk hd hw2 hra hx ho hi hy hp hc hl hn, fin _ (shape_upd ho ⟨rfl, by simp⟩)⟩
  | appNil ty es bytes d x y a ys sp hk => rw [hk] at hk2; cases hk2
  | appRow ty es bytes d n x y a xs ys sp fz hk => rw [hk] at hk2; cases hk2
  | mset kt et n x y z a k p cs es hk => rw [hk] at hk2; cases hk2
  | mdel kt et n x y k es hk => rw [hk] at hk2; cases hk2
  | calln f d as ps ty es zs hk => rw [hk] at hk2; cases hk2
  | calli f d n x ys as ps ty es xs zs hk => rw [hk] at hk2; cases hk2
  | callu f n x ys as ps ty es xs zs hk => rw [hk] at hk2; cases hk2

theorem Own.shape_symm {x y : Own} (h : x.shape y) : y.shape x := by
  cases x <;> cases y <;> simp only [Own.shape] at h ⊢
  exact ⟨h.1.symm, h.2.symm⟩
theorem shape_back {o : Nat → Option Own} {fs : List Nat} {n : Nat} {x y : Own} (hn : o n = some x) (hs : x.shape y) : ∀ k z, upd (frzO o fs) n (some y) k = some z → ∃ z', o k = some z' ∧ z.shape z' := by
  intro k z hz
  by_cases e : k = n
  · subst e; rw [upd_same] at hz; cases hz; exact ⟨x, hn, Own.shape_symm hs⟩
  · rw [upd_ne _ _ e] at hz
    unfold frzO at hz
    split at hz
    · obtain ⟨w, hw, rfl⟩ := Option.map_eq_some_iff.1 hz
      exact ⟨w, hw, Own.shape_symm w.shape_freeze⟩
    · exact ⟨z, hz, z.shape_refl⟩
/-- THE DIAMOND, of a store and what hangs on the slots alone behind it. -/
theorem diamondT {P : Program} {r1 r2 : RG} {s s1 s2 : St} (ha : apartR r1 r2 = true) (hk1 : r1.k.isStore = true) (hd1 : r1.d = none) (hk2 : r2.k.slots = true)
    (h1 : Step1 P r1 s s1) (h2 : Step1 P r2 s1 s2) : ∃ t, Step1 P r2 s t ∧ Step1 P r1 t s2 := by
  obtain ⟨p1, p2, p3⟩ := apartR_spec ha
  have hs2 : r2.k.solo = false := by cases hk : r2.k <;> rw [hk] at hk2 <;> first | rfl | (simp [Kd.slots] at hk2; done)
  have hs1 : r1.k.solo = true := by cases hk : r1.k <;> rw [hk] at hk1 <;> first | rfl | (simp [Kd.isStore] at hk1; done)
  obtain ⟨e2, a2, rfl⟩ := (step_iff hs2).1 h2
  have hself := a2.slots hk2 (o' := s1.o) fun k x hx => ⟨x, hx, x.shape_refl⟩
  have hst : s1.eff r2.d e2 = ⟨putT s1.t r2.d e2.v, s1.o⟩ := by simp [St.eff, hself.2.1, hself.2.2, frzO_nil, newO]
  rw [hst]
  -- r2's deed ahead of the store
  have first : s1.t = s.t → (∀ k z, s1.o k = some z → ∃ z', s.o k = some z' ∧ z.shape z') → Step1 P r2 s ⟨putT s.t r2.d e2.v, s.o⟩ := fun ht ho => by
    obtain ⟨g1, g2, g3⟩ := a2.slots hk2 ho
    rw [ht] at g1
    refine (step_iff hs2).2 ⟨e2, g1, ?_⟩
    simp [St.eff, g2, g3, frzO_nil, newO]
  have hw : ∀ o', (⟨putT s.t r2.d e2.v, o'⟩ : St).want r1.g = s.want r1.g := fun o' => want_congr fun k b hg => putT_ne fun e => p3 k e (looks_g hg)
  have hres : ∀ y ∈ r1.a, (⟨putT s.t r2.d e2.v, s.o⟩ : St).res y = s.res y := fun y hy => by
    unfold St.res; rw [ev_ne p3 hy]
  cases h1 with
  | skip hw1 =>
    rw [hd1]
    refine ⟨_, first (by rw [hd1]; rfl) (fun k z hz => ⟨z, hz, z.shape_refl⟩), ?_⟩
    have := Step1.skip (P := P) r1 ⟨putT s.t r2.d e2.v, s.o⟩ (by rw [hw]; exact hw1)
    rw [hd1] at this; exact this
  | plain as e hk _ _ _ _ => rw [hs1] at hk; cases hk
  | storeBox sz x y n off cells cs a p hk hd hw1 hra hx ho hy hp hc hl hn =>
    refine ⟨_, first rfl (shape_back ho trivial), ?_⟩
    exact .storeBox r1 ⟨putT s.t r2.d e2.v, s.o⟩ sz x y n off cells cs a p hk hd (by rw [hw]; exact hw1) hra (by rw [ev_ne p3 (by rw [hra]; simp)]; exact hx) ho (by rw [hres y (by rw [hra]; simp)]; exact hy) hp hc hl hn
  | storeRow sz x y n es i off ty xs c cs a p hk hd hw1 hra hx ho hi hy hp hc hl hn =>
    refine ⟨_, first rfl (shape_back ho ⟨rfl, by simp⟩), ?_⟩
    exact .storeRow r1 ⟨putT s.t r2.d e2.v, s.o⟩ sz x y n es i off ty xs c cs a p hk hd (by rw [hw]; exact hw1) hra (by rw [ev_ne p3 (by rw [hra]; simp)]; exact hx) ho hi (by rw [hres y (by rw [hra]; simp)]; exact hy) hp hc hl hn
  | appNil ty es bytes d x y a ys sp hk => rw [hk] at hk1; cases hk1
  | appRow ty es bytes d n x y a xs ys sp fz hk => rw [hk] at hk1; cases hk1
  | mset kt et n x y z a k p cs es hk => rw [hk] at hk1; cases hk1
  | mdel kt et n x y k es hk => rw [hk] at hk1; cases hk1
  | calln f d as ps ty es zs hk => rw [hk] at hk1; cases hk1
  | calli f d n x ys as ps ty es xs zs hk => rw [hk] at hk1; cases hk1
  | callu f n x ys as ps ty es xs zs hk => rw [hk] at hk1; cases hk1

theorem load_eff {P : Program} {r : RG} {s : St} {e : Eff} (h : ActA P r s e) {sz : Nat} {ag : Bool} (hk : r.k = .load sz ag) : e.new = none ∧ e.frz = [] := by
  rcases h with ⟨_, rfl⟩ | ⟨_, as, _, he, _⟩
  · exact ⟨rfl, rfl⟩
  · rw [hk] at he
    simp only [SemA, sem] at he
    split at he
    · obtain ⟨p, _, rfl⟩ := Option.map_eq_some_iff.1 he; exact ⟨rfl, rfl⟩
    · obtain ⟨p, _, rfl⟩ := Option.map_eq_some_iff.1 he; exact ⟨rfl, rfl⟩
    · obtain ⟨p, _, rfl⟩ := Option.map_eq_some_iff.1 he; exact ⟨rfl, rfl⟩
    · cases he
/-- THE DIAMOND, of a load and a store behind it into another box. -/
theorem diamondL {P : Program} {r1 r2 : RG} {s s1 s2 : St} {a b : Nat} {y0 : Opd} {sz : Nat} {ag : Bool} {n1 o1 n2 o2 : Nat} (ha : apartR r1 r2 = true) (hk1 : r1.k = .load sz ag) (ha1 : r1.a = [.t a]) (hk2 : r2.k.isStore = true) (hd2 : r2.d = none)
    (ha2 : r2.a = [.t b, y0]) (hv1 : s.t a = .own n1 o1) (hv2 : s.t b = .own n2 o2) (hne : n1 ≠ n2) (h1 : Step1 P r1 s s1) (h2 : Step1 P r2 s1 s2) : ∃ t, Step1 P r2 s t ∧ Step1 P r1 t s2 := by
  obtain ⟨p1, p2, p3⟩ := apartR_spec ha
  have hs1 : r1.k.solo = false := by rw [hk1]; rfl
  have hs2 : r2.k.solo = true := by cases hk : r2.k <;> rw [hk] at hk2 <;> first | rfl | (simp [Kd.isStore] at hk2; done)
  obtain ⟨e1, a1, e⟩ := (step_iff hs1).1 h1
  obtain ⟨hn1, hf1⟩ := load_eff a1 hk1
  have hst : s.eff r1.d e1 = ⟨putT s.t r1.d e1.v, s.o⟩ := by simp [St.eff, hn1, hf1, frzO_nil, newO]
  rw [hst] at e
  subst e
  have hw : (⟨putT s.t r1.d e1.v, s.o⟩ : St).want r2.g = s.want r2.g := want_congr fun k b hg => putT_ne fun e => p1 k e (looks_g hg)
  have hres : ∀ y ∈ r2.a, (⟨putT s.t r1.d e1.v, s.o⟩ : St).res y = s.res y := fun y hy => by
    unfold St.res; rw [ev_ne p1 hy]
  have fin : ∀ (fs : List Nat) (x : Option Own), Step1 P r1 ⟨s.t, upd (frzO s.o fs) n2 x⟩ ⟨putT s.t r1.d e1.v, upd (frzO s.o fs) n2 x⟩ := fun fs x => by
    have hal : Alike r1 s ⟨s.t, upd (frzO s.o fs) n2 x⟩ := by
      refine ⟨want_congr fun _ _ _ => rfl, ?_⟩
      rw [ha1]
      refine resL_congr fun z hz => ?_
      obtain rfl := List.mem_singleton.1 hz
      show lookT (upd (frzO s.o fs) n2 x) (s.t a) = lookT s.o (s.t a)
      rw [hv1, lookT_upd (by simp [T.name, hne]), lookT_frz]
    refine (step_iff hs1).2 ⟨e1, a1.alike hal (fun hs => by rw [hn1] at hs; cases hs), ?_⟩
    simp [St.eff, hn1, hf1, frzO_nil, newO]
  cases h2 with
  | skip hw2 =>
    refine ⟨s, ?_, ?_⟩
    · have := Step1.skip (P := P) r2 s (by rw [← hw]; exact hw2)
      rw [hd2] at this; exact this
    · rw [hd2]; exact h1
  | plain as e hk _ _ _ _ => rw [hs2] at hk; cases hk
  | storeBox sz x y n off cells cs a p hk hd hw2 hra hx ho hy hp hc hl hn =>
    rw [hw] at hw2
    rw [ev_ne p1 (by rw [hra]; simp)] at hx
    rw [hres y (by rw [hra]; simp)] at hy
    have hxb : x = .t b := by rw [ha2] at hra; exact ((List.cons.inj hra).1).symm
    have hnn : n = n2 := by
      rw [hxb] at hx
      have h3 : s.t b = .own n off := hx
      rw [hv2] at h3; cases h3; rfl
    subst hnn
    exact ⟨_, .storeBox r2 s sz x y n off cells cs a p hk hd hw2 hra hx ho hy hp hc hl hn, fin _ _⟩
  | storeRow sz x y n es i off ty xs c cs a p hk hd hw2 hra hx ho hi hy hp hc hl hn =>
    exfalso
    rw [ev_ne p1 (by rw [hra]; simp)] at hx
    have hxb : x = .t b := by rw [ha2] at hra; exact ((List.cons.inj hra).1).symm
    rw [hxb] at hx
    have h3 : s.t b = .rp n es i off := hx
    rw [hv2] at h3; cases h3
  | appNil ty es bytes d x y a ys sp hk => rw [hk] at hk2; cases hk2
  | appRow ty es bytes d n x y a xs ys sp fz hk => rw [hk] at hk2; cases hk2
  | mset kt et n x y z a k p cs es hk => rw [hk] at hk2; cases hk2
  | mdel kt et n x y k es hk => rw [hk] at hk2; cases hk2
  | calln f d as ps ty es zs hk => rw [hk] at hk2; cases hk2
  | calli f d n x ys as ps ty es xs zs hk => rw [hk] at hk2; cases hk2
  | callu f n x ys as ps ty es xs zs hk => rw [hk] at hk2; cases hk2

theorem kill_back {t : Nat → T} {n a m o : Nat} (h : killT t n a = .own m o) : t a = .own m o := by
  unfold killT at h
  split at h
  · cases h
  · exact h
/-- What a slot holds of own boxes was there before, if nothing writes to it. -/
theorem Step1.back {P : Program} {r : RG} {s s' : St} {a m o : Nat} (h : Step1 P r s s') (hd : r.d ≠ some a) (hv : s'.t a = .own m o) : s.t a = .own m o := by
  cases h with
  | skip hw => exact (putT_ne hd).symm.trans hv
  | plain as e hk _ _ _ _ => exact (putT_ne hd).symm.trans hv
  | storeBox sz x y n off cells cs a p hk hd' hw2 hra hx ho hy hp hc hl hn => exact hv
  | storeRow sz x y n es i off ty xs c cs a p hk hd' hw2 hra hx ho hi hy hp hc hl hn => exact hv
  | appNil ty es bytes d x y a' ys sp hk hd' =>
    have hne : a ≠ d := fun e => hd (by rw [hd', e])
    exact (upd_ne _ _ hne).symm.trans hv
  | appRow ty es bytes d n x y a' xs ys sp fz hk hd' =>
    have hne : a ≠ d := fun e => hd (by rw [hd', e])
    exact kill_back ((upd_ne _ _ hne).symm.trans hv)
  | mset kt et n x y z a k p cs es hk => exact hv
  | mdel kt et n x y k es hk => exact hv
  | calln f d as ps ty es zs hk hd' =>
    have hne : a ≠ d := fun e => hd (by rw [hd', e])
    exact (upd_ne _ _ hne).symm.trans hv
  | calli f d n x ys as ps ty es xs zs hk hd' =>
    have hne : a ≠ d := fun e => hd (by rw [hd', e])
    exact kill_back ((upd_ne _ _ hne).symm.trans hv)
  | callu f n x ys as ps ty es xs zs hk => exact (putT_ne hd).symm.trans hv

/-! ### An append ahead of what looks at no slot that it ends -/
def T.isAny : T → Bool
  | .p .any => true
  | _ => false
theorem kill_same {t : Nat → T} {n a : Nat} (h : (killT t n a).isAny = false) : killT t n a = t a ∧ (t a).name ≠ some n := by
  unfold killT at h ⊢
  split at h
  · cases h
  · rename_i e; rw [if_neg e]; exact ⟨rfl, e⟩
/-- What a slot holds was there before, if nothing writes to it or ends it. -/
theorem Step1.same {P : Program} {r : RG} {s s' : St} {a : Nat} (h : Step1 P r s s') (hd : r.d ≠ some a) (hv : (s'.t a).isAny = false) : s'.t a = s.t a := by
  cases h with
  | skip hw => exact putT_ne hd
  | plain as e hk _ _ _ _ => exact putT_ne hd
  | storeBox sz x y n off cells cs a p hk hd' hw2 hra hx ho hy hp hc hl hn => rfl
  | storeRow sz x y n es i off ty xs c cs a p hk hd' hw2 hra hx ho hi hy hp hc hl hn => rfl
  | appNil ty es bytes d x y a' ys sp hk hd' =>
    have hne : a ≠ d := fun e => hd (by rw [hd', e])
    exact upd_ne _ _ hne
  | appRow ty es bytes d n x y a' xs ys sp fz hk hd' =>
    have hne : a ≠ d := fun e => hd (by rw [hd', e])
    have h1 : upd (killT s.t n) d (.row d (xs.length + ys.length)) a = killT s.t n a := upd_ne _ _ hne
    show upd (killT s.t n) d (.row d (xs.length + ys.length)) a = s.t a
    rw [h1]
    refine (kill_same ?_).1
    rw [← h1]; exact hv
  | mset kt et n x y z a k p cs es hk => rfl
  | mdel kt et n x y k es hk => rfl
  | calln f d as ps ty es zs hk hd' =>
    have hne : a ≠ d := fun e => hd (by rw [hd', e])
    exact upd_ne _ _ hne
  | calli f d n x ys as ps ty es xs zs hk hd' =>
    have hne : a ≠ d := fun e => hd (by rw [hd', e])
    have h1 : upd (killT s.t n) d (.row d zs.length) a = killT s.t n a := upd_ne _ _ hne
    show upd (killT s.t n) d (.row d zs.length) a = s.t a
    rw [h1]
    refine (kill_same ?_).1
    rw [← h1]; exact hv
  | callu f n x ys as ps ty es xs zs hk => exact putT_ne hd

theorem arg_off {s : St} {r : RG} (hb : r.bare = true) {as : List RA} (h : s.resL r.a = some as) {n : Nat} (hf : ∀ k ∈ r.looks, (s.t k).name ≠ some n) : ∀ a ∈ as, a.toT.name ≠ some n := by
  intro a ha
  obtain ⟨x, hx, hr⟩ := resL_mem h a ha
  rw [lookT_name hr]
  cases x with
  | t k => exact hf k (looks_arg hx)
  | c y =>
    have := List.all_eq_true.1 hb _ hx
    simp only [Opd.bare, Option.isNone_iff_eq_none] at this
    simp [St.ev, this]
theorem ActA.off {P : Program} {r : RG} {s : St} {e : Eff} (h : ActA P r s e) (hb : r.bare = true) {n : Nat} (hf : ∀ k ∈ r.looks, (s.t k).name ≠ some n) : n ∉ e.frz ∧ (e.v.name = some n → e.new.isSome = true ∧ r.d = some n) := by
  rcases h with ⟨_, rfl⟩ | ⟨_, as, hr, he, hn⟩
  · exact ⟨by simp, fun h => by simp [T.name] at h⟩
  · refine ⟨fun hv => ?_, fun hv => ?_⟩
    · obtain ⟨a, ha, han⟩ := (semA_names he).f n hv
      exact arg_off hb hr hf a ha han
    · rcases (semA_names he).v n hv with ⟨h1, h2⟩ | ⟨a, ha, han⟩
      · obtain ⟨d', hd', _⟩ := hn h2
        rw [hd'] at h1 ⊢
        simp at h1
        exact ⟨h2, by rw [h1]⟩
      · exact absurd han (arg_off hb hr hf a ha)
theorem frzO_mm (x : Option Own) : (x.map Own.freeze).map Own.freeze = x.map Own.freeze := by
  cases x with
  | none => rfl
  | some x => cases x <;> rfl
theorem lookT_off {o o' : Nat → Option Own} {fs : List Nat} {n d : Nat} (ho : ∀ k, k ≠ n → k ≠ d → o' k = frzO o fs k) {t : T} (ht : ∀ m, t.name = some m → m ≠ n ∧ m ≠ d) : lookT o' t = lookT o t := by
  rw [← lookT_frz o fs]
  cases t with
  | p x => rfl
  | nil => rfl
  | own m off => have := ht m rfl; simp only [lookT, ho m this.1 this.2]
  | row m l => have := ht m rfl; simp only [lookT, ho m this.1 this.2]
  | rp m es i off => have := ht m rfl; simp only [lookT, ho m this.1 this.2]
  | mp m => have := ht m rfl; simp only [lookT, ho m this.1 this.2]
theorem ev_name {s : St} {r : RG} (hb : r.bare = true) {y : Opd} (hy : y ∈ r.a) {m : Nat} (hm : (s.ev y).name = some m) : ∃ k ∈ r.looks, (s.t k).name = some m := by
  cases y with
  | t k => exact ⟨k, looks_arg hy, hm⟩
  | c z =>
    have := List.all_eq_true.1 hb _ hy
    simp only [Opd.bare, Option.isNone_iff_eq_none] at this
    simp [St.ev, this] at hm
/-- THE DIAMOND, of an append and a plain deed behind it that looks at no slot which the append has ended. -/
theorem diamondK {P : Program} {r1 r2 : RG} {s s1 s2 : St} {ty es bytes : Nat} (ha : apartR r1 r2 = true) (hb1 : r1.bare = true) (hb2 : r2.bare = true) (hk1 : r1.k = .app ty es bytes) (hk2 : r2.k.solo = false)
    (hf2 : r2.k.allocs = true → ∀ d, r2.d = some d → s.fresh d) (hlook : ∀ k ∈ r2.looks, (s1.t k).isAny = false) (h1 : Step1 P r1 s s1) (h2 : Step1 P r2 s1 s2) : ∃ t, Step1 P r2 s t ∧ Step1 P r1 t s2 := by
  obtain ⟨p1, p2, p3⟩ := apartR_spec ha
  obtain ⟨e2, a2, rfl⟩ := (step_iff hk2).1 h2
  have f2 : e2.new.isSome = true → ∀ d, r2.d = some d → s.fresh d := fun hn d hd => hf2 (a2.allocs hn) d hd
  have hsame : ∀ k ∈ r2.looks, s1.t k = s.t k := fun k hk => h1.same (fun e => p1 k e hk) (hlook k hk)
  have hev2 : ∀ y ∈ r2.a, s1.ev y = s.ev y := fun y hy => by
    cases y with
    | t k => exact hsame k (looks_arg hy)
    | c z => rfl
  -- the deed ahead
  have first : (∀ y ∈ r2.a, lookT s1.o (s.ev y) = lookT s.o (s.ev y)) → ActA P r2 s e2 := fun hl => by
    refine a2.alike ⟨want_congr fun k b hg => (hsame k (looks_g hg)).symm, resL_congr fun y hy => ?_⟩ f2
    unfold St.res
    rw [hev2 y hy]
    exact (hl y hy).symm
  have hwant : (s.eff r2.d e2).want r1.g = s.want r1.g := want_congr fun k b hg => putT_ne fun e => p3 k e (looks_g hg)
  have hevr : ∀ y ∈ r1.a, (s.eff r2.d e2).ev y = s.ev y := fun y hy => by
    cases y with
    | c z => rfl
    | t k => exact putT_ne fun e => p3 k e (looks_arg hy)
  have hresr : ∀ y ∈ r1.a, (s.eff r2.d e2).res y = s.res y := fun y hy => by
    unfold St.res
    rw [hevr y hy]
    simp only [St.eff]
    rw [lookT_newO, lookT_frz]
    intro hs k hk hm
    obtain ⟨j, _, hj⟩ := ev_name hb1 hy hm
    exact f2 hs k hk j hj
  have hmm := frzO_mm
  cases h1 with
  | skip hw1 =>
    have a2' := first fun y hy => rfl
    refine ⟨_, (step_iff hk2).2 ⟨e2, a2', rfl⟩, ?_⟩
    have := Step1.skip (P := P) r1 (s.eff r2.d e2) (by rw [hwant]; exact hw1)
    have e : (⟨putT s.t r1.d (.p (.v undef)), s.o⟩ : St).eff r2.d e2 = ⟨putT (s.eff r2.d e2).t r1.d (.p (.v undef)), (s.eff r2.d e2).o⟩ := by
      simp only [St.eff, St.mk.injEq, and_true]
      cases hr1 : r1.d <;> cases hr2 : r2.d <;> simp only [putT]
      exact upd_comm _ _ _ fun e => p2 _ hr1 (by rw [hr2, e])
    rw [e]; exact this
  | plain as e hk _ _ _ _ => rw [hk1] at hk; cases hk
  | storeBox sz x y n off cells cs a p hk => rw [hk1] at hk; cases hk
  | storeRow sz x y n es i off ty xs c cs a p hk => rw [hk1] at hk; cases hk
  | mset kt et n x y z a k p cs es hk => rw [hk1] at hk; cases hk
  | mdel kt et n x y k es hk => rw [hk1] at hk; cases hk
  | calln f d as ps ty es zs hk => rw [hk1] at hk; cases hk
  | calli f d n x ys as ps ty es xs zs hk => rw [hk1] at hk; cases hk
  | callu f n x ys as ps ty es xs zs hk => rw [hk1] at hk; cases hk
  | appNil ty es bytes d x y a ys sp hk hd hw hra hx hy hp he hl hf =>
    have hnd : ∀ k ∈ r2.looks, (s.t k).name ≠ some d := fun k _ => hf k
    have a2' := first fun y hy => lookT_off (n := d) (d := d) (fs := a.frz) (fun k h1 _ => upd_ne _ _ h1) fun m hm => by
      obtain ⟨k, hk, hk'⟩ := ev_name hb2 hy hm
      exact ⟨fun e => hnd k hk (by rw [← e]; exact hk'), fun e => hnd k hk (by rw [← e]; exact hk')⟩
    obtain ⟨o1, o2⟩ := a2'.off hb2 hnd
    refine ⟨_, (step_iff hk2).2 ⟨e2, a2', rfl⟩, ?_⟩
    have := Step1.appNil (P := P) r1 (s.eff r2.d e2) ty es bytes d x y a ys sp hk hd (by rw [hwant]; exact hw) hra (by rw [hevr x (by rw [hra]; simp)]; exact hx) (by rw [hresr y (by rw [hra]; simp)]; exact hy) hp he hl (a2'.fresh hb2 hf (p2 d hd))
    have hfz : ∀ d2, r2.d = some d2 → e2.new.isSome = true → d2 ∉ a.frz := fun d2 hd2 hn hm => by
      have h3 : a.toT.name = some d2 := frz_name hm
      have h4 : lookT s.o (s.ev y) = some a := hy
      rw [lookT_name h4] at h3
      obtain ⟨k, _, hk⟩ := ev_name hb1 (by rw [hra]; simp) h3
      exact f2 hn d2 hd2 k hk
    have hdd : ∀ d2, r2.d = some d2 → d2 ≠ d := fun d2 h e => p2 d hd (by rw [h, e])
    have e : (⟨upd s.t d (.row d ys.length), upd (frzO s.o a.frz) d (some (.row ty es ys false))⟩ : St).eff r2.d e2 = ⟨upd (s.eff r2.d e2).t d (.row d ys.length), upd (frzO (s.eff r2.d e2).o a.frz) d (some (.row ty es ys false))⟩ := by
      obtain ⟨v2, n2, g2⟩ := e2
      simp only at o1 hfz
      simp only [St.eff, St.mk.injEq]
      constructor
      · cases hr2 : r2.d with
        | none => rfl
        | some d2 => exact upd_comm _ _ _ (Ne.symm (hdd d2 hr2))
      · funext k
        cases hr2 : r2.d with
        | none =>
          simp only [newO, frzO, upd]
          by_cases c1 : k = d
          · subst c1; simp [o1]
          · by_cases b1 : k ∈ a.frz <;> by_cases b2 : k ∈ g2 <;> simp [b1, b2, hmm, c1]
        | some d2 =>
          have hne := hdd d2 hr2
          cases n2 with
          | none =>
            simp only [newO, frzO, upd]
            by_cases c1 : k = d
            · subst c1; simp [o1]
            · by_cases b1 : k ∈ a.frz <;> by_cases b2 : k ∈ g2 <;> simp [b1, b2, hmm, c1]
          | some n2 =>
            have h5 := hfz d2 hr2 rfl
            simp only [newO, frzO, upd]
            by_cases c1 : k = d
            · subst c1; simp [o1, Ne.symm hne]
            · by_cases c2 : k = d2
              · subst c2; simp [c1, h5]
              · by_cases b1 : k ∈ a.frz <;> by_cases b2 : k ∈ g2 <;> simp [b1, b2, hmm, c1, c2]
    rw [e]; exact this
  | appRow ty es bytes d n x y a xs ys sp fz hk hd hw hra hx ho hy hp he hl hn hf =>
    have hd1 : ∀ k ∈ r2.looks, k ≠ d := fun k hk e => p1 d hd (e ▸ hk)
    have hnn : ∀ k ∈ r2.looks, (s.t k).name ≠ some n := fun k hk => by
      have h3 : (upd (killT s.t n) d (.row d (xs.length + ys.length)) k).isAny = false := hlook k hk
      rw [upd_ne _ _ (hd1 k hk)] at h3
      exact (kill_same h3).2
    have hnd : ∀ k ∈ r2.looks, (s.t k).name ≠ some d := fun k hk => by
      by_cases e : d = n
      · rw [e]; exact hnn k hk
      · exact hf e k
    have a2' := first fun y hy => lookT_off (n := n) (d := d) (fs := a.frz) (fun k h1 h2 => by show upd (upd _ n _) d _ k = _; rw [upd_ne _ _ h2, upd_ne _ _ h1]) fun m hm => by
      obtain ⟨k, hk, hk'⟩ := ev_name hb2 hy hm
      exact ⟨fun e => hnn k hk (by rw [← e]; exact hk'), fun e => hnd k hk (by rw [← e]; exact hk')⟩
    obtain ⟨o1, o2⟩ := a2'.off hb2 hnn
    obtain ⟨o3, o4⟩ := a2'.off hb2 hnd
    obtain ⟨kx, hkx, hkxn⟩ : ∃ k ∈ r1.looks, (s.t k).name = some n := ev_name hb1 (y := x) (by rw [hra]; simp) (by rw [hx]; rfl)
    have hdn : ∀ d2, r2.d = some d2 → e2.new.isSome = true → d2 ≠ n := fun d2 h hs e => f2 hs d2 h kx (by rw [hkxn, e])
    have hvn : e2.v.name ≠ some n := fun h => by
      obtain ⟨h3, h4⟩ := o2 h
      exact hdn n h4 h3 rfl
    refine ⟨_, (step_iff hk2).2 ⟨e2, a2', rfl⟩, ?_⟩
    have hno : (s.eff r2.d e2).o n = some (.row ty es xs fz) := by
      show newO (frzO s.o e2.frz) r2.d e2.new n = _
      have h3 : frzO s.o e2.frz n = some (.row ty es xs fz) := by unfold frzO; rw [if_neg o1]; exact ho
      cases hr2 : r2.d with
      | none => exact h3
      | some d2 =>
        cases hn2 : e2.new with
        | none => exact h3
        | some x2 =>
          show upd (frzO s.o e2.frz) d2 (some x2) n = _
          rw [upd_ne _ _ (Ne.symm (hdn d2 hr2 (by rw [hn2]; rfl)))]; exact h3
    have := Step1.appRow (P := P) r1 (s.eff r2.d e2) ty es bytes d n x y a xs ys sp fz hk hd (by rw [hwant]; exact hw) hra (by rw [hevr x (by rw [hra]; simp)]; exact hx) hno (by rw [hresr y (by rw [hra]; simp)]; exact hy) hp he hl hn fun e => a2'.fresh hb2 (hf e) (p2 d hd)
    have hfz : ∀ d2, r2.d = some d2 → e2.new.isSome = true → d2 ∉ a.frz := fun d2 hd2 hn hm => by
      have h3 : a.toT.name = some d2 := frz_name hm
      have h4 : lookT s.o (s.ev y) = some a := hy
      rw [lookT_name h4] at h3
      obtain ⟨k, _, hk⟩ := ev_name hb1 (by rw [hra]; simp) h3
      exact f2 hn d2 hd2 k hk
    have hdd : ∀ d2, r2.d = some d2 → d2 ≠ d := fun d2 h e => p2 d hd (by rw [h, e])
    have e : (⟨upd (killT s.t n) d (.row d (xs.length + ys.length)), upd (upd (frzO s.o a.frz) n none) d (some (.row ty es (xs ++ ys) fz))⟩ : St).eff r2.d e2 = ⟨upd (killT (s.eff r2.d e2).t n) d (.row d (xs.length + ys.length)), upd (upd (frzO (s.eff r2.d e2).o a.frz) n none) d (some (.row ty es (xs ++ ys) fz))⟩ := by
      obtain ⟨v2, n2, g2⟩ := e2
      simp only at o1 o3 hfz hdn hvn
      simp only [St.eff, St.mk.injEq]
      constructor
      · cases hr2 : r2.d with
        | none => rfl
        | some d2 =>
          have hne := hdd d2 hr2
          funext k
          simp only [putT, upd, killT]
          by_cases c1 : k = d
          · subst c1; simp [Ne.symm hne]
          · by_cases c2 : k = d2
            · subst c2; simp [c1, hvn]
            · simp [c1, c2]
      · funext k
        cases hr2 : r2.d with
        | none =>
          simp only [newO, frzO, upd]
          by_cases c1 : k = d
          · subst c1; simp [o3]
          · by_cases c3 : k = n
            · subst c3; simp [o1, c1]
            · by_cases b1 : k ∈ a.frz <;> by_cases b2 : k ∈ g2 <;> simp [b1, b2, hmm, c1, c3]
        | some d2 =>
          have hne := hdd d2 hr2
          cases n2 with
          | none =>
            simp only [newO, frzO, upd]
            by_cases c1 : k = d
            · subst c1; simp [o3]
            · by_cases c3 : k = n
              · subst c3; simp [o1, c1]
              · by_cases b1 : k ∈ a.frz <;> by_cases b2 : k ∈ g2 <;> simp [b1, b2, hmm, c1, c3]
          | some n2 =>
            have h5 := hfz d2 hr2 rfl
            have h6 := hdn d2 hr2 rfl
            simp only [newO, frzO, upd]
            by_cases c1 : k = d
            · subst c1; simp [o3, Ne.symm hne]
            · by_cases c2 : k = d2
              · subst c2; simp [c1, h5, h6]
              · by_cases c3 : k = n
                · subst c3; simp [o1, c1, c2]
                · by_cases b1 : k ∈ a.frz <;> by_cases b2 : k ∈ g2 <;> simp [b1, b2, hmm, c1, c2, c3]
    rw [e]; exact this

theorem diamond {P : Program} {r1 r2 : RG} {s s1 s2 : St} (hc : comm r1 r2 = true) (hf2 : r2.k.allocs = true → ∀ d, r2.d = some d → s.fresh d)
    (h1 : Step1 P r1 s s1) (h2 : Step1 P r2 s1 s2) : ∃ t, Step1 P r2 s t ∧ Step1 P r1 t s2 := by
  simp only [comm, Bool.and_eq_true, Bool.or_eq_true, Bool.not_eq_true', Option.isNone_iff_eq_none] at hc
  obtain ⟨⟨⟨ha, hb1⟩, hb2⟩, (h | h) | h⟩ := hc
  · exact diamondA ha hb1 hb2 h.1 h.2 hf2 h1 h2
  · exact diamondS ha h.1.1 h.1.2 h.2 h1 h2
  · exact diamondT ha h.1.1 h.1.2 h.2 h1 h2

/-- A fresh name stays fresh through any operation that does not write to its slot. -/
theorem Step1.fresh {P : Program} {r : RG} {s s' : St} (h : Step1 P r s s') (hb : r.bare = true) {d : Nat} (hf : s.fresh d) (hd : r.d ≠ some d) : s'.fresh d := by
  by_cases hk : r.k.solo = false
  · obtain ⟨e, a, rfl⟩ := (step_iff hk).1 h
    exact a.fresh hb hf hd
  · cases h with
    | skip hw => intro k; rcases putT_or s.t r.d (.p (.v undef)) k with e | e <;> simp only [e]; exact hf k; simp [T.name]
    | plain as e hk' _ _ _ _ => exact absurd hk' hk
    | storeBox => exact hf
    | storeRow => exact hf
    | appNil ty es bytes d' x y a ys sp hk' hd' =>
      intro k
      simp only [upd]
      split
      · simp only [T.name]; rw [hd'] at hd; simpa using hd
      · exact hf k
    | appRow ty es bytes d' n x y a xs ys sp fz hk' hd' =>
      intro k
      simp only [upd]
      split
      · simp only [T.name]; rw [hd'] at hd; simpa using hd
      · unfold killT; split
        · simp [T.name]
        · exact hf k
    | mset => exact hf
    | mdel => exact hf
    | callu f n x ys as ps ty es xs zs hk' =>
      rename_i q _ _ _ _ _ _ _ _
      intro k
      rcases putT_or s.t r.d (.p q) k with e | e <;> simp only [e]
      · exact hf k
      · simp [T.name]
    | calln f d' as ps ty es zs hk' hd' =>
      intro k
      simp only [upd]
      split
      · simp only [T.name]; rw [hd'] at hd; simpa using hd
      · exact hf k
    | calli f d' n x ys as ps ty es xs zs hk' hd' =>
      intro k
      simp only [upd]
      split
      · simp only [T.name]; rw [hd'] at hd; simpa using hd
      · unfold killT; split
        · simp [T.name]
        · exact hf k

/-- A run, by the operations' numbers. -/
inductive StepsI (P : Program) (rs : List RG) : List Nat → St → St → Prop
  | nil (s : St) : StepsI P rs [] s s
  | cons {i : Nat} {l : List Nat} {s s1 s2 : St} {r : RG} (hi : rs[i]? = some r) (h : Step1 P r s s1) (t : StepsI P rs l s1 s2) : StepsI P rs (i :: l) s s2

/-- What is made in the region has a fresh name. -/
def Fr (rs : List RG) (l : List Nat) (s : St) : Prop := ∀ i ∈ l, ∀ r, rs[i]? = some r → r.k.allocs = true → ∀ d, r.d = some d → s.fresh d

def allocOk (rs : List RG) : Prop := ∀ (i j : Nat) (r r' : RG), i ≠ j → rs[i]? = some r → rs[j]? = some r' → r.k.allocs = true → ∀ d, r.d = some d → r'.d ≠ some d

theorem Fr.step {P : Program} {rs : List RG} {l : List Nat} {s s1 : St} (h : Fr rs l s) (hal : allocOk rs) (hb : ∀ r ∈ rs, r.bare = true) {j : Nat} {r : RG} (hj : rs[j]? = some r) (hs : Step1 P r s s1) (hn : j ∉ l) : Fr rs l s1 := by
  intro i hi r' hr' ha d hd
  have hne : i ≠ j := fun e => hn (e ▸ hi)
  exact hs.fresh (hb r (List.mem_of_getElem? hj)) (h i hi r' hr' ha d hd) (hal i j r' r hne hr' hj ha d hd)
theorem Fr.mono {rs : List RG} {l l' : List Nat} {s : St} (h : Fr rs l s) (hl : ∀ i ∈ l', i ∈ l) : Fr rs l' s := fun i hi => h i (hl i hi)

theorem StepsI.back {P : Program} {rs : List RG} {a m o : Nat} : ∀ {l : List Nat} {s s' : St}, StepsI P rs l s s' → (∀ k ∈ l, ∀ r, rs[k]? = some r → r.d ≠ some a) → s'.t a = .own m o → s.t a = .own m o
  | [], s, s', h, _, hv => by cases h; exact hv
  | k :: l, s, s', h, hl, hv => by
    cases h with
    | cons hi h t => exact h.back (hl k (by simp) _ hi) (t.back (fun q hq => hl q (by simp [hq])) hv)

theorem StepsI.same {P : Program} {rs : List RG} {a : Nat} : ∀ {l : List Nat} {s s' : St}, StepsI P rs l s s' → (∀ k ∈ l, ∀ r, rs[k]? = some r → r.d ≠ some a) → (s'.t a).isAny = false → s'.t a = s.t a
  | [], s, s', h, _, hv => by cases h; rfl
  | k :: l, s, s', h, hl, hv => by
    cases h with
    | cons hi h t =>
      have h1 := t.same (fun q hq => hl q (by simp [hq])) hv
      exact h1.trans (h.same (hl k (by simp) _ hi) (by rw [← h1]; exact hv))

/-- A load and a store that look at two boxes: told by what the slots hold at the end. -/
def Far (rs : List RG) (s' : St) (later : List Nat) (j : Nat) (rj ri : RG) : Prop :=
  ∃ a b y sz ag n1 o1 n2 o2, apartR rj ri = true ∧ rj.k = .load sz ag ∧ rj.a = [.t a] ∧ ri.k.isStore = true ∧ ri.d = none ∧ ri.a = [.t b, y] ∧ s'.t a = .own n1 o1 ∧ s'.t b = .own n2 o2 ∧ n1 ≠ n2 ∧
    ∀ k ∈ later, j ≤ k → ∀ r, rs[k]? = some r → r.d ≠ some a ∧ r.d ≠ some b

/-- An append and a plain deed that looks at nothing which the append ends: told by what the slots hold at the end. -/
def FarK (rs : List RG) (s' : St) (later : List Nat) (j : Nat) (rj ri : RG) : Prop :=
  ∃ ty es bytes, apartR rj ri = true ∧ rj.bare = true ∧ ri.bare = true ∧ rj.k = .app ty es bytes ∧ ri.k.solo = false ∧
    ∀ a ∈ ri.looks, (s'.t a).isAny = false ∧ ri.d ≠ some a ∧ ∀ k ∈ later, j ≤ k → ∀ r, rs[k]? = some r → r.d ≠ some a

theorem move_front {P : Program} {rs : List RG} (hal : allocOk rs) (hb : ∀ r ∈ rs, r.bare = true) {i : Nat} {ri : RG} (hri : rs[i]? = some ri) {post : List Nat} : ∀ (pre : List Nat) {s s' : St}, (pre ++ i :: post).Nodup → (pre ++ i :: post).Pairwise (· < ·) →
    (∀ j ∈ pre, ∀ rj, rs[j]? = some rj → comm rj ri = true ∨ Far rs s' (pre ++ post) j rj ri ∨ FarK rs s' (pre ++ post) j rj ri) →
    Fr rs (pre ++ i :: post) s → StepsI P rs (pre ++ i :: post) s s' → ∃ t, Step1 P ri s t ∧ StepsI P rs (pre ++ post) t s'
  | [], s, s', hnd, hpw, hc, hf, h => by
    cases h with
    | cons hi h t => rw [hri] at hi; cases hi; exact ⟨_, h, t⟩
  | j :: pre, s, s', hnd, hpw, hc, hf, h => by
    cases h with
    | cons hj h t =>
      rename_i s1 rj
      simp only [List.cons_append, List.nodup_cons] at hnd
      simp only [List.cons_append, List.pairwise_cons] at hpw
      have hf1 : Fr rs (pre ++ i :: post) s1 := (hf.mono fun k hk => List.mem_cons_of_mem _ hk).step hal hb hj h hnd.1
      obtain ⟨t1, h1, h2⟩ := move_front hal hb hri pre hnd.2 hpw.2 (fun k hk rk hrk => (hc k (by simp [hk]) rk hrk).imp id fun h => h.imp (fun ⟨a, b, y, sz, ag, n1, o1, n2, o2, q1, q2, q3, q4, q5, q6, q7, q8, q9, q10⟩ => ⟨a, b, y, sz, ag, n1, o1, n2, o2, q1, q2, q3, q4, q5, q6, q7, q8, q9, fun k' hk' => q10 k' (List.mem_cons_of_mem _ hk')⟩) fun ⟨ty, es, bytes, q1, q2, q3, q4, q5, q6⟩ => ⟨ty, es, bytes, q1, q2, q3, q4, q5, fun a ha => ⟨(q6 a ha).1, (q6 a ha).2.1, fun k' hk' => (q6 a ha).2.2 k' (List.mem_cons_of_mem _ hk')⟩⟩) hf1 t
      have hlt : ∀ k ∈ pre ++ post, j ≤ k := fun k hk => by
        have : k ∈ pre ++ i :: post := by
          rcases List.mem_append.1 hk with h | h
          · exact List.mem_append_left _ h
          · exact List.mem_append_right _ (List.mem_cons_of_mem _ h)
        exact Nat.le_of_lt (hpw.1 k this)
      rcases hc j (by simp) rj hj with hc | ⟨a, b, y, sz, ag, n1, o1, n2, o2, q1, q2, q3, q4, q5, q6, q7, q8, q9, q10⟩ | ⟨ty, es, bytes, q1, q2, q3, q4, q5, q6⟩
      · obtain ⟨u, g1, g2⟩ := diamond hc (fun ha d hd => hf i (by simp) ri hri ha d hd) h h1
        exact ⟨u, g1, .cons hj g2 h2⟩
      · have hj' := q10 j (by simp) (Nat.le_refl _) rj hj
        have hl : ∀ k ∈ pre ++ post, ∀ r, rs[k]? = some r → r.d ≠ some a ∧ r.d ≠ some b := fun k hk => q10 k (by simp only [List.cons_append]; exact List.mem_cons_of_mem _ hk) (hlt k hk)
        have va := h.back hj'.1 (h1.back (by rw [q5]; simp) (h2.back (fun k hk r hr => (hl k hk r hr).1) q7))
        have vb := h.back hj'.2 (h1.back (by rw [q5]; simp) (h2.back (fun k hk r hr => (hl k hk r hr).2) q8))
        obtain ⟨u, g1, g2⟩ := diamondL q1 q2 q3 q4 q5 q6 va vb q9 h h1
        exact ⟨u, g1, .cons hj g2 h2⟩
      · have hlook : ∀ a ∈ ri.looks, (s1.t a).isAny = false := fun a ha => by
          obtain ⟨w1, w2, w3⟩ := q6 a ha
          have e1 := h2.same (fun k hk r hr => w3 k (by simp only [List.cons_append]; exact List.mem_cons_of_mem _ hk) (hlt k hk) r hr) w1
          have e2 := h1.same w2 (by rw [← e1]; exact w1)
          rw [← e2, ← e1]; exact w1
        obtain ⟨u, g1, g2⟩ := diamondK q1 q2 q3 q4 q5 (fun ha d hd => hf i (by simp) ri hri ha d hd) hlook h h1
        exact ⟨u, g1, .cons hj g2 h2⟩
end Go.Fw
