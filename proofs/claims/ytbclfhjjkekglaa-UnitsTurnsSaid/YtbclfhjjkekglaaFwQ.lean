/-
  A run of operations, and a drawn region: any order that the edges leave open ends in the same state.
-/
import Derived.Test.YtbclfhjjkekglaaFwP
set_option linter.unusedVariables false
set_option linter.unusedSimpArgs false
namespace Go.Fw
open Go.RowKit

def Own.shape : Own → Own → Prop
  | .box c _, .box c' _ => True
  | .row _ es xs _, .row _ es' xs' _ => es' = es ∧ xs'.length = xs.length
  | .mp .., .mp .. => True
  | _, _ => False
theorem Own.shape_freeze (x : Own) : x.shape x.freeze := by cases x <;> simp [Own.shape, Own.freeze]
theorem Own.shape_refl (x : Own) : x.shape x := by cases x <;> simp [Own.shape]

theorem lookT_shape {o o' : Nat → Option Own} (h : ∀ k x, o k = some x → ∃ y, o' k = some y ∧ x.shape y) {t : T} {a : RA} (ha : lookT o t = some a) : ∃ a', lookT o' t = some a' ∧ a'.toT = a.toT ∧ ∀ x, a = .p x → a' = a := by
  cases t with
  | p x => exact ⟨a, ha, rfl, fun _ _ => rfl⟩
  | nil => exact ⟨a, ha, rfl, fun _ _ => rfl⟩
  | own n off =>
    simp only [lookT] at ha
    split at ha
    · rename_i e; cases ha
      obtain ⟨y, hy, hs⟩ := h n _ e
      cases y <;> simp only [Own.shape] at hs
      rename_i c' _
      exact ⟨.own n off c', by simp only [lookT, hy], rfl, fun x hx => by cases hx⟩
    · cases ha
  | row n l =>
    simp only [lookT] at ha
    split at ha
    · rename_i e
      split at ha
      · rename_i hl; cases ha
        obtain ⟨y, hy, hs⟩ := h n _ e
        cases y <;> simp only [Own.shape] at hs
        rename_i es' xs' _
        obtain ⟨rfl, hs⟩ := hs
        exact ⟨.row n l es' xs', by simp only [lookT, hy]; rw [if_pos (by omega)], rfl, fun x hx => by cases hx⟩
      · cases ha
    · cases ha
  | rp n es i off =>
    simp only [lookT] at ha
    split at ha
    · rename_i e
      split at ha
      · rename_i he
        simp only [Option.map_eq_some_iff] at ha
        obtain ⟨c, hc, rfl⟩ := ha
        obtain ⟨y, hy, hs⟩ := h n _ e
        cases y <;> simp only [Own.shape] at hs
        rename_i xs' _
        obtain ⟨rfl, hs⟩ := hs
        have hi : i < xs'.length := by have := (List.getElem?_eq_some_iff.1 hc).1; omega
        exact ⟨.rp n es i off xs'[i], by simp only [lookT, hy]; rw [if_pos he, List.getElem?_eq_getElem hi]; rfl, rfl, fun x hx => by cases hx⟩
      · cases ha
    · cases ha
  | mp n =>
    simp only [lookT] at ha
    split at ha
    · rename_i e; cases ha
      obtain ⟨y, hy, hs⟩ := h n _ e
      cases y <;> simp only [Own.shape] at hs
      rename_i kt' et' es'
      exact ⟨.mp n kt' et' es', by simp only [lookT, hy], rfl, fun x hx => by cases hx⟩
    · cases ha

theorem shape_upd {o : Nat → Option Own} {fs : List Nat} {n : Nat} {x y : Own} (hn : o n = some x) (hs : x.shape y) : ∀ k z, o k = some z → ∃ z', upd (frzO o fs) n (some y) k = some z' ∧ z.shape z' := by
  intro k z hz
  by_cases e : k = n
  · subst e; rw [hn] at hz; cases hz; exact ⟨y, upd_same _ _ _, hs⟩
  · rw [upd_ne _ _ e]
    unfold frzO
    split
    · rw [hz]; exact ⟨_, rfl, z.shape_freeze⟩
    · exact ⟨z, hz, z.shape_refl⟩

theorem resL_plain {s : St} {o' : Nat → Option Own} (ho : ∀ k x, s.o k = some x → ∃ y, o' k = some y ∧ x.shape y) : ∀ {xs : List Opd} {as : List RA}, s.resL xs = some as → (∀ a ∈ as, ∃ x, a = .p x) → (⟨s.t, o'⟩ : St).resL xs = some as
  | [], as, h, _ => by cases h; rfl
  | x :: xs, as, h, hp => by
    simp only [St.resL, Option.bind_eq_some_iff, Option.map_eq_some_iff] at h
    obtain ⟨b, hb, bs, hbs, rfl⟩ := h
    obtain ⟨q, rfl⟩ := hp b (by simp)
    obtain ⟨a', g1, g2, g3⟩ := lookT_shape ho hb
    have g4 := g3 _ rfl
    subst g4
    have h1 : (⟨s.t, o'⟩ : St).res x = some (.p q) := by unfold St.res; cases x <;> exact g1
    simp only [St.resL, h1, resL_plain ho hbs (fun a ha => hp a (by simp [ha]))]
    rfl
/-- What hangs on the slots alone is done alike after a store. -/
theorem ActA.slots {P : Program} {r : RG} {s : St} {e : Eff} (h : ActA P r s e) (hk : r.k.slots = true) {o' : Nat → Option Own} (ho : ∀ k x, s.o k = some x → ∃ y, o' k = some y ∧ x.shape y) : ActA P r ⟨s.t, o'⟩ e ∧ e.new = none ∧ e.frz = [] := by
  rcases h with ⟨hw, rfl⟩ | ⟨hw, as, hr, he, hn⟩
  · exact ⟨.inl ⟨hw, rfl⟩, rfl, rfl⟩
  · cases hkk : r.k <;> rw [hkk] at hk <;> simp only [Kd.slots] at hk <;> try (cases hk; done)
    case mv =>
      rw [hkk] at he
      simp only [SemA, sem] at he
      split at he
      · rename_i a
        cases he
        cases hx : r.a with
        | nil => rw [hx] at hr; simp [St.resL] at hr
        | cons x xs =>
          rw [hx] at hr
          cases xs with
          | cons y ys => simp only [St.resL, Option.bind_eq_some_iff, Option.map_eq_some_iff] at hr; obtain ⟨_, _, l, ⟨_, _, l2, _, rfl⟩, h⟩ := hr; cases h
          | nil =>
            simp only [St.resL, Option.bind_eq_some_iff, Option.map_eq_some_iff] at hr
            obtain ⟨b, hb, l, h1, h2⟩ := hr
            cases h1; cases h2
            obtain ⟨a', g1, g2, g3⟩ := lookT_shape ho hb
            refine ⟨.inr ⟨hw, [a'], ?_, ?_, fun h => by cases h⟩, rfl, rfl⟩
            · rw [hx]; simp only [St.resL]
              have : (⟨s.t, o'⟩ : St).res x = some a' := by unfold St.res; cases x <;> exact g1
              rw [this]; rfl
            · rw [hkk]; simp only [SemA, sem, g2]
      · cases he
    case bin op =>
      rw [hkk] at he
      have he0 := he
      simp only [SemA, sem] at he
      split at he
      · rename_i a b
        obtain ⟨v, hv, rfl⟩ := Option.map_eq_some_iff.1 he
        refine ⟨.inr ⟨hw, _, resL_plain ho hr (by intro x hx; simp at hx; rcases hx with rfl | rfl <;> exact ⟨_, rfl⟩), by rw [hkk]; exact he0, fun h => by cases h⟩, rfl, rfl⟩
      · cases he
    case ext i =>
      rw [hkk] at he
      simp only [SemA, sem] at he
      split at he
      · rename_i cs
        obtain ⟨p, hp, rfl⟩ := Option.map_eq_some_iff.1 he
        cases hx : r.a with
        | nil => rw [hx] at hr; simp [St.resL] at hr
        | cons x xs =>
          rw [hx] at hr
          cases xs with
          | cons y ys => simp only [St.resL, Option.bind_eq_some_iff, Option.map_eq_some_iff] at hr; obtain ⟨_, _, l, ⟨_, _, l2, _, rfl⟩, h⟩ := hr; cases h
          | nil =>
            simp only [St.resL, Option.bind_eq_some_iff, Option.map_eq_some_iff] at hr
            obtain ⟨b, hb, l, h1, h2⟩ := hr
            cases h1; cases h2
            obtain ⟨a', g1, g2, g3⟩ := lookT_shape ho hb
            have g4 := g3 _ rfl
            subst g4
            refine ⟨.inr ⟨hw, [.p (.tup cs)], ?_, ?_, fun h => by cases h⟩, rfl, rfl⟩
            · rw [hx]; simp only [St.resL]
              have : (⟨s.t, o'⟩ : St).res x = some (.p (.tup cs)) := by unfold St.res; cases x <;> exact g1
              rw [this]; rfl
            · rw [hkk]; simp only [SemA, sem, hp]; rfl
      · cases he

theorem ev_ne {s : St} {r : RG} {d : Option Nat} {v : T} (hd : ∀ k, d = some k → k ∉ r.looks) {x : Opd} (hx : x ∈ r.a) {o : Nat → Option Own} : (⟨putT s.t d v, o⟩ : St).ev x = s.ev x := by
  cases x with
  | c y => rfl
  | t n => exact putT_ne fun e => hd n e (looks_arg hx)

/-- THE DIAMOND, of a move and a store behind it. -/
theorem diamondS {P : Program} {r1 r2 : RG} {s s1 s2 : St} (ha : apartR r1 r2 = true) (hk1 : r1.k.slots = true) (hk2 : r2.k.isStore = true) (hd2 : r2.d = none)
    (h1 : Step1 P r1 s s1) (h2 : Step1 P r2 s1 s2) : ∃ t, Step1 P r2 s t ∧ Step1 P r1 t s2 := by
  obtain ⟨p1, p2, p3⟩ := apartR_spec ha
  have hs1 : r1.k.solo = false := by cases hk : r1.k <;> rw [hk] at hk1 <;> first | rfl | (simp [Kd.slots] at hk1; done)
  have hs2 : r2.k.solo = true := by cases hk : r2.k <;> rw [hk] at hk2 <;> first | rfl | (simp [Kd.isStore] at hk2; done)
  obtain ⟨e1, a1, rfl⟩ := (step_iff hs1).1 h1
  have hb := a1.slots hk1 (o' := s.o) fun k x hx => ⟨x, hx, x.shape_refl⟩
  have hst : s.eff r1.d e1 = ⟨putT s.t r1.d e1.v, s.o⟩ := by simp [St.eff, hb.2.1, hb.2.2, frzO_nil, newO]
  rw [hst] at h2
  have hw : (⟨putT s.t r1.d e1.v, s.o⟩ : St).want r2.g = s.want r2.g := want_congr fun k b hg => putT_ne fun e => p1 k e (looks_g hg)
  have hres : ∀ y ∈ r2.a, (⟨putT s.t r1.d e1.v, s.o⟩ : St).res y = s.res y := fun y hy => by
    unfold St.res; rw [ev_ne p1 hy]
  have fin : ∀ o', (∀ k x, s.o k = some x → ∃ y, o' k = some y ∧ x.shape y) → Step1 P r1 ⟨s.t, o'⟩ ⟨putT s.t r1.d e1.v, o'⟩ := fun o' ho => by
    obtain ⟨g1, g2, g3⟩ := a1.slots hk1 ho
    refine (step_iff hs1).2 ⟨e1, g1, ?_⟩
    simp [St.eff, g2, g3, frzO_nil, newO]
  cases h2 with
  | skip hw2 =>
    refine ⟨s, ?_, ?_⟩
    · have := Step1.skip (P := P) r2 s (by rw [← hw]; exact hw2)
      rw [hd2] at this; exact this
    · rw [hd2]; exact fin s.o fun k x hx => ⟨x, hx, x.shape_refl⟩
  | plain as e hk _ _ _ _ => rw [hs2] at hk; cases hk
  | storeBox sz x y n off cells cs a p hk hd hw2 hra hx ho hy hp hc hl hn =>
    rw [hw] at hw2
    rw [ev_ne p1 (by rw [hra]; simp)] at hx
    rw [hres y (by rw [hra]; simp)] at hy
    exact ⟨_, .storeBox r2 s sz x y n off cells cs a p hk hd hw2 hra hx ho hy hp hc hl hn, fin _ (shape_upd ho trivial)⟩
  | storeRow sz x y n es i off ty xs c cs a p hk hd hw2 hra hx ho hi hy hp hc hl hn =>
    rw [hw] at hw2
    rw [ev_ne p1 (by rw [hra]; simp)] at hx
    rw [hres y (by rw [hra]; simp)] at hy
    exact ⟨_, .storeRow r2 s sz x y n es i off ty xs c cs a p hk hd hw2 hra hx ho hi hy hp hc hl hn, fin _ (shape_upd ho ⟨rfl, by simp⟩)⟩
  | appNil ty es bytes d x y a ys sp hk => rw [hk] at hk2; cases hk2
  | appRow ty es bytes d n x y a xs ys sp fz hk => rw [hk] at hk2; cases hk2
  | mset kt et n x y z a k p cs es hk => rw [hk] at hk2; cases hk2
  | mdel kt et n x y k es hk => rw [hk] at hk2; cases hk2
  | calln f d as ps ty es zs hk => rw [hk] at hk2; cases hk2
  | calli f d n x ys as ps ty es xs zs hk => rw [hk] at hk2; cases hk2
  | callu f n x ys as ps ty es xs zs hk => rw [hk] at hk2; cases hk2

theorem diamond {P : Program} {r1 r2 : RG} {s s1 s2 : St} (hc : comm r1 r2 = true) (hf2 : r2.k.allocs = true → ∀ d, r2.d = some d → s.fresh d)
    (h1 : Step1 P r1 s s1) (h2 : Step1 P r2 s1 s2) : ∃ t, Step1 P r2 s t ∧ Step1 P r1 t s2 := by
  simp only [comm, Bool.and_eq_true, Bool.or_eq_true, Bool.not_eq_true', Option.isNone_iff_eq_none] at hc
  obtain ⟨⟨⟨ha, hb1⟩, hb2⟩, h | h⟩ := hc
  · exact diamondA ha hb1 hb2 h.1 h.2 hf2 h1 h2
  · exact diamondS ha h.1.1 h.1.2 h.2 h1 h2

/-- A fresh name stays fresh through any operation that does not write to its slot. -/
theorem Step1.fresh {P : Program} {r : RG} {s s' : St} (h : Step1 P r s s') (hb : r.bare = true) {d : Nat} (hf : s.fresh d) (hd : r.d ≠ some d) : s'.fresh d := by
  by_cases hk : r.k.solo = false
  · obtain ⟨e, a, rfl⟩ := (step_iff hk).1 h
    exact a.fresh hb hf hd
  · cases h with
    | skip hw => intro k; rcases putT_or s.t r.d (.p (.v undef)) k with e | e <;> simp only [e]; exact hf k; simp [T.name]
    | plain as e hk' _ _ _ _ => exact absurd hk' hk
    | storeBox => exact hf
    | storeRow => exact hf
    | appNil ty es bytes d' x y a ys sp hk' hd' =>
      intro k
      simp only [upd]
      split
      · simp only [T.name]; rw [hd'] at hd; simpa using hd
      · exact hf k
    | appRow ty es bytes d' n x y a xs ys sp fz hk' hd' =>
      intro k
      simp only [upd]
      split
      · simp only [T.name]; rw [hd'] at hd; simpa using hd
      · unfold killT; split
        · simp [T.name]
        · exact hf k
    | mset => exact hf
    | mdel => exact hf
    | callu f n x ys as ps ty es xs zs hk' =>
      intro k
      rcases putT_or s.t r.d (.p (.tup [])) k with e | e <;> simp only [e]
      · exact hf k
      · simp [T.name]
    | calln f d' as ps ty es zs hk' hd' =>
      intro k
      simp only [upd]
      split
      · simp only [T.name]; rw [hd'] at hd; simpa using hd
      · exact hf k
    | calli f d' n x ys as ps ty es xs zs hk' hd' =>
      intro k
      simp only [upd]
      split
      · simp only [T.name]; rw [hd'] at hd; simpa using hd
      · unfold killT; split
        · simp [T.name]
        · exact hf k

/-- A run, by the operations' numbers. -/
inductive StepsI (P : Program) (rs : List RG) : List Nat → St → St → Prop
  | nil (s : St) : StepsI P rs [] s s
  | cons {i : Nat} {l : List Nat} {s s1 s2 : St} {r : RG} (hi : rs[i]? = some r) (h : Step1 P r s s1) (t : StepsI P rs l s1 s2) : StepsI P rs (i :: l) s s2

/-- What is made in the region has a fresh name. -/
def Fr (rs : List RG) (l : List Nat) (s : St) : Prop := ∀ i ∈ l, ∀ r, rs[i]? = some r → r.k.allocs = true → ∀ d, r.d = some d → s.fresh d

def allocOk (rs : List RG) : Prop := ∀ (i j : Nat) (r r' : RG), i ≠ j → rs[i]? = some r → rs[j]? = some r' → r.k.allocs = true → ∀ d, r.d = some d → r'.d ≠ some d

theorem Fr.step {P : Program} {rs : List RG} {l : List Nat} {s s1 : St} (h : Fr rs l s) (hal : allocOk rs) (hb : ∀ r ∈ rs, r.bare = true) {j : Nat} {r : RG} (hj : rs[j]? = some r) (hs : Step1 P r s s1) (hn : j ∉ l) : Fr rs l s1 := by
  intro i hi r' hr' ha d hd
  have hne : i ≠ j := fun e => hn (e ▸ hi)
  exact hs.fresh (hb r (List.mem_of_getElem? hj)) (h i hi r' hr' ha d hd) (hal i j r' r hne hr' hj ha d hd)
theorem Fr.mono {rs : List RG} {l l' : List Nat} {s : St} (h : Fr rs l s) (hl : ∀ i ∈ l', i ∈ l) : Fr rs l' s := fun i hi => h i (hl i hi)

theorem move_front {P : Program} {rs : List RG} (hal : allocOk rs) (hb : ∀ r ∈ rs, r.bare = true) {i : Nat} {ri : RG} (hri : rs[i]? = some ri) {post : List Nat} : ∀ (pre : List Nat) {s s' : St}, (pre ++ i :: post).Nodup → (∀ j ∈ pre, ∀ rj, rs[j]? = some rj → comm rj ri = true) →
    Fr rs (pre ++ i :: post) s → StepsI P rs (pre ++ i :: post) s s' → ∃ t, Step1 P ri s t ∧ StepsI P rs (pre ++ post) t s'
  | [], s, s', hnd, hc, hf, h => by
    cases h with
    | cons hi h t => rw [hri] at hi; cases hi; exact ⟨_, h, t⟩
  | j :: pre, s, s', hnd, hc, hf, h => by
    cases h with
    | cons hj h t =>
      rename_i s1 rj
      simp only [List.cons_append, List.nodup_cons] at hnd
      have hf1 : Fr rs (pre ++ i :: post) s1 := (hf.mono fun k hk => List.mem_cons_of_mem _ hk).step hal hb hj h hnd.1
      obtain ⟨t1, h1, h2⟩ := move_front hal hb hri pre hnd.2 (fun k hk => hc k (by simp [hk])) hf1 t
      obtain ⟨u, g1, g2⟩ := diamond (hc j (by simp) rj hj) (fun ha d hd => hf i (by simp) ri hri ha d hd) h h1
      exact ⟨u, g1, .cons hj g2 h2⟩
end Go.Fw
