/-
  Contracts out of runs ('ret_of'); weaker states; the rules of 'W'.
-/
import Derived.Test.YtikgpjnfifnilaaFwS
set_option linter.unusedVariables false
set_option linter.unusedSimpArgs false
namespace Go.Fw
open Go.RowKit

inductive RV where
  | t (n : Nat)
  | c (n sz : Nat) (ag : Bool)
def trRes (P : Program) (nt : Nat) : ResultVar → Option RV
  | .tmp t => if t < nt then some (.t t) else none
  | .cell a t => match P.underlying t with | some d => if a < nt ∧ (isAggD d || P.cellsOf t == 1) = true then some (.c a (P.cellsOf t) (isAggD d)) else none | none => none

def St.outV (s : St) : RV → Option (PV × List Nat)
  | .t n => (s.res (.t n)).bind fun a => a.pv.map fun p => (p, a.frz)
  | .c n sz ag => match s.res (.t n) with
    | some (.own _ off cells) => (ldv cells off sz ag).map fun p => (p, [])
    | _ => none
def St.out (s : St) : List RV → Option (PV × List Nat)
  | [] => some (.tup [], [])
  | [x] => s.outV x
  | [x, y] => (s.outV x).bind fun p => (s.outV y).map fun q => (.tup [p.1, q.1], p.2 ++ q.2)
  | _ => none

def St.init (ps : List PV) : St := ⟨fun k => .p (ps[k]?.getD .any), fun _ => none⟩

theorem inv_init {P : Program} {nt : Nat} {ps : List PV} {w : World} {F : Fz} {ys : List Value} (hf : FzIn w F) (hr : RepL F ps ys) (h9 : nt ≤ LN) (hn : ps.length ≤ nt) :
    Inv w.heap.size w F nt (St.init ps) { tmps := ys.toArray ++ Array.replicate (nt - ys.toArray.size) undef, defers := [] } w := by
  refine ⟨F, fun n => if n = LN then (some w.heap.size, w.drawn) else (none, 0), rfl, ?_, BelowX.refl _ _, Nat.le_refl _, FzOn.refl _ _, hf, fun k hk => ?_, fun n x hx => ?_, fun n n' b hn => ?_, fun n b hn => ?_, by simp, h9⟩
  · have := hr.1; simp; omega
  · simp only [St.init, RepT]
    have hl := hr.1
    rw [Array.getD_eq_getD_getElem?, Array.getElem?_append]
    by_cases h : k < ps.length
    · have hk' : k < ys.toArray.size := by simpa [hl] using h
      rw [if_pos hk']
      have h1 : ps[k]? = some ps[k] := by simp [h]
      have hy : k < ys.length := by omega
      have h2 : ys[k]? = some ys[k] := by simp [hy]
      simp only [List.getElem?_toArray, h2, Option.getD_some, h1]
      exact hr.2 k _ _ h1 h2
    · have : ps[k]? = none := List.getElem?_eq_none_iff.2 (by omega)
      rw [this]; exact Rep.any _
  · cases hx
  · cases hn
  · cases hn

def oneRes (tmps : Array Value) : ResultVar → Sem Value
  | .tmp t => pure (tmps.getD t undef)
  | .cell a t => do loadVar t (← asAddr (tmps.getD a undef))
theorem results_eq (fn : Func) (tmps : Array Value) : results fn tmps = (do
    let vs ← fn.results.mapM (oneRes tmps)
    pure (if h : vs.size = 1 then vs[0] else .tuple vs)) := rfl

theorem outV_rep {P : Program} {B nt : Nat} {w0 : World} {F0 : Fz} {s : St} {o0 : Nat → Option Own} {a : Act} {w : World} {F : Fz} {m : Mp} {ns : List Nat} (h : InvP B w0 F0 nt ⟨s.t, frzO s.o ns⟩ a w F m) (hfil : ∀ n ∈ ns, ∀ x, s.o n = some x → Filled F (m n) x) {rv : ResultVar} {x : RV} (ht : trRes P nt rv = some x)
    {p : PV} {fs : List Nat} (hp : s.outV x = some (p, fs)) (hns : ∀ n ∈ fs, n ∈ ns) :
    ∃ v, (oneRes a.tmps rv).run P w = .ok v w ∧ Rep F p v := by
  cases rv with
  | tmp t =>
    simp only [trRes] at ht
    split at ht
    · rename_i hlt; cases ht
      simp only [St.outV, Option.bind_eq_some_iff, Option.map_eq_some_iff] at hp
      obtain ⟨ra, hra, q, hq, he⟩ := hp
      cases he
      refine ⟨_, rfl, ?_⟩
      exact (h.arg hfil hra (h.tmps t hlt)).pv hns hq
    · cases ht
  | cell c t =>
    simp only [trRes] at ht
    split at ht
    · rename_i d hd
      split at ht
      · rename_i hok; cases ht
        simp only [St.outV] at hp
        split at hp
        · rename_i n off cells hra
          obtain ⟨q, hq, he⟩ := Option.map_eq_some_iff.1 hp
          cases he
          obtain ⟨b, ys, hb, hv, hr, h1, hc, _⟩ := h.arg hfil hra (h.tmps c hok.1)
          obtain ⟨v, hrun, hrep⟩ := ldv_run (o0 := 0) (b := b) hd hok.2 hr h1 (fun j y e => by rw [Nat.zero_add]; exact hc j y e) hq
          rw [Nat.zero_add] at hrun
          exact ⟨v, by simp [oneRes, hv, asAddr, hrun], hrep⟩
        · cases hp
      · cases ht
    · cases ht

/-- THE CONTRACT, out of a run. -/
theorem ret_of {P : Program} {f : FuncId} {fn : Func} {body : Code} {c : C} {nt : Nat} {ps : List PV} {rvs : List RV} {p : PV} (hf : P.funcs[f]? = some fn) (hb : fn.body = some body) (hname : (fn.name == "runtime.NumGoroutine") = false) (hnt : fn.ntmps = nt)
    (hr : mapO (trRes P nt) fn.results.toList = some rvs) (ht : trC P nt body = some c.base) (hdr : drC P body c = true) (h9 : Nat.ble nt LN = true) (hn : ps.length ≤ nt)
    (h : ∃ e s', Exec P c (St.init ps) e s' ∧ (∀ id, e ≠ .exit id) ∧ ∃ ns, s'.out rvs = some (p, ns)) : Ret P f ps p := by
  constructor
  · intro args w
    have hne : ¬ fn.name = "runtime.NumGoroutine" := by simpa using hname
    simp [callFunc, hf, hne, hb]
  · intro w F ys hfin hrep
    obtain ⟨e, s', hex, he, ns, hout⟩ := h
    refine calls_of_wp hf hb ?_
    rw [hnt]
    refine (exec_sound hex).1 body ht hdr (inv_init (P := P) hfin hrep (Nat.le_of_ble_eq_true h9) hn) _ fun a w' hi => ?_
    have goal : a.defers = [] ∧ ∃ v, (results fn a.tmps).run P w' = .ok v w' ∧ ∃ v' F', (Ending.returned v = .returned v') ∧ Rep F' p v' ∧ FzIn w' F' ∧ FzOn w.heap.size F F' ∧ Below w.heap.size w w' := by
      obtain ⟨F1, m, h1⟩ := hi
      obtain ⟨F2, h2, hle, hfil⟩ := h1.frz ns
      refine ⟨h2.defers, ?_⟩
      have hres : ∃ v, (results fn a.tmps).run P w' = .ok v w' ∧ Rep F2 p v := by
        obtain ⟨name, origin, targs, params, rts, nfree, ntmps, ⟨rs⟩, fbody, norace, ours, file, endLine, litNo, met, tmpNames⟩ := fn
        simp only at hr
        match rs, rvs, hr, hout with
        | [], _, hr, hout =>
          cases hr; cases hout
          exact ⟨.tuple #[], by simp [results_eq], by simpa using Rep.tup (F := F2) [] [] rfl (by simp)⟩
        | [r1], _, hr, hout =>
          simp only [mapO, Option.bind_eq_some_iff, Option.map_eq_some_iff] at hr
          obtain ⟨x, hx, _, h3, rfl⟩ := hr
          cases h3
          obtain ⟨v, hv, hrp⟩ := outV_rep (P := P) (o0 := s'.o) h2 hfil hx hout (fun _ h => h)
          refine ⟨v, ?_, hrp⟩
          simp [results_eq, hv]
        | [r1, r2], _, hr, hout =>
          simp only [mapO, Option.bind_eq_some_iff, Option.map_eq_some_iff] at hr
          obtain ⟨x, hx, _, ⟨y, hy, _, h3, rfl⟩, rfl⟩ := hr
          cases h3
          simp only [St.out, Option.bind_eq_some_iff, Option.map_eq_some_iff] at hout
          obtain ⟨⟨p1, n1⟩, hp1, ⟨p2, n2⟩, hp2, he⟩ := hout
          cases he
          obtain ⟨v1, hv1, hr1⟩ := outV_rep (P := P) (o0 := s'.o) h2 hfil hx hp1 (fun _ h => List.mem_append_left _ h)
          obtain ⟨v2, hv2, hr2⟩ := outV_rep (P := P) (o0 := s'.o) h2 hfil hy hp2 (fun _ h => List.mem_append_right _ h)
          refine ⟨.tuple #[v1, v2], ?_, by simpa using Rep.tup (F := F2) [p1, p2] [v1, v2] rfl (RepL.cons hr1 (RepL.cons hr2 RepL.nil)).2⟩
          simp [results_eq, hv1, hv2]
        | r1 :: r2 :: r3 :: rest, _, hr, hout =>
          simp only [mapO, Option.bind_eq_some_iff, Option.map_eq_some_iff] at hr
          obtain ⟨x, hx, _, ⟨y, hy, _, ⟨z, hz, _, h3, rfl⟩, rfl⟩, rfl⟩ := hr
          simp only [St.out] at hout
          cases hout
      obtain ⟨v, hv, hrp⟩ := hres
      exact ⟨v, hv, v, F2, rfl, hrp, h2.fin, h2.on, h2.below.below⟩
    cases e with
    | n => exact goal
    | ret => exact goal
    | exit id => exact absurd rfl (he id)
/-- THE CONTRACT of a function that hands out a row of its own, out of a run. -/
theorem retN_of {P : Program} {f : FuncId} {fn : Func} {body : Code} {c : C} {nt t ty es : Nat} {ps : List PV} {zs : List (List PV)} (hf : P.funcs[f]? = some fn) (hb : fn.body = some body) (hname : (fn.name == "runtime.NumGoroutine") = false) (hnt : fn.ntmps = nt)
    (hr : fn.results = #[.tmp t]) (htn : t < nt) (ht : trC P nt body = some c.base) (hdr : drC P body c = true) (h9 : Nat.ble nt LN = true) (hn : ps.length ≤ nt)
    (h : ∃ e s', Exec P c (St.init ps) e s' ∧ (∀ id, e ≠ .exit id) ∧ ((s'.t t = .nil ∧ zs = []) ∨ ∃ n, s'.t t = .row n zs.length ∧ s'.o n = some (.row ty es zs false))) : RetN P f ps ty es zs := by
  constructor
  · intro args w
    have hne : ¬ fn.name = "runtime.NumGoroutine" := by simpa using hname
    simp [callFunc, hf, hne, hb]
  · intro w F ys hfin hrep
    obtain ⟨e, s', hex, he, hor⟩ := h
    refine calls_of_wp hf hb ?_
    rw [hnt]
    refine (exec_sound hex).1 body ht hdr (inv_init (P := P) hfin hrep (Nat.le_of_ble_eq_true h9) hn) _ fun a w' hi => ?_
    have goal : a.defers = [] ∧ ∃ v, (results fn a.tmps).run P w' = .ok v w' ∧ ∃ v' F' us, (Ending.returned v = .returned v') ∧ RowIs F' w' w.heap.size ty es v' zs us ∧ FzIn w' F' ∧ FzOn w.heap.size F F' ∧ Below w.heap.size w w' := by
      obtain ⟨F1, m, h1⟩ := hi
      refine ⟨h1.defers, a.tmps.getD t undef, ?_, ?_⟩
      · rw [results_eq, hr]
        simp [oneRes]
      · have hv := h1.tmps t htn
        rcases hor with ⟨hsn, rfl⟩ | ⟨n, hsn, hon⟩
        · rw [hsn] at hv
          refine ⟨_, F1, [], rfl, ?_, h1.fin, h1.on, h1.below.below⟩
          rw [show a.tmps.getD t undef = .slice none 0 0 from hv]
          exact ⟨World.ownsRow_nil w' _ ty es, RepL.nil, by simp, by simp, fun _ => rfl, by simp [Value.ownBlock]⟩
        · obtain ⟨us, hri⟩ := (h1.own n _ hon).rowIs
          rw [hsn] at hv
          refine ⟨_, F1, us, rfl, ?_, h1.fin, h1.on, h1.below.below⟩
          rw [hv.1]; exact hri
    cases e with
    | n => exact goal
    | ret => exact goal
    | exit id => exact absurd rfl (he id)
/-- The state at the start of a function that is lent a row. -/
def St.initU (len : Nat) (ps : List PV) (ty es : Nat) (xs : List (List PV)) : St := ⟨fun k => match k with | 0 => .row LN len | k + 1 => .p (ps[k]?.getD .any), fun n => if n = LN then some (.row ty es xs false) else none⟩

theorem inv_initU {nt ty es : Nat} {xs : List (List PV)} {ps : List PV} {w : World} {F : Fz} {g cap : Nat} {us ys : List Value} (hf : FzIn w F) (hr : RepL F ps ys) (hv : RowIs F w g ty es (.slice (some ⟨g, 0, none⟩) xs.length cap) xs us) (h9 : nt ≤ LN) (hn : ps.length + 1 ≤ nt) :
    Inv g { w with drawn := cap } F nt (St.initU xs.length ps ty es xs) { tmps := (.slice (some ⟨g, 0, none⟩) xs.length cap :: ys).toArray ++ Array.replicate (nt - (.slice (some ⟨g, 0, none⟩) xs.length cap :: ys : List Value).toArray.size) undef, defers := [] } w := by
  have hgw : g < w.heap.size := (hv.ge rfl).2
  refine ⟨F, fun n => if n = LN then (some g, cap) else (none, 0), rfl, ?_, ⟨rfl, rfl, rfl, Nat.le_refl _, fun _ _ _ => rfl⟩, Nat.le_of_lt hgw, FzOn.refl _ _, hf, fun k hk => ?_, fun n x hx => ?_, fun n n' b hn hn' _ _ => ?_, fun n b hn hb => ?_, by simp, h9⟩
  · have := hr.1; simp; omega
  · rw [Array.getD_eq_getD_getElem?, Array.getElem?_append]
    have hl := hr.1
    cases k with
    | zero =>
      simp only [St.initU, RepT]
      simp [rowVal]
    | succ k =>
      simp only [St.initU, RepT]
      by_cases h : k < ps.length
      · rw [if_pos (by simp; omega)]
        have h1 : ps[k]? = some ps[k] := by simp [h]
        have hy : k < ys.length := by omega
        have h2 : ys[k]? = some ys[k] := by simp [hy]
        simp only [List.getElem?_toArray, List.getElem?_cons_succ, h2, Option.getD_some, h1]
        exact hr.2 k _ _ h1 h2
      · have : ps[k]? = none := List.getElem?_eq_none_iff.2 (by omega)
        rw [this]; exact Rep.any _
  · simp only [St.initU] at hx
    split at hx
    · rename_i e; subst e; cases hx
      have := hv.ownOk
      simpa [Value.ownBlock, capOf] using this
    · cases hx
  · simp only [St.initU] at hn hn'
    have e1 : n = LN := by by_cases e : n = LN; exact e; simp [e] at hn
    have e2 : n' = LN := by by_cases e : n' = LN; exact e; simp [e] at hn'
    rw [e1, e2]
  · have e1 : n = LN := by by_cases e : n = LN; exact e; simp [St.initU, e] at hn
    subst e1
    simp only [if_true] at hb
    left; cases hb; rfl

/-- THE CONTRACT of a function that is lent a row, out of a run. -/
theorem retU_of {P : Program} {f : FuncId} {fn : Func} {body : Code} {c : C} {nt ty es : Nat} {ps : List PV} {xs zs : List (List PV)} (hf : P.funcs[f]? = some fn) (hb : fn.body = some body) (hname : (fn.name == "runtime.NumGoroutine") = false) (hnt : fn.ntmps = nt)
    (hr : fn.results = #[]) (ht : trC P nt body = some c.base) (hdr : drC P body c = true) (h9 : Nat.ble nt LN = true) (hn : ps.length + 1 ≤ nt) (hzl : zs.length = xs.length) (hx : xs ≠ []) (hlv : ∀ p ∈ zs.flatten, ∃ x, p = .v x)
    (h : ∃ e s', Exec P c (St.initU xs.length ps ty es xs) e s' ∧ (∀ id, e ≠ .exit id) ∧ ∃ fz, s'.o LN = some (.row ty es zs fz)) : RetU P f ty es xs ps zs := by
  refine ⟨hzl, ?_, ?_⟩
  · intro args w
    have hne : ¬ fn.name = "runtime.NumGoroutine" := by simpa using hname
    simp [callFunc, hf, hne, hb]
  · intro w F B v us ys hfin hrep hB hv
    obtain ⟨g, cap, cur, rfl, hBg, hg, hle, hm, hcs, hus, hnone⟩ : ∃ g cap cur, v = .slice (some ⟨g, 0, none⟩) xs.length cap ∧ B ≤ g ∧ w.heap[g]? = some (.cells cur ty (0, 0)) ∧ xs.length ≤ cap ∧ cap ≤ maxLen ∧ cur.size = cap * es ∧ cur.toList.take (xs.length * es) = us ∧ noneF F g := by
      rcases hv.own.2 with ⟨h1, h2⟩ | ⟨g, cap, cur, h1, h2, h3, h4, h5, h6, h7⟩
      · exact absurd (List.eq_nil_of_length_eq_zero h2) hx
      · exact ⟨g, cap, cur, h1, h2, h3, h4, h5, h6, h7, hv.free g (by rw [h1]; rfl)⟩
    have hv' : RowIs F w g ty es (.slice (some ⟨g, 0, none⟩) xs.length cap) xs us := ⟨⟨hv.own.1, .inr ⟨g, cap, cur, rfl, Nat.le_refl _, hg, hle, hm, hcs, hus⟩⟩, hv.rep, hv.one, hv.len, hv.nil, hv.free⟩
    obtain ⟨e, s', hex, he, fz, hon⟩ := h
    refine calls_of_wp hf hb ?_
    rw [hnt]
    refine (exec_sound hex).1 body ht hdr (inv_initU hfin hrep hv' (Nat.le_of_ble_eq_true h9) hn) _ fun a w' hi => ?_
    have goal : a.defers = [] ∧ ∃ u, (results fn a.tmps).run P w' = .ok u w' ∧ ∃ us' v', (Ending.returned u = .returned v') ∧ Rep F (.tup []) v' ∧ RowIs F w' B ty es (.slice (some ⟨g, 0, none⟩) xs.length cap) zs us' ∧ FzIn w' F ∧ w.grownBy w' (Value.slice (some ⟨g, 0, none⟩) xs.length cap).ownBlock := by
      obtain ⟨F1, m, h1⟩ := hi
      have hgb : w.grownBy w' (some g) := ⟨h1.below.os, h1.below.tape, h1.below.output, h1.below.size, fun k hk hne => h1.below.block k hk (by simpa using hne)⟩
      refine ⟨h1.defers, .tuple #[], by rw [results_eq, hr]; simp, ?_⟩
      have hmf := h1.mfix
      have hown := h1.own LN _ hon
      obtain ⟨us', hri⟩ : ∃ us, RowIs F w' g ty es (rowVal (m LN) zs.length) zs us := by
        obtain ⟨k1, ys', k2, k3, k4, k5, k6⟩ := hown
        refine ⟨ys', k2, ⟨k3.1, fun j p y hp hy => ?_⟩, k4, k1, fun e => ?_, fun b hb => ?_⟩
        · obtain ⟨x, rfl⟩ := hlv p (List.mem_of_getElem? hp)
          obtain rfl := Rep.v_inv (k3.2 j _ y hp hy)
          exact .v _
        · rw [hmf] at e; simp [rowVal, Value.ownBlock] at e
        · rw [hmf] at hb; simp [rowVal, Value.ownBlock] at hb; subst hb; exact hnone
      rw [hmf] at hri
      refine ⟨us', _, rfl, Rep.tup [] [] rfl (fun j p y h => by simp at h), ?_, fun b o y e => ?_, hgb⟩
      · have := hri.weaken hBg
        rw [hzl] at this
        exact this
      · have h2 := hfin b o y e
        have hne : b ≠ g := fun e' => by subst e'; rw [hnone o] at e; cases e
        exact (World.cell?_of_block (hgb.block b (World.block_lt_of_cell? w _ h2) (by simpa using hne))).trans h2
    cases e with
    | n => exact goal
    | ret => exact goal
    | exit id => exact absurd rfl (he id)

/-- THE CONTRACT of a function that is lent a row, and returns a leaf, out of a run. -/
theorem retUv_of {P : Program} {f : FuncId} {fn : Func} {body : Code} {c : C} {nt t ty es : Nat} {ps : List PV} {xs zs : List (List PV)} {x : Value} (hf : P.funcs[f]? = some fn) (hb : fn.body = some body) (hname : (fn.name == "runtime.NumGoroutine") = false) (hnt : fn.ntmps = nt)
    (hr : fn.results = #[.tmp t]) (htn : t < nt) (ht : trC P nt body = some c.base) (hdr : drC P body c = true) (h9 : Nat.ble nt LN = true) (hn : ps.length + 1 ≤ nt) (hzl : zs.length = xs.length) (hx : xs ≠ []) (hlv : ∀ p ∈ zs.flatten, ∃ x, p = .v x)
    (h : ∃ e s', Exec P c (St.initU xs.length ps ty es xs) e s' ∧ (∀ id, e ≠ .exit id) ∧ ∃ fz, s'.t t = .p (.v x) ∧ s'.o LN = some (.row ty es zs fz)) : RetU P f ty es xs ps zs (.v x) := by
  refine ⟨hzl, ?_, ?_⟩
  · intro args w
    have hne : ¬ fn.name = "runtime.NumGoroutine" := by simpa using hname
    simp [callFunc, hf, hne, hb]
  · intro w F B v us ys hfin hrep hB hv
    obtain ⟨g, cap, cur, rfl, hBg, hg, hle, hm, hcs, hus, hnone⟩ : ∃ g cap cur, v = .slice (some ⟨g, 0, none⟩) xs.length cap ∧ B ≤ g ∧ w.heap[g]? = some (.cells cur ty (0, 0)) ∧ xs.length ≤ cap ∧ cap ≤ maxLen ∧ cur.size = cap * es ∧ cur.toList.take (xs.length * es) = us ∧ noneF F g := by
      rcases hv.own.2 with ⟨h1, h2⟩ | ⟨g, cap, cur, h1, h2, h3, h4, h5, h6, h7⟩
      · exact absurd (List.eq_nil_of_length_eq_zero h2) hx
      · exact ⟨g, cap, cur, h1, h2, h3, h4, h5, h6, h7, hv.free g (by rw [h1]; rfl)⟩
    have hv' : RowIs F w g ty es (.slice (some ⟨g, 0, none⟩) xs.length cap) xs us := ⟨⟨hv.own.1, .inr ⟨g, cap, cur, rfl, Nat.le_refl _, hg, hle, hm, hcs, hus⟩⟩, hv.rep, hv.one, hv.len, hv.nil, hv.free⟩
    obtain ⟨e, s', hex, he, fz, hsn, hon⟩ := h
    refine calls_of_wp hf hb ?_
    rw [hnt]
    refine (exec_sound hex).1 body ht hdr (inv_initU hfin hrep hv' (Nat.le_of_ble_eq_true h9) hn) _ fun a w' hi => ?_
    have goal : a.defers = [] ∧ ∃ u, (results fn a.tmps).run P w' = .ok u w' ∧ ∃ us' v', (Ending.returned u = .returned v') ∧ Rep F (.v x) v' ∧ RowIs F w' B ty es (.slice (some ⟨g, 0, none⟩) xs.length cap) zs us' ∧ FzIn w' F ∧ w.grownBy w' (Value.slice (some ⟨g, 0, none⟩) xs.length cap).ownBlock := by
      obtain ⟨F1, m, h1⟩ := hi
      have hgb : w.grownBy w' (some g) := ⟨h1.below.os, h1.below.tape, h1.below.output, h1.below.size, fun k hk hne => h1.below.block k hk (by simpa using hne)⟩
      have hvx := h1.tmps t htn
      rw [hsn] at hvx
      replace hvx : a.tmps.getD t undef = x := Rep.v_inv hvx
      refine ⟨h1.defers, a.tmps.getD t undef, by rw [results_eq, hr]; simp [oneRes], ?_⟩
      have hmf := h1.mfix
      have hown := h1.own LN _ hon
      obtain ⟨us', hri⟩ : ∃ us, RowIs F w' g ty es (rowVal (m LN) zs.length) zs us := by
        obtain ⟨k1, ys', k2, k3, k4, k5, k6⟩ := hown
        refine ⟨ys', k2, ⟨k3.1, fun j p y hp hy => ?_⟩, k4, k1, fun e => ?_, fun b hb => ?_⟩
        · obtain ⟨x, rfl⟩ := hlv p (List.mem_of_getElem? hp)
          obtain rfl := Rep.v_inv (k3.2 j _ y hp hy)
          exact .v _
        · rw [hmf] at e; simp [rowVal, Value.ownBlock] at e
        · rw [hmf] at hb; simp [rowVal, Value.ownBlock] at hb; subst hb; exact hnone
      rw [hmf] at hri
      refine ⟨us', _, rfl, by rw [hvx]; exact .v _, ?_, fun b o y e => ?_, hgb⟩
      · have := hri.weaken hBg
        rw [hzl] at this
        exact this
      · have h2 := hfin b o y e
        have hne : b ≠ g := fun e' => by subst e'; rw [hnone o] at e; cases e
        exact (World.cell?_of_block (hgb.block b (World.block_lt_of_cell? w _ h2) (by simpa using hne))).trans h2
    cases e with
    | n => exact goal
    | ret => exact goal
    | exit id => exact absurd rfl (he id)

/-- A row of leaves stands for the same over any frozen memory. -/
theorem RowIs.leaves {F F' : Fz} {w : World} {B ty es : Nat} {m : Option Nat × Nat} {xs : List (List PV)} {fz : Bool} (h : OwnOk F w B m (.row ty es xs fz)) (hl : ∀ p ∈ xs.flatten, ∃ x, p = .v x) (hF : ∀ b, m.1 = some b → noneF F' b) : ∃ us, RowIs F' w B ty es (rowVal m xs.length) xs us := by
  obtain ⟨g1, ys, g2, g3, g4, g5, g6⟩ := h
  have hob : (rowVal m xs.length).ownBlock = m.1 := by unfold rowVal; cases e : m.1 <;> simp [Value.ownBlock]
  refine ⟨ys, g2, ⟨g3.1, fun j p y hp hy => ?_⟩, g4, g1, fun e => g5 (by rw [← hob]; exact e), fun b hb => hF b (by rw [← hob]; exact hb)⟩
  obtain ⟨x, rfl⟩ := hl p (List.mem_of_getElem? hp)
  obtain rfl := Rep.v_inv (g3.2 j _ y hp hy)
  exact .v _
/-- A row of leaves may be handed out though it was frozen within. -/
theorem retV_of {P : Program} {f : FuncId} {fn : Func} {body : Code} {c : C} {nt t ty es : Nat} {ps : List PV} {zs : List (List PV)} (hf : P.funcs[f]? = some fn) (hb : fn.body = some body) (hname : (fn.name == "runtime.NumGoroutine") = false) (hnt : fn.ntmps = nt)
    (hr : fn.results = #[.tmp t]) (htn : t < nt) (ht : trC P nt body = some c.base) (hdr : drC P body c = true) (h9 : Nat.ble nt LN = true) (hn : ps.length ≤ nt) (hl : ∀ p ∈ zs.flatten, ∃ x, p = .v x)
    (h : ∃ e s', Exec P c (St.init ps) e s' ∧ (∀ id, e ≠ .exit id) ∧ ∃ n fz, s'.t t = .row n zs.length ∧ s'.o n = some (.row ty es zs fz)) : RetN P f ps ty es zs := by
  constructor
  · intro args w
    have hne : ¬ fn.name = "runtime.NumGoroutine" := by simpa using hname
    simp [callFunc, hf, hne, hb]
  · intro w F ys hfin hrep
    obtain ⟨e, s', hex, he, n, fz, hsn, hon⟩ := h
    refine calls_of_wp hf hb ?_
    rw [hnt]
    refine (exec_sound hex).1 body ht hdr (inv_init (P := P) hfin hrep (Nat.le_of_ble_eq_true h9) hn) _ fun a w' hi => ?_
    have goal : a.defers = [] ∧ ∃ v, (results fn a.tmps).run P w' = .ok v w' ∧ ∃ v' F' us, (Ending.returned v = .returned v') ∧ RowIs F' w' w.heap.size ty es v' zs us ∧ FzIn w' F' ∧ FzOn w.heap.size F F' ∧ Below w.heap.size w w' := by
      obtain ⟨F1, m, h1⟩ := hi
      refine ⟨h1.defers, a.tmps.getD t undef, ?_, ?_⟩
      · rw [results_eq, hr]
        simp [oneRes]
      · have hv := h1.tmps t htn
        have hown := h1.own n _ hon
        have hge : ∀ b, (m n).1 = some b → noneF F b := fun b hb => hfin.noneF (hown.lt hb).1
        obtain ⟨us, hri⟩ := RowIs.leaves (F' := F) hown hl hge
        rw [hsn] at hv
        refine ⟨_, F, us, rfl, ?_, hfin.blocks (fun k hk => h1.below.below.block k hk), FzOn.refl _ _, h1.below.below⟩
        rw [hv.1]; exact hri
    cases e with
    | n => exact goal
    | ret => exact goal
    | exit id => exact absurd rfl (he id)
end Go.Fw
