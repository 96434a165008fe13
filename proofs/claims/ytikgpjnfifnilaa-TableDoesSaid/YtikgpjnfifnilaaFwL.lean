/-
  One operation of the model goes with one step of the abstract machine: plain operations and calls.
-/
import Derived.Test.YtikgpjnfifnilaaFwK
set_option linter.unusedVariables false
set_option linter.unusedSimpArgs false
namespace Go.Fw
open Go.RowKit

section
variable {P : Program} {B nt : Nat} {w0 : World} {F0 : Fz} {s s' : St} {a : Act} {w : World} {F : Fz} {m : Mp}

theorem below_alloc (w : World) (o : Obj) : Below w.heap.size w (w.alloc o) := (Below.refl _ _).alloc (Nat.le_refl _) o
theorem FzIn.alloc (h : FzIn w F) (o : Obj) : FzIn (w.alloc o) F := fun b off y e => by
  have h1 := h b off y e
  rw [World.cell?_alloc_lt _ _ _ (World.block_lt_of_cell? w _ h1)]
  exact h1

theorem InvP.alloc (h : InvP B w0 F0 nt s a w F m) (o : Obj) : InvP B w0 F0 nt s a (w.alloc o) F m := h.world (below_alloc w o) (FzOn.refl _ _) (h.fin.alloc o)

/-- A new own memory. -/
theorem InvP.new (h : InvP B w0 F0 nt s a w F m) {d : Nat} {x : Own} {obj : Obj} {c : Nat} (hf : s.fresh d) (hdn : d ≠ LN) (ho : OwnOk F (w.alloc obj) B (some w.heap.size, c) x) :
    InvP B w0 F0 nt ⟨s.t, upd s.o d (some x)⟩ a (w.alloc obj) F (upd m d (some w.heap.size, c)) := by
  have h' := h.alloc obj
  refine ⟨h'.defers, h'.size, h'.below, h'.base, h'.on, h'.fin, fun k hk => (h'.tmps k hk).upd (hf k) _, fun n y hy => ?_, fun n n' b hn hn' hb hb' => ?_, fun n b hn hb => ?_, by rw [upd_ne _ _ (Ne.symm hdn)]; exact h.mfix, h.ntle⟩
  · by_cases e : n = d
    · subst e
      simp only [Fw.upd, if_true] at hy
      cases hy
      simpa [Fw.upd] using ho
    · simp only [Fw.upd, e, if_false] at hy ⊢
      exact h'.own n y hy
  · by_cases e : n = d <;> by_cases e' : n' = d
    · rw [e, e']
    · subst e
      simp only [Fw.upd, e', if_true, if_false] at hb hb' hn'
      cases hb
      obtain ⟨y, hy⟩ := Option.isSome_iff_exists.1 hn'
      have := ((h.own n' y hy).lt hb').2
      omega
    · subst e'
      simp only [Fw.upd, e, if_true, if_false] at hb hb' hn
      cases hb'
      obtain ⟨y, hy⟩ := Option.isSome_iff_exists.1 hn
      have := ((h.own n y hy).lt hb).2
      omega
    · simp only [Fw.upd, e, e', if_false] at hn hn' hb hb'
      exact h.inj n n' b hn hn' hb hb'
  · by_cases e : n = d
    · subst e
      simp only [Fw.upd, if_true] at hb
      cases hb
      exact .inr h.below.size
    · simp only [Fw.upd, e, if_false] at hn hb
      exact h.ownL n b hn hb

theorem putT_put {d : Option Nat} {t : Nat → T} {v : T} : (⟨putT t d v, s.o⟩ : St) = ⟨putT t d v, s.o⟩ := rfl

/-- What a class of operations leaves, made a state. -/
theorem good_inv {ns : List Nat} (h : InvP B w0 F0 nt ⟨s.t, frzO s.o ns⟩ a w F m) {dst : Option Nat} {e : Eff} (hns : e.frz = ns) (hd : dstOk nt dst = true) (hnew : e.new.isSome = true → ∃ d, dst = some d ∧ s.fresh d) {r : Result Next}
    (hg : GoodN F m B (dst.getD 0) w e r) {o : Oper} (ho : o.dst = dst) {K : Act → World → Prop} {Q : Exit → Act → World → Prop} (hK : ∀ a' w', Inv B w0 F0 nt (s.eff dst e) a' w' → K a' w') : o.upon P a K Q r := by
  obtain ⟨v, w', hr, h1⟩ := hg
  subst hr
  rw [Oper.upon_value, ho]
  apply hK
  rcases h1 with ⟨hn, rfl, hrep⟩ | ⟨x, obj, c, hn, rfl, hrep, hown⟩
  · refine ⟨F, m, ?_⟩
    have := h.put (d := dst) hrep hd
    simpa [St.eff, newO, hn, hns] using this
  · obtain ⟨d, rfl, hfr⟩ := hnew (by simp [hn])
    simp only [Option.getD_some] at hrep hown
    have hdl : d < nt := by simpa [dstOk] using hd
    have h2 := h.new (d := d) (x := x) (c := c) hfr (by have := h.ntle; omega) hown
    refine ⟨F, upd m d (some w.heap.size, c), ?_⟩
    have := h2.put (d := some d) hrep hd
    simpa [St.eff, newO, hn, hns] using this

theorem want_ok (h : InvP B w0 F0 nt s a w F m) {ops : Array Oper} {o : Oper} {g : Option (Nat × Bool)} (hg : trGuard ops nt o.guard = some g) {b : Bool} (hw : s.want g = some b) : Region.wanted o (yielded ops a.tmps) = b := by
  unfold trGuard at hg
  split at hg
  · rename_i e
    cases hg
    simp only [St.want] at hw
    cases hw
    simp [Region.wanted, e]
  · rename_i j want e
    simp only [Option.bind_eq_some_iff] at hg
    obtain ⟨t, ⟨oj, hj, hdst⟩, hg⟩ := hg
    split at hg
    · rename_i hlt
      cases hg
      simp only [St.want] at hw
      split at hw
      · rename_i v hc
        cases hw
        have h1 := h.tmps t hlt
        rw [hc] at h1
        have h2 := Rep.v_inv h1
        have h3 : a.tmps[t]? = some v := by
          rw [Array.getD_eq_getD_getElem?] at h2
          cases hh : a.tmps[t]? with
          | none => rw [Array.getElem?_eq_none_iff, h.size] at hh; exact absurd hlt (Nat.not_lt.2 hh)
          | some z => rw [hh] at h2; simpa using h2
        simp only [Region.wanted, e, yielded, hj, hdst, Option.bind_some, h3]
        cases v <;> rfl
      · cases hw
    · cases hg

theorem trOp_inv {ops : Array Oper} {o : Oper} {r : RG} (h : trOp P nt ops o = some r) : ∃ xs, trKd P o.op = some (r.k, xs) ∧ mapO (trOpd nt) xs = some r.a ∧ trGuard ops nt o.guard = some r.g ∧ o.dst = r.d ∧ dstOk nt r.d = true := by
  simp only [trOp, Option.bind_eq_some_iff] at h
  obtain ⟨⟨k, xs⟩, hk, as, has, g, hg, h⟩ := h
  split at h
  · rename_i hd
    cases h
    exact ⟨xs, hk, has, hg, rfl, hd⟩
  · cases h

theorem trKd_call {op : Op} {f : FuncId} {xs : List Operand} (h : trKd P op = some (.call f, xs)) : ∃ args ats, op = .call { callee := .value (.func f), args, argTypes := ats } ∧ xs = args.toList := by
  cases op
  case call c =>
    obtain ⟨callee, args, ats⟩ := c
    cases callee with
    | value fo =>
      cases fo <;> simp only [trKd] at h <;> first | (cases h; done) | skip
      split at h <;> cases h
      exact ⟨args, ats, rfl, rfl⟩
    | invoke _ _ => cases h
    | builtin b => cases b <;> simp only [trKd] at h <;> first | (cases h; done) | (repeat' (split at h)) <;> cases h
  all_goals (simp only [trKd] at h; (repeat' (split at h)) <;> simp_all [Option.bind_eq_some_iff, Option.map_eq_some_iff])
theorem trKd_callv {op : Op} {xs : List Operand} (h : trKd P op = some (.callv, xs)) : ∃ x args ats, op = .call { callee := .value x, args, argTypes := ats } ∧ xs = x :: args.toList := by
  cases op
  case call c =>
    obtain ⟨callee, args, ats⟩ := c
    cases callee with
    | value fo =>
      cases fo <;> simp only [trKd] at h
      case func => split at h <;> cases h
      all_goals (cases h; exact ⟨_, args, ats, rfl, rfl⟩)
    | invoke _ _ => cases h
    | builtin b => cases b <;> simp only [trKd] at h <;> first | (cases h; done) | (repeat' (split at h)) <;> cases h
  all_goals (simp only [trKd] at h; (repeat' (split at h)) <;> simp_all [Option.bind_eq_some_iff, Option.map_eq_some_iff])

/-- The operation, once it is known that it is to be carried out. -/
def Does (P : Program) (ops : Array Oper) (o : Oper) (a : Act) (w : World) (Inv' : Act → World → Prop) : Prop :=
  ∀ (K : Act → World → Prop) (Q : Exit → Act → World → Prop), (∀ a' w', Inv' a' w' → K a' w') → if Region.wanted o (yielded ops a.tmps) = true then o.wp P a w K Q else K (a.put o.dst undef) w

theorem does_skip (h : Inv B w0 F0 nt s a w) {ops : Array Oper} {o : Oper} {r : RG} (ht : trOp P nt ops o = some r) (hw : s.want r.g = some false) : Does P ops o a w (Inv B w0 F0 nt ⟨putT s.t r.d (.p (.v undef)), s.o⟩) := by
  intro K Q hK
  obtain ⟨xs, _, _, hg, ho, hd⟩ := trOp_inv ht
  obtain ⟨F, m, h⟩ := h
  rw [want_ok h hg hw, if_neg (by simp), ho]
  exact hK _ _ ⟨F, m, h.put (Rep.v undef) hd⟩

theorem ret_call {f : FuncId} {ps : List PV} {r : PV} (hret : Ret P f ps r) {ys : List Value} (hfin : FzIn w F) (hrep : RepL F ps ys) (h : InvP B w0 F0 nt s a w F m) {dst : Option Nat} (hd : dstOk nt dst = true) {o : Oper} (ho : o.dst = dst) {K : Act → World → Prop} {Q : Exit → Act → World → Prop}
    (hK : ∀ a' w', Inv B w0 F0 nt ⟨putT s.t dst (.p r), s.o⟩ a' w' → K a' w') {x : Sem Next} (hx : x.run P w = (callFunc f ys.toArray).run P w) : o.upon P a K Q (x.run P w) := by
  rw [hx, hret.1, Oper.upon_enter]
  refine (hret.2 w F ys hfin hrep).mono fun e w' he => ?_
  obtain ⟨v, F', rfl, h1, h2, h3, h4⟩ := he
  have := (h.world h4 h3 h2).put (d := dst) (t := .p r) h1 hd
  exact hK _ _ ⟨F', m, by rw [ho]; exact this⟩

theorem does_plain (h : Inv B w0 F0 nt s a w) {ops : Array Oper} {o : Oper} {r : RG} (ht : trOp P nt ops o = some r) {as : List RA} {e : Eff} (hk : r.k.solo = false) (hw : s.want r.g = some true) (ha : s.resL r.a = some as)
    (he : SemA P r.k (r.d.getD 0) as e) (hn : e.new.isSome = true → ∃ d, r.d = some d ∧ s.fresh d) : Does P ops o a w (Inv B w0 F0 nt (s.eff r.d e)) := by
  intro K Q hK
  obtain ⟨xs, hkd, hxs, hg, ho, hd⟩ := trOp_inv ht
  obtain ⟨F, m, h⟩ := h
  rw [want_ok h hg hw, if_pos rfl]
  obtain ⟨F', h', hle, hfil⟩ := h.frz e.frz
  have hargs := h'.args hfil hxs ha
  have hB : B ≤ w.heap.size := h'.hB
  unfold Oper.wp
  have plain : sem r.k (r.d.getD 0) as = some e → o.upon P a K Q ((execOp a.eval o).run P w) := fun he => good_inv h' rfl hd hn (exec_good hkd hB h'.fin hargs he (fun n hn => hn)) ho hK
  have hcallK : ∀ rv, e.v = .p rv → e.new = none → ∀ a' w', Inv B w0 F0 nt ⟨putT s.t r.d (.p rv), frzO s.o e.frz⟩ a' w' → K a' w' := fun rv hv hn a' w' hi => hK a' w' (by simpa [St.eff, newO, hv, hn] using hi)
  cases hkk : r.k <;> rw [hkk] at he hk <;> first | (exact plain (by rw [hkk]; exact he)) | (simp [Kd.solo] at hk; done) | skip
  case call f =>
    obtain ⟨ps, rv, hps, hret, rfl⟩ := he
    have hrep := hargs.pvs (fun n hn => hn) hps
    rw [hkk] at hkd
    obtain ⟨⟨args⟩, ats, hop, rfl⟩ := trKd_call hkd
    refine ret_call hret h'.fin hrep h' hd ho (hcallK rv rfl rfl) ?_
    unfold execOp
    rw [hop]
    simp [resolve, invoke, Deferred.ofValue, Act.eval]
  case callv =>
    obtain ⟨f, caps, rest, ps, rv, rfl, hps, hret, rfl⟩ := he
    rw [hkk] at hkd
    obtain ⟨x, ⟨args⟩, ats, hop, rfl⟩ := trKd_callv hkd
    obtain ⟨h1, h2⟩ := hargs
    have hrep := h2.pvs (fun n hn => by simpa [frzs, RA.frz] using hn) hps
    obtain ⟨ys, hv, hcaps⟩ := Rep.clo_inv h1
    refine ret_call hret h'.fin (hrep.append hcaps) h' hd ho (hcallK rv rfl rfl) ?_
    unfold execOp
    rw [hop]
    simp [resolve, invoke, Deferred.ofValue, hv]
end
end Go.Fw
