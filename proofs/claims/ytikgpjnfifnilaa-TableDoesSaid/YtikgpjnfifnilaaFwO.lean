/-
  One operation of the model goes with one step of the abstract machine: maps; then: one step, sound.
-/
import Derived.Test.YtikgpjnfifnilaaFwN
set_option linter.unusedVariables false
set_option linter.unusedSimpArgs false
namespace Go.Fw
open Go.RowKit

section
variable {P : Program} {B nt : Nat} {w0 : World} {F0 : Fz} {s s' : St} {a : Act} {w : World} {F : Fz} {m : Mp}

theorem trKd_mset {op : Op} {kt et : Nat} {xs : List Operand} (h : trKd P op = some (.mset kt et, xs)) : ∃ t x y z, op = .mapUpdate t x y z ∧ xs = [x, y, z] ∧ P.underlying t = some (.map kt et) ∧ P.underlying kt = some .string := by
  cases op
  case call c =>
    obtain ⟨callee, args, ats⟩ := c
    cases callee with
    | value fo =>
      cases fo <;> simp only [trKd] at h
      case func => split at h <;> cases h
      all_goals (cases h)
    | invoke _ _ => cases h
    | builtin b => cases b <;> simp only [trKd] at h <;> first | (cases h; done) | (repeat' (split at h)) <;> cases h
  case mapUpdate t x y z =>
    simp only [trKd] at h
    split at h
    · rename_i k e hu
      split at h
      · rename_i hk
        cases h
        exact ⟨t, x, y, z, rfl, rfl, hu, hk⟩
      · cases h
    · cases h
  all_goals (simp only [trKd] at h; (repeat' (split at h)) <;> simp_all [Option.bind_eq_some_iff, Option.map_eq_some_iff])

theorem trKd_mdel {op : Op} {kt : Nat} {xs : List Operand} (h : trKd P op = some (.mdel kt, xs)) : ∃ t t' et x y, op = .call { callee := .builtin .delete, args := #[x, y], argTypes := #[t, t'] } ∧ xs = [x, y] ∧ P.underlying t = some (.map kt et) ∧ P.underlying kt = some .string := by
  cases op
  case call c =>
    obtain ⟨callee, ⟨args⟩, ⟨ats⟩⟩ := c
    cases callee with
    | value fo =>
      cases fo <;> simp only [trKd] at h
      case func => split at h <;> cases h
      all_goals (cases h)
    | invoke _ _ => cases h
    | builtin b =>
      cases b
      case delete =>
        simp only [trKd] at h
        split at h
        · rename_i x y t t'
          split at h
          · rename_i k e hu
            split at h
            · rename_i hk
              cases h
              exact ⟨t, t', e, x, y, rfl, rfl, hu, hk⟩
            · cases h
          · cases h
        · cases h
      all_goals (simp only [trKd] at h; first | (cases h; done) | (repeat' (split at h)) <;> cases h)
  all_goals (simp only [trKd] at h; (repeat' (split at h)) <;> simp_all [Option.bind_eq_some_iff, Option.map_eq_some_iff])

theorem opd3 {x y z : Opd} {xo yo zo : Operand} (hxs : mapO (trOpd nt) [xo, yo, zo] = some [x, y, z]) : trOpd nt xo = some x ∧ trOpd nt yo = some y ∧ trOpd nt zo = some z := by
  simp only [mapO, Option.bind_eq_some_iff, Option.map_eq_some_iff] at hxs
  obtain ⟨a1, h1, l, ⟨a2, h2, l2, ⟨a3, h3, l3, h4, rfl⟩, rfl⟩, h5⟩ := hxs
  cases h4; cases h5
  exact ⟨h1, h2, h3⟩

theorem FzIn.setMap (h : FzIn w F) {b : Nat} {ents : Array MapEntry} {c : Nat} (hb : w.heap[b]? = some (.map ents c)) {w1 : World} (hw : ∀ k, k ≠ b → w1.heap[k]? = w.heap[k]?) : FzIn w1 F := fun b' o y e => by
  have h1 := h b' o y e
  by_cases e' : b' = b
  · subst e'; simp [World.cell?, hb] at h1
  · exact (World.cell?_of_block (hw b' e')).trans h1

theorem run_setMap {b : Nat} {ents : Array MapEntry} {c : Nat} (hb : w.heap[b]? = some (.map ents c)) (o : Obj) : (setObj b o).run P w = .ok () { w with heap := w.heap.setIfInBounds b o } := by simp [setObj, Sem.run, hb]

/-- A map of the call's own has turned. -/
theorem InvP.setMap (h : InvP B w0 F0 nt s a w F m) {n b : Nat} {kt et : Nat} {es es' : List (ByteArray × PV)} (hon : s.o n = some (.mp kt et es)) (hb : (m n).1 = some b) {ents ents' : Array MapEntry} {c c' : Nat} (g3 : w.heap[b]? = some (.map ents c))
    (hclock : ∀ e ∈ ents'.toList, e.born < c') (hsz : ents'.size = es'.length) (hrep : ∀ (j : Nat) (k : ByteArray) (p : PV) (e : MapEntry), es'[j]? = some (k, p) → ents'[j]? = some e → e.key = .string k ∧ Rep F p e.val) :
    InvP B w0 F0 nt ⟨s.t, upd s.o n (some (.mp kt et es'))⟩ a { w with heap := w.heap.setIfInBounds b (.map ents' c') } F m := by
  have hbl : b < w.heap.size := (Array.getElem?_eq_some_iff.1 g3).1
  have hoth : ∀ k, k ≠ b → (w.heap.setIfInBounds b (.map ents' c'))[k]? = w.heap[k]? := fun k hk => by simp [Array.getElem?_setIfInBounds, Ne.symm hk]
  have hB : B ≤ b := ((h.own n _ hon).lt hb).1
  exact h.write hon hb rfl rfl rfl (by simp) hoth (h.fin.setMap g3 hoth) ⟨b, ents', c', hb, hB, by simp [hbl], hclock, hsz, hrep⟩

theorem does_mset (h : Inv B w0 F0 nt s a w) {ops : Array Oper} {o : Oper} {r : RG} (ht : trOp P nt ops o = some r) {kt et n : Nat} {x y z : Opd} {ra : RA} {k : ByteArray} {p : PV} {es : List (ByteArray × PV)} (hk : r.k = .mset kt et) (hd : r.d = none) (hw : s.want r.g = some true) (ha : r.a = [x, y, z])
      (hx : s.ev x = .mp n) (ho : s.o n = some (.mp kt et es)) (hy : s.ev y = .p (.v (.string k))) (hz : s.res z = some ra) (hp : ra.pv = some p) (hn : n ∉ ra.frz) :
      Does P ops o a w (Inv B w0 F0 nt ⟨s.t, upd (frzO s.o ra.frz) n (some (.mp kt et (mput k p es)))⟩) := by
  intro K Q hK
  obtain ⟨xs', hkd, hxs, hg, hdst, hdo⟩ := trOp_inv ht
  rw [hk] at hkd
  obtain ⟨t, xo, yo, zo, hop, rfl, hu, hku⟩ := trKd_mset hkd
  rw [ha] at hxs
  obtain ⟨hxo, hyo, hzo⟩ := opd3 hxs
  obtain ⟨F, m, h⟩ := h
  rw [want_ok h hg hw, if_pos rfl]
  obtain ⟨F', h', hle, hfil⟩ := h.frz ra.frz
  have hrep := argPv h' hfil hzo hz rfl hp
  have hxv : RepT F' m (s.ev x) (a.eval xo) := by have := trOpd_rep (s := ⟨s.t, frzO s.o ra.frz⟩) h' hxo; cases x <;> exact this
  have hyv : RepT F' m (s.ev y) (a.eval yo) := by have := trOpd_rep (s := ⟨s.t, frzO s.o ra.frz⟩) h' hyo; cases y <;> exact this
  rw [hx] at hxv
  rw [hy] at hyv
  obtain ⟨b, hb, hxe⟩ := hxv
  have hye : a.eval yo = .string k := Rep.v_inv hyv
  have hon : (frzO s.o ra.frz) n = some (.mp kt et es) := by simp [frzO, hn, ho]
  obtain ⟨b', ents, c, g1, g2, g3, g4, g5, g6⟩ := h'.own n _ hon
  rw [hb] at g1; cases g1
  have hget : (getObj b).run P w = .ok (.map ents c) w := by simp [getObj, Sem.run, g3]
  have hbl : b < w.heap.size := (Array.getElem?_eq_some_iff.1 g3).1
  unfold Oper.wp execOp
  rw [hop]
  rcases findNow_str k ents.toList es 0 (by simpa using g5) (fun j q p e h1 h2 => g6 j q p e h1 (by simpa using h2)) with ⟨j, e', p', q1, q2, q3, q4, q5, q6⟩ | ⟨q1, q2, q3, q4⟩
  · have hkey : e'.key = .string k := (g6 j k p' e' q3 (by simpa using q2)).1
    have q2' : ents[j]? = some e' := by simpa using q2
    have hkk : (k == k) = true := by rw [beq_toListBytes]; simp
    have hrun : (Instr.mapUpdate t (.map (some b)) (.string k) (a.eval zo)).run P w = .ok () { w with heap := w.heap.setIfInBounds b (.map (ents.modify j fun e => { e with key := .string k, val := a.eval zo }) c) } := by
      simp [Instr.mapUpdate, run_underlying hu, hget, checkKey_str hku, Instr.findKey, run_underlying hku, q1, q2', hkey, Instr.keyThatStays, Instr.sameBits, hkk, run_setMap g3]
    simp only [hxe, hye, Sem.run_bind, hrun, Result.andThen_ok, Sem.run_pure, Oper.upon_skip, hdst, hd, Act.put]
    refine hK _ _ ⟨F', m, h'.setMap hon hb g3 (fun e he => ?_) (by rw [q5]; simpa using g5) (fun i k' p2 e h1 h2 => ?_)⟩
    · obtain ⟨i, hi, he⟩ := List.mem_iff_getElem.1 he
      simp only [Array.getElem_toList, Array.getElem_modify] at he
      simp only [Array.length_toList, Array.size_modify] at hi
      have hin : ents[i] ∈ ents.toList := by simp
      have hbn := g4 _ hin
      split at he
      · rw [← he]; exact hbn
      · rw [← he]; exact hbn
    · rw [q5, List.getElem?_set] at h1
      rw [Array.getElem?_modify] at h2
      by_cases e1 : j = i
      · subst e1
        simp only [if_true, q2', Option.map_some, Option.some.injEq] at h2
        have hjl : j < es.length := (List.getElem?_eq_some_iff.1 q3).1
        rw [if_pos rfl, if_pos hjl] at h1
        cases h1; subst h2; exact ⟨rfl, hrep⟩
      · rw [if_neg e1] at h1 h2
        exact g6 i k' p2 e h1 h2
  · have hrun : (Instr.mapUpdate t (.map (some b)) (.string k) (a.eval zo)).run P w = .ok () { w with heap := w.heap.setIfInBounds b (.map (ents.push { key := .string k, val := a.eval zo, born := c }) (c + 1)) } := by
      simp [Instr.mapUpdate, run_underlying hu, hget, checkKey_str hku, Instr.findKey, run_underlying hku, q1, run_setMap g3]
    simp only [hxe, hye, Sem.run_bind, hrun, Result.andThen_ok, Sem.run_pure, Oper.upon_skip, hdst, hd, Act.put]
    refine hK _ _ ⟨F', m, h'.setMap hon hb g3 (fun e he => ?_) (by rw [q3]; simp [g5]) (fun i k' p2 e h1 h2 => ?_)⟩
    · simp only [Array.toList_push, List.mem_append, List.mem_singleton] at he
      rcases he with he | rfl
      · have := g4 e he; omega
      · simp
    · rw [q3] at h1
      rw [Array.getElem?_push] at h2
      by_cases e1 : i = ents.size
      · rw [if_pos e1] at h2
        rw [e1, g5] at h1
        simp only [Option.some.injEq] at h2
        rw [List.getElem?_append_right (by omega)] at h1
        simp at h1
        subst h2
        obtain ⟨rfl, rfl⟩ := h1
        exact ⟨rfl, hrep⟩
      · rw [if_neg e1] at h2
        have hi : i < ents.size := (Array.getElem?_eq_some_iff.1 h2).1
        rw [List.getElem?_append_left (by omega)] at h1
        exact g6 i k' p2 e h1 h2

theorem does_mdel (h : Inv B w0 F0 nt s a w) {ops : Array Oper} {o : Oper} {r : RG} (ht : trOp P nt ops o = some r) {kt et n : Nat} {x y : Opd} {k : ByteArray} {es : List (ByteArray × PV)} (hk : r.k = .mdel kt) (hd : r.d = none) (hw : s.want r.g = some true) (ha : r.a = [x, y])
      (hx : s.ev x = .mp n) (ho : s.o n = some (.mp kt et es)) (hy : s.ev y = .p (.v (.string k))) :
      Does P ops o a w (Inv B w0 F0 nt ⟨s.t, upd s.o n (some (.mp kt et (mcut k es)))⟩) := by
  intro K Q hK
  obtain ⟨xs', hkd, hxs, hg, hdst, hdo⟩ := trOp_inv ht
  rw [hk] at hkd
  obtain ⟨t, t', et', xo, yo, hop, rfl, hu, hku⟩ := trKd_mdel hkd
  rw [ha] at hxs
  obtain ⟨hxo, hyo⟩ := opd2 hxs
  obtain ⟨F, m, h⟩ := h
  rw [want_ok h hg hw, if_pos rfl]
  have hxv : RepT F m (s.ev x) (a.eval xo) := trOpd_rep h hxo
  have hyv : RepT F m (s.ev y) (a.eval yo) := trOpd_rep h hyo
  rw [hx] at hxv
  rw [hy] at hyv
  obtain ⟨b, hb, hxe⟩ := hxv
  have hye : a.eval yo = .string k := Rep.v_inv hyv
  obtain ⟨b', ents, c, g1, g2, g3, g4, g5, g6⟩ := h.own n _ ho
  rw [hb] at g1; cases g1
  have hget : (getObj b).run P w = .ok (.map ents c) w := by simp [getObj, Sem.run, g3]
  unfold Oper.wp execOp
  rw [hop]
  rcases findNow_str k ents.toList es 0 (by simpa using g5) (fun j q p e h1 h2 => g6 j q p e h1 (by simpa using h2)) with ⟨j, e', p', q1, q2, q3, q4, q5, q6⟩ | ⟨q1, q2, q3, q4⟩
  · have hjl : j < ents.size := by have := (List.getElem?_eq_some_iff.1 q2).1; simpa using this
    have hrun : (Builtin.delete_ #[t, t'] o.type #[.map (some b), .string k]).run P w = .ok (.tuple #[]) { w with heap := w.heap.setIfInBounds b (.map (ents.eraseIdxIfInBounds j) c) } := by
      simp [Builtin.delete_, run_underlying hu, hget, checkKey_str hku, Instr.findKey, run_underlying hku, q1, run_setMap g3]
    simp only [resolve, invoke, builtin, List.map_toArray, List.map_cons, List.map_nil, hxe, hye, Sem.run_bind, hrun, Result.andThen_ok, Sem.run_pure, Oper.upon_value, hdst, hd, Act.put]
    have hlist : (ents.eraseIdxIfInBounds j).toList = ents.toList.eraseIdx j := by
      unfold Array.eraseIdxIfInBounds
      rw [dif_pos hjl]; simp
    refine hK _ _ ⟨F, m, h.setMap ho hb g3 (fun e he => ?_) ?_ (fun i k' p2 e h1 h2 => ?_)⟩
    · rw [hlist] at he; exact g4 e (List.mem_of_mem_eraseIdx he)
    · rw [← Array.length_toList, hlist, q6, List.length_eraseIdx, List.length_eraseIdx]
      simp [g5]
    · rw [← Array.getElem?_toList, hlist, List.getElem?_eraseIdx] at h2
      rw [q6, List.getElem?_eraseIdx] at h1
      split at h1
      · rename_i e1; rw [if_pos e1] at h2; exact g6 i k' p2 e h1 (by simpa using h2)
      · rename_i e1; rw [if_neg e1] at h2; exact g6 _ k' p2 e h1 (by simpa using h2)
  · have hrun : (Builtin.delete_ #[t, t'] o.type #[.map (some b), .string k]).run P w = .ok (.tuple #[]) { w with heap := w.heap.setIfInBounds b (.map ents c) } := by
      simp [Builtin.delete_, run_underlying hu, hget, checkKey_str hku, Instr.findKey, run_underlying hku, q1, run_setMap g3]
    simp only [resolve, invoke, builtin, List.map_toArray, List.map_cons, List.map_nil, hxe, hye, Sem.run_bind, hrun, Result.andThen_ok, Sem.run_pure, Oper.upon_value, hdst, hd, Act.put]
    exact hK _ _ ⟨F, m, h.setMap ho hb g3 g4 (by rw [q4]; exact g5) (by rw [q4]; exact g6)⟩

/-- A row has turned, or one is new; what is frozen may have grown in new memory. -/
theorem InvP.grow2 (h : InvP B w0 F0 nt s a w F m) {row : Option Nat} {w1 : World} {F1 : Fz} (hg : w.grownBy w1 row) (hF : FzOn w.heap.size F F1) (hrow : ∀ k, row = some k → k = B ∨ w0.heap.size ≤ k) {t' : Nat → T} (ht' : ∀ k, t' k = s.t k ∨ t' k = .p .any) {o' : Nat → Option Own}
    (ho' : ∀ k x, o' k = some x → s.o k = some x ∧ ∀ b, (m k).1 = some b → row ≠ some b) (hfin : FzIn w1 F1) {d : Nat} (hdn : d < nt) (hd : ∀ k, (t' k).name ≠ some d) {mo : Option Nat} {c : Nat} (hmo : ∀ b, mo = some b → row = some b ∨ w.heap.size ≤ b) {x : Own} (hx : OwnOk F1 w1 B (mo, c) x) :
    InvP B w0 F0 nt ⟨t', upd o' d (some x)⟩ a w1 F1 (upd m d (mo, c)) := by
  have hB : B ≤ w.heap.size := h.hB
  have hb1 : BelowX B w0 w1 := ⟨hg.os.trans h.below.os, hg.tape.trans h.below.tape, hg.output.trans h.below.output, Nat.le_trans h.below.size hg.size, fun k hk hne => (hg.block k (Nat.lt_of_lt_of_le hk h.below.size) fun e => by rcases hrow k e.symm with e' | e' <;> omega).trans (h.below.block k hk hne)⟩
  refine ⟨h.defers, h.size, hb1, h.base, h.on.trans hF hB, hfin, fun k hk => ?_, fun n y hy => ?_, fun n n' b hn hn' hb hb' => ?_, fun n b hn hb => ?_, by rw [upd_ne _ _ (by have := h.ntle; omega)]; exact h.mfix, h.ntle⟩
  · rcases ht' k with e | e
    · exact RepT.upd (by simp only [e]; exact (h.tmps k hk).mono hF.le) (hd k) _
    · simp only [e]; exact Rep.any _
  · by_cases e : n = d
    · subst e
      simp only [Fw.upd, if_true] at hy
      cases hy
      simpa [Fw.upd] using hx
    · simp only [Fw.upd, e, if_false] at hy ⊢
      obtain ⟨h1, h2⟩ := ho' n y hy
      exact (h.own n y h1).keep (fun b hb => hg.block b ((h.own n y h1).lt hb).2 (fun e => h2 b hb e.symm)) hF.le fun b hb o => hF.old b o ((h.own n y h1).lt hb).2
  · have old : ∀ q b, q ≠ d → (upd o' d (some x) q).isSome = true → (upd m d (mo, c) q).1 = some b → (s.o q).isSome = true ∧ (m q).1 = some b ∧ row ≠ some b ∧ b < w.heap.size := fun q b e h1 h2 => by
      simp only [Fw.upd, e, if_false] at h1 h2
      obtain ⟨y, hy⟩ := Option.isSome_iff_exists.1 h1
      obtain ⟨k1, k2⟩ := ho' q y hy
      exact ⟨by simp [k1], h2, k2 b h2, ((h.own q y k1).lt h2).2⟩
    by_cases e : n = d <;> by_cases e' : n' = d
    · rw [e, e']
    · obtain ⟨_, _, k3, k4⟩ := old n' b e' hn' hb'
      subst e
      simp only [Fw.upd, if_true] at hb
      rcases hmo b hb with k | k
      · exact absurd k k3
      · omega
    · obtain ⟨_, _, k3, k4⟩ := old n b e hn hb
      subst e'
      simp only [Fw.upd, if_true] at hb'
      rcases hmo b hb' with k | k
      · exact absurd k k3
      · omega
    · obtain ⟨k1, k2, _, _⟩ := old n b e hn hb
      obtain ⟨l1, l2, _, _⟩ := old n' b e' hn' hb'
      exact h.inj n n' b k1 l1 k2 l2
  · by_cases e : n = d
    · subst e
      simp only [Fw.upd, if_true] at hb
      rcases hmo b hb with k | k
      · exact hrow b k
      · exact .inr (Nat.le_trans h.below.size k)
    · simp only [Fw.upd, e, if_false] at hn hb
      obtain ⟨y, hy⟩ := Option.isSome_iff_exists.1 hn
      exact h.ownL n b (by simp [(ho' n y hy).1]) hb

theorem RowIs.ownOk {F : Fz} {w : World} {B ty es : Nat} {v : Value} {xs : List (List PV)} {us : List Value} (h : RowIs F w B ty es v xs us) : OwnOk F w B (v.ownBlock, capOf v) (.row ty es xs false) := by
  have hv := ownBlock_none h.own
  refine ⟨h.len, us, by rw [← hv]; exact h.own, h.rep, h.one, h.nil, fun b hb => ⟨fun o y e => ?_, fun _ => h.free b hb⟩⟩
  have := h.free b hb o
  rw [this] at e; cases e
theorem RowIs.weaken {F : Fz} {w : World} {B B' ty es : Nat} {v : Value} {xs : List (List PV)} {us : List Value} (h : RowIs F w B ty es v xs us) (hB : B' ≤ B) : RowIs F w B' ty es v xs us := by
  refine ⟨⟨h.own.1, ?_⟩, h.rep, h.one, h.len, h.nil, h.free⟩
  rcases h.own.2 with h2 | ⟨g, cap, cur, h1, h2, r⟩
  · exact .inl h2
  · exact .inr ⟨g, cap, cur, h1, by omega, r⟩
theorem RowIs.ge {F : Fz} {w : World} {B ty es : Nat} {v : Value} {xs : List (List PV)} {us : List Value} (h : RowIs F w B ty es v xs us) {b : Nat} (hb : v.ownBlock = some b) : B ≤ b ∧ b < w.heap.size := h.own.lt b hb
/-- A row of the call's own, as a contract asks it. -/
theorem OwnOk.rowIs {F : Fz} {w : World} {B ty es : Nat} {m : Option Nat × Nat} {xs : List (List PV)} (h : OwnOk F w B m (.row ty es xs false)) : ∃ us, RowIs F w B ty es (rowVal m xs.length) xs us := by
  obtain ⟨g1, ys, g2, g3, g4, g5, g6⟩ := h
  have hob : (rowVal m xs.length).ownBlock = m.1 := by unfold rowVal; cases e : m.1 <;> simp [Value.ownBlock]
  exact ⟨ys, g2, g3, g4, g1, fun e => g5 (by rw [← hob]; exact e), fun b hb => (g6 b (by rw [← hob]; exact hb)).2 rfl⟩

theorem grownBy_none {w w' : World} (h : Below w.heap.size w w') : w.grownBy w' none := ⟨h.os, h.tape, h.output, h.size, fun k hk _ => h.block k hk⟩

theorem does_calln (h : Inv B w0 F0 nt s a w) {ops : Array Oper} {o : Oper} {r : RG} (ht : trOp P nt ops o = some r.base) {f d : Nat} {as : List RA} {ps : List PV} {ty es : Nat} {zs : List (List PV)} (hk : r.k = .calln f) (hd : r.d = some d) (hw : s.want r.g = some true) (ha : s.resL r.a = some as) (hp : pvs as = some ps)
      (hret : RetN P f ps ty es zs) (hf : s.fresh d) : Does P ops o a w (Inv B w0 F0 nt ⟨upd s.t d (.row d zs.length), upd (frzO s.o (frzs as)) d (some (.row ty es zs false))⟩) := by
  intro K Q hK
  obtain ⟨xs, hkd, hxs, hg, ho, hdo⟩ := trOp_inv ht
  simp only [RG.base] at hkd hxs hg ho hdo
  obtain ⟨F, m, h⟩ := h
  rw [want_ok h hg hw, if_pos rfl]
  obtain ⟨F', h', hle, hfil⟩ := h.frz (frzs as)
  have hrep := (h'.args hfil hxs ha).pvs (fun n hn => hn) hp
  have hB : B ≤ w.heap.size := h'.hB
  rw [hk] at hkd
  obtain ⟨⟨args⟩, ats, hop, rfl⟩ := trKd_call hkd
  unfold Oper.wp execOp
  rw [hop]
  have key : ∀ {x : Sem Next}, x.run P w = (callFunc f (xs.map a.eval).toArray).run P w → o.upon P a K Q (x.run P w) := by
    intro x hx
    rw [hx, hret.1, Oper.upon_enter]
    refine (hret.2 w F' _ h'.fin hrep).mono fun e w' he => ?_
    obtain ⟨v, F1, us, rfl, h1, h2, h3, h4⟩ := he
    have hh := h'.grow2 (t' := s.t) (o' := frzO s.o (frzs as)) (d := d) (grownBy_none h4) h3 (by simp) (fun k => .inl rfl) (fun k x hx => ⟨hx, fun b _ => by simp⟩) h2 (by rw [hd] at hdo; simpa [dstOk] using hdo) hf (fun b hb => .inr (h1.ge hb).1) (h1.weaken hB).ownOk
    rw [ho, hd]
    refine hK _ _ ⟨F1, _, hh.put (d := some d) (t := .row d zs.length) ?_ (by rw [← hd]; exact hdo)⟩
    refine ⟨?_, ?_⟩
    · simp only [upd_same]; exact ownBlock_none h1.own
    · simp only [upd_same]; exact fun e => by rw [h1.nil e]; rfl
  refine key ?_
  simp [resolve, invoke, Deferred.ofValue, Act.eval]

theorem does_calli (h : Inv B w0 F0 nt s a w) {ops : Array Oper} {o : Oper} {r : RG} (ht : trOp P nt ops o = some r.base) {f d n : Nat} {x : Opd} {ys : List Opd} {as : List RA} {ps : List PV} {ty es : Nat} {xs zs : List (List PV)} (hk : r.k = .calli f) (hd : r.d = some d) (hw : s.want r.g = some true) (ha : r.a = x :: ys)
      (hx : s.ev x = .row n xs.length) (hon : s.o n = some (.row ty es xs false)) (hy : s.resL ys = some as) (hp : pvs as = some ps) (hn : n ∉ frzs as) (hret : RetI P f ty es xs ps zs) (hf : d ≠ n → s.fresh d) :
      Does P ops o a w (Inv B w0 F0 nt ⟨upd (killT s.t n) d (.row d zs.length), upd (upd (frzO s.o (frzs as)) n none) d (some (.row ty es zs false))⟩) := by
  intro K Q hK
  obtain ⟨os, hkd, hxs, hg, ho, hdo⟩ := trOp_inv ht
  simp only [RG.base] at hkd hxs hg ho hdo
  obtain ⟨F, m, h⟩ := h
  rw [want_ok h hg hw, if_pos rfl]
  obtain ⟨F', h', hle, hfil⟩ := h.frz (frzs as)
  have hB : B ≤ w.heap.size := h'.hB
  rw [hk] at hkd
  obtain ⟨⟨args⟩, ats, hop, rfl⟩ := trKd_call hkd
  cases os with
  | nil => rw [ha] at hxs; simp [mapO] at hxs
  | cons xo yos =>
    rw [ha] at hxs
    simp only [mapO, Option.bind_eq_some_iff, Option.map_eq_some_iff] at hxs
    obtain ⟨x', hxo, ys', hyo, he⟩ := hxs
    cases he
    have hrep := (h'.args hfil hyo hy).pvs (fun n hn => hn) hp
    have hxv : RepT F' m (s.ev x) (a.eval xo) := by have := trOpd_rep (s := ⟨s.t, frzO s.o (frzs as)⟩) h' hxo; cases x <;> exact this
    rw [hx] at hxv
    have hx0 : a.eval xo = rowVal (m n) xs.length := hxv.1
    have hon' : (frzO s.o (frzs as)) n = some (.row ty es xs false) := by simp [frzO, hn, hon]
    have hok := h'.own n _ hon'
    have hlt : ∀ b, (m n).1 = some b → b = B ∨ w0.heap.size ≤ b := fun b hb => h'.ownL n b (by simp [hon']) hb
    obtain ⟨us, hri⟩ := hok.rowIs
    have hob : (rowVal (m n) xs.length).ownBlock = (m n).1 := by unfold rowVal; cases e : (m n).1 <;> simp [Value.ownBlock]
    unfold Oper.wp execOp
    rw [hop]
    have key : ∀ {z : Sem Next}, z.run P w = (callFunc f (rowVal (m n) xs.length :: yos.map a.eval).toArray).run P w → o.upon P a K Q (z.run P w) := by
      intro z hz
      rw [hz, hret.1, Oper.upon_enter]
      refine (hret.2 w F' B _ us _ h'.fin hrep hB hri).mono fun e w' he => ?_
      obtain ⟨v, us', rfl, h1, h2, h3, h4⟩ := he
      rw [hob] at h2 h4
      have hfr : ∀ k, (killT s.t n k).name ≠ some d := fun k => by
        unfold killT
        split
        · simp [T.name]
        · rename_i e
          by_cases e' : d = n
          · subst e'; exact e
          · exact hf e' k
      have hh := h'.grow2 (t' := killT s.t n) (o' := upd (frzO s.o (frzs as)) n none) (d := d) h4 (FzOn.refl _ _) hlt (fun k => by unfold killT; split; exact .inr rfl; exact .inl rfl)
        (fun k x hx => by
          by_cases e : k = n
          · subst e; simp [Fw.upd] at hx
          · simp only [Fw.upd, e, if_false] at hx
            refine ⟨hx, fun b hb eb => ?_⟩
            exact e (h'.inj k n b (by simp [hx]) (by simp [hon']) hb eb)) h3 (by rw [hd] at hdo; simpa [dstOk] using hdo) hfr h2 h1.ownOk
      rw [ho, hd]
      refine hK _ _ ⟨F', _, hh.put (d := some d) (t := .row d zs.length) ?_ (by rw [← hd]; exact hdo)⟩
      refine ⟨?_, ?_⟩
      · simp only [upd_same]; exact ownBlock_none h1.own
      · simp only [upd_same]; exact fun e => by rw [h1.nil e]; rfl
    refine key ?_
    simp only [List.map_cons] at *
    simp [resolve, invoke, Deferred.ofValue, Act.eval, ← hx0]

/-- A row of the call's own has been lent and written. -/
theorem InvP.lent (h : InvP B w0 F0 nt s a w F m) {n : Nat} {ty es : Nat} {xs zs : List (List PV)} (hon : s.o n = some (.row ty es xs false)) (hzl : zs.length = xs.length) {w1 : World} {us : List Value} (hg : w.grownBy w1 (m n).1) (hfin : FzIn w1 F) (hx : RowIs F w1 B ty es (rowVal (m n) xs.length) zs us) :
    InvP B w0 F0 nt ⟨s.t, upd s.o n (some (.row ty es zs false))⟩ a w1 F m := by
  have hrow : ∀ k, (m n).1 = some k → k = B ∨ w0.heap.size ≤ k := fun k hk => h.ownL n k (by simp [hon]) hk
  have hb1 : BelowX B w0 w1 := ⟨hg.os.trans h.below.os, hg.tape.trans h.below.tape, hg.output.trans h.below.output, Nat.le_trans h.below.size hg.size, fun k hk hne => (hg.block k (Nat.lt_of_lt_of_le hk h.below.size) fun e => by rcases hrow k e.symm with e' | e' <;> omega).trans (h.below.block k hk hne)⟩
  have hob : (rowVal (m n) xs.length).ownBlock = (m n).1 := by unfold rowVal; cases e : (m n).1 <;> simp [Value.ownBlock]
  refine ⟨h.defers, h.size, hb1, h.base, h.on, hfin, h.tmps, fun k y hy => ?_, fun k k' b hk hk' hb hb' => ?_, fun k b hk hb => ?_, h.mfix, h.ntle⟩
  · by_cases e : k = n
    · subst e
      simp only [Fw.upd, if_true] at hy
      cases hy
      refine ⟨hx.len, us, by rw [hzl]; simpa [hzl] using hx.own, hx.rep, hx.one, fun e => hx.nil (by rw [hob]; exact e), fun b hb => ⟨fun o y e => ?_, fun _ => hx.free b (by rw [hob]; exact hb)⟩⟩
      have := hx.free b (by rw [hob]; exact hb) o
      rw [this] at e; cases e
    · simp only [Fw.upd, e, if_false] at hy
      exact (h.own k y hy).keep (fun b hb => hg.block b ((h.own k y hy).lt hb).2 (fun e' => e (h.inj k n b (by simp [hy]) (by simp [hon]) hb e'.symm))) F.le_refl fun _ _ _ => rfl
  · refine h.inj k k' b ?_ ?_ hb hb'
    · by_cases e : k = n
      · subst e; simp [hon]
      · simpa [Fw.upd, e] using hk
    · by_cases e : k' = n
      · subst e; simp [hon]
      · simpa [Fw.upd, e] using hk'
  · refine h.ownL k b ?_ hb
    by_cases e : k = n
    · subst e; simp [hon]
    · simpa [Fw.upd, e] using hk

theorem does_callu (h : Inv B w0 F0 nt s a w) {ops : Array Oper} {o : Oper} {r : RG} (ht : trOp P nt ops o = some r.base) {f n : Nat} {x : Opd} {ys : List Opd} {as : List RA} {ps : List PV} {ty es : Nat} {xs zs : List (List PV)} {q : PV} (hk : r.k = .callu f) (hw : s.want r.g = some true) (ha : r.a = x :: ys)
      (hx : s.ev x = .row n xs.length) (hon : s.o n = some (.row ty es xs false)) (hy : s.resL ys = some as) (hp : pvs as = some ps) (hn : n ∉ frzs as) (hret : RetU P f ty es xs ps zs q) :
      Does P ops o a w (Inv B w0 F0 nt ⟨putT s.t r.d (.p q), upd (frzO s.o (frzs as)) n (some (.row ty es zs false))⟩) := by
  intro K Q hK
  obtain ⟨os, hkd, hxs, hg, ho, hdo⟩ := trOp_inv ht
  simp only [RG.base] at hkd hxs hg ho hdo
  obtain ⟨F, m, h⟩ := h
  rw [want_ok h hg hw, if_pos rfl]
  obtain ⟨F', h', hle, hfil⟩ := h.frz (frzs as)
  rw [hk] at hkd
  obtain ⟨⟨args⟩, ats, hop, rfl⟩ := trKd_call hkd
  cases os with
  | nil => rw [ha] at hxs; simp [mapO] at hxs
  | cons xo yos =>
    rw [ha] at hxs
    simp only [mapO, Option.bind_eq_some_iff, Option.map_eq_some_iff] at hxs
    obtain ⟨x', hxo, ys', hyo, he⟩ := hxs
    cases he
    have hrep := (h'.args hfil hyo hy).pvs (fun n hn => hn) hp
    have hxv : RepT F' m (s.ev x) (a.eval xo) := by have := trOpd_rep (s := ⟨s.t, frzO s.o (frzs as)⟩) h' hxo; cases x <;> exact this
    rw [hx] at hxv
    have hx0 : a.eval xo = rowVal (m n) xs.length := hxv.1
    have hon' : (frzO s.o (frzs as)) n = some (.row ty es xs false) := by simp [frzO, hn, hon]
    obtain ⟨us, hri⟩ := (h'.own n _ hon').rowIs
    have hob : (rowVal (m n) xs.length).ownBlock = (m n).1 := by unfold rowVal; cases e : (m n).1 <;> simp [Value.ownBlock]
    unfold Oper.wp execOp
    rw [hop]
    have key : ∀ {z : Sem Next}, z.run P w = (callFunc f (rowVal (m n) xs.length :: yos.map a.eval).toArray).run P w → o.upon P a K Q (z.run P w) := by
      intro z hz
      rw [hz, hret.2.1, Oper.upon_enter]
      refine (hret.2.2 w F' B _ us _ h'.fin hrep h'.hB hri).mono fun e w' he => ?_
      obtain ⟨us', v', rfl, hq, h1, h3, h4⟩ := he
      rw [hob] at h4
      have hh := h'.lent hon' hret.1 h4 h3 h1
      have hpt := hh.put (d := r.d) (t := .p q) (v := v') (show Rep F' q v' from hq) hdo
      rw [ho]
      exact hK _ _ ⟨F', m, hpt⟩
    refine key ?_
    simp only [List.map_cons] at *
    simp [resolve, invoke, Deferred.ofValue, Act.eval, ← hx0]

theorem trKd_base {op : Op} {k : Kd} {xs : List Operand} (h : trKd P op = some (k, xs)) : k.base = k := by
  cases k <;> first | rfl | skip
  all_goals
    exfalso
    cases op
    case call c =>
      obtain ⟨callee, ⟨args⟩, ⟨ats⟩⟩ := c
      cases callee with
      | value fo =>
        cases fo <;> simp only [trKd] at h
        case func => split at h <;> cases h
        all_goals (cases h)
      | invoke _ _ => cases h
      | builtin b => cases b <;> simp only [trKd] at h <;> first | (cases h; done) | (repeat' (split at h)) <;> cases h
    all_goals (simp only [trKd] at h; (repeat' (split at h)) <;> simp_all [Option.bind_eq_some_iff, Option.map_eq_some_iff])

theorem RG.base_eq {r : RG} (h : r.k.base = r.k) : r.base = r := by cases r; simp only [RG.base] at *; rw [h]
theorem trOp_base {ops : Array Oper} {o : Oper} {r : RG} (h : trOp P nt ops o = some r) : trOp P nt ops o = some r.base := by
  obtain ⟨xs, hk, _⟩ := trOp_inv h
  rw [RG.base_eq (trKd_base hk)]; exact h

/-- ONE STEP, SOUND. -/
theorem step_sound {r : RG} (hs : Step1 P r s s') (h : Inv B w0 F0 nt s a w) {ops : Array Oper} {o : Oper} (ht : trOp P nt ops o = some r.base) : Does P ops o a w (Inv B w0 F0 nt s') := by
  have hb : r.k.base = r.k → trOp P nt ops o = some r := fun e => by rw [ht, RG.base_eq e]
  cases hs with
  | skip hw => exact does_skip (r := r.base) h ht hw
  | plain as e hk hw ha he hn => exact does_plain h (hb (by cases e : r.k <;> rw [e] at hk <;> first | rfl | (simp [Kd.solo] at hk; done))) hk hw ha he hn
  | storeBox sz x y n off cells cs a' p hk hd hw ha hx ho hy hp hc hl hn => exact does_storeBox h (hb (by rw [hk]; rfl)) hk hd hw ha hx ho hy hp hc hl hn
  | storeRow sz x y n es i off ty xs c cs a' p hk hd hw ha hx ho hi hy hp hc hl hn => exact does_storeRow h (hb (by rw [hk]; rfl)) hk hd hw ha hx ho hi hy hp hc hl hn
  | appNil ty es bytes d x y a' ys sp hk hd hw ha hx hy hp he hl hf => exact does_appNil h (hb (by rw [hk]; rfl)) hk hd hw ha hx hy hp he hl hf
  | appRow ty es bytes d n x y a' xs ys sp fz hk hd hw ha hx ho hy hp he hl hn hf => exact does_appRow h (hb (by rw [hk]; rfl)) hk hd hw ha hx ho hy hp he hl hn hf
  | mset kt et n x y z a' k p cs es hk hd hw ha hx ho hy hz hp hn => exact does_mset h (hb (by rw [hk]; rfl)) hk hd hw ha hx ho hy hz hp hn
  | mdel kt et n x y k es hk hd hw ha hx ho hy => exact does_mdel h (hb (by rw [hk]; rfl)) hk hd hw ha hx ho hy
  | calln f d as ps ty es zs hk hd hw ha hp hr hf => exact does_calln h ht hk hd hw ha hp hr hf
  | calli f d n x ys as ps ty es xs zs hk hd hw ha hx ho hy hp hn hr hf => exact does_calli h ht hk hd hw ha hx ho hy hp hn hr hf
  | callu f n x ys as ps ty es xs zs hk hw ha hx ho hy hp hn hr => exact does_callu h ht hk hw ha hx ho hy hp hn hr
end
end Go.Fw
