/-
  One operation of the model goes with one step of the abstract machine: stores.
-/
import Derived.Test.YtikgpjnfifnilaaFwL
import Derived.Laws.CopyOwn
set_option linter.unusedVariables false
set_option linter.unusedSimpArgs false
namespace Go.Fw
open Go.RowKit

section
variable {P : Program} {B nt : Nat} {w0 : World} {F0 : Fz} {s s' : St} {a : Act} {w : World} {F : Fz} {m : Mp}

theorem trKd_store {op : Op} {sz : Nat} {xs : List Operand} (h : trKd P op = some (.store sz, xs)) : ∃ t x y, op = .store t x y ∧ xs = [x, y] ∧ sz = P.cellsOf t ∧ (P.info? t).isSome = true := by
  cases op
  case store t x y =>
    simp only [trKd] at h
    split at h
    · rename_i hi; cases h; exact ⟨t, x, y, rfl, rfl, rfl, hi⟩
    · cases h
  case call c =>
    obtain ⟨callee, args, ats⟩ := c
    cases callee with
    | value fo =>
      cases fo <;> simp only [trKd] at h
      case func => split at h <;> cases h
      all_goals (cases h)
    | invoke _ _ => cases h
    | builtin b => cases b <;> simp only [trKd] at h <;> first | (cases h; done) | (repeat' (split at h)) <;> cases h
  all_goals (simp only [trKd] at h; (repeat' (split at h)) <;> simp_all [Option.bind_eq_some_iff, Option.map_eq_some_iff])

/-- One own memory is written. -/
theorem InvP.write (h : InvP B w0 F0 nt s a w F m) {n b : Nat} {x x' : Own} (hx : s.o n = some x) (hb : (m n).1 = some b) {w1 : World} (hos : w1.os = w.os) (htape : w1.tape = w.tape) (hout : w1.output = w.output) (hsz : w1.heap.size = w.heap.size)
    (hblk : ∀ k, k ≠ b → w1.heap[k]? = w.heap[k]?) (hf : FzIn w1 F) (ho : OwnOk F w1 B (m n) x') : InvP B w0 F0 nt ⟨s.t, upd s.o n (some x')⟩ a w1 F m := by
  have hlt := (h.own n x hx).lt hb
  refine ⟨h.defers, h.size, ⟨hos.trans h.below.os, htape.trans h.below.tape, hout.trans h.below.output, by rw [hsz]; exact h.below.size, fun k hk hne => (hblk k (fun e => by subst e; rcases h.ownL n k (by simp [hx]) hb with e | e <;> omega)).trans (h.below.block k hk hne)⟩, h.base, h.on, hf, h.tmps, fun k y hy => ?_, fun k k' b' hk hk' hb' hb'' => ?_, fun k b' hk hb' => h.ownL k b' (by by_cases e : k = n; subst e; simp [hx]; simpa [Fw.upd, e] using hk) hb', h.mfix, h.ntle⟩
  · by_cases e : k = n
    · subst e; simp only [Fw.upd, if_true] at hy; cases hy; exact ho
    · simp only [Fw.upd, e, if_false] at hy
      refine (h.own k y hy).keep (fun b' hb' => hblk b' fun e' => ?_) F.le_refl fun _ _ _ => rfl
      subst e'
      exact e (h.inj k n b' (by simp [hy]) (by simp [hx]) hb' hb)
  · refine h.inj k k' b' ?_ ?_ hb' hb''
    · by_cases e : k = n
      · subst e; simp [hx]
      · simpa [Fw.upd, e] using hk
    · by_cases e : k' = n
      · subst e; simp [hx]
      · simpa [Fw.upd, e] using hk'

theorem FzIn.setRow (h : FzIn w F) {b : Nat} (hb : noneF F b) (cs : Array Value) : FzIn (w.setRow b cs) F := fun b' o y e => by
  by_cases e' : b' = b
  · subst e'; rw [hb o] at e; cases e
  · have := h b' o y e
    rw [World.cell?_of_block (w := w) (setRow_other w b b' cs e')]
    exact this

theorem run_store {t : TypeId} (hi : (P.info? t).isSome = true) {b off : Nat} {v : Value} (hsz : v.cells.size = P.cellsOf t) {cur : Array Value} {ty : TypeId} (hg : w.heap[b]? = some (.cells cur ty (0, 0))) (hl : off + v.cells.size ≤ cur.size) (h1 : ∀ y ∈ v.cells.toList, y.oneCell' = true) :
    (Instr.storeAt t (.pointer (some ⟨b, off, none⟩)) v).run P w = .ok () (w.setRow b (splice cur.toList off v.cells.toList).toArray) := by
  have hst := run_storeCells_at P b off ty v.cells.toList 0 cur w hg (by simpa using hl) h1
  simp only [Nat.add_zero] at hst
  simp [Instr.storeAt, Instr.sureAddr, storeVar, run_size hi, hsz, hst, splice]

theorem opd2 {x y : Opd} {xo yo : Operand} (hxs : mapO (trOpd nt) [xo, yo] = some [x, y]) : trOpd nt xo = some x ∧ trOpd nt yo = some y := by
  simp only [mapO, Option.bind_eq_some_iff, Option.map_eq_some_iff] at hxs
  obtain ⟨a1, h1, l, ⟨a2, h2, l2, h3, rfl⟩, h4⟩ := hxs
  cases h3
  cases h4
  exact ⟨h1, h2⟩

theorem argPv {ns : List Nat} (h : InvP B w0 F0 nt ⟨s.t, frzO s.o ns⟩ a w F m) (hfil : ∀ n ∈ ns, ∀ x, s.o n = some x → Filled F (m n) x) {yo : Operand} {y : Opd} (hy : trOpd nt yo = some y) {ra : RA} (hres : s.res y = some ra) (hfr : ra.frz = ns) {p : PV} (hp : ra.pv = some p) : Rep F p (a.eval yo) := by
  have h1 := trOpd_rep (s := ⟨s.t, frzO s.o ns⟩) h hy
  have h2 : RepT F m (s.ev y) (a.eval yo) := by cases y <;> exact h1
  exact (h.arg hfil hres h2).pv (by rw [hfr]; exact fun _ h => h) hp

theorem does_storeBox (h : Inv B w0 F0 nt s a w) {ops : Array Oper} {o : Oper} {r : RG} (ht : trOp P nt ops o = some r) {sz : Nat} {x y : Opd} {n off : Nat} {cells cs : List PV} {ra : RA} {p : PV} (hk : r.k = .store sz) (hd : r.d = none) (hw : s.want r.g = some true) (ha : r.a = [x, y])
    (hx : s.ev x = .own n off) (ho : s.o n = some (.box cells false)) (hy : s.res y = some ra) (hp : ra.pv = some p) (hc : p.cells = some cs) (hl : cs.length = sz ∧ off + sz ≤ cells.length) (hn : n ∉ ra.frz) :
    Does P ops o a w (Inv B w0 F0 nt ⟨s.t, upd (frzO s.o ra.frz) n (some (.box (splice cells off cs) false))⟩) := by
  intro K Q hK
  obtain ⟨xs, hkd, hxs, hg, hdst, hdo⟩ := trOp_inv ht
  rw [hk] at hkd
  obtain ⟨t, xo, yo, hop, rfl, hsz, hi⟩ := trKd_store hkd
  rw [ha] at hxs
  obtain ⟨hxo, hyo⟩ := opd2 hxs
  obtain ⟨F, m, h⟩ := h
  rw [want_ok h hg hw, if_pos rfl]
  obtain ⟨F', h', hle, hfil⟩ := h.frz ra.frz
  have hrep := argPv h' hfil hyo hy rfl hp
  obtain ⟨hr1, hr2⟩ := hrep.cells hc
  have hxv : RepT F' m (s.ev x) (a.eval xo) := by have := trOpd_rep (s := ⟨s.t, frzO s.o ra.frz⟩) h' hxo; cases x <;> exact this
  rw [hx] at hxv
  obtain ⟨b, hb, hxe⟩ := hxv
  have hon : (frzO s.o ra.frz) n = some (.box cells false) := by simp [frzO, hn, ho]
  obtain ⟨b', cur, ty, g1, g2, g3, g4, g5, g6⟩ := h'.own n _ hon
  rw [hb] at g1; cases g1
  have hvs : (a.eval yo).cells.size = P.cellsOf t := by rw [← hsz, ← hl.1, ← hr1.1]; simp
  have hcl : cur.size = cells.length := by rw [← g4.1]; simp
  have hrun := run_store (w := w) hi (off := off) hvs g3 (by rw [hvs, ← hsz, hcl]; exact hl.2) hr2
  unfold Oper.wp execOp
  rw [hop]
  simp only [hxe, Sem.run_bind, hrun, Result.andThen_ok, Sem.run_pure, Oper.upon_skip, hdst, hd, Act.put]
  refine hK _ _ ⟨F', m, h'.write hon hb rfl rfl rfl (by simp) (fun k hk => setRow_other w b k _ hk) (h'.fin.setRow (g6 rfl) _) ?_⟩
  refine ⟨b, _, ty, hb, g2, setRow_heap w b cur _ ty _ g3, ?_, ?_, g6⟩
  · simpa using g4.splice off hr1
  · intro z hz
    simp only [splice, List.mem_append] at hz
    rcases hz with (hz | hz) | hz
    · exact g5 z (List.mem_of_mem_take hz)
    · exact hr2 z hz
    · exact g5 z (List.mem_of_mem_drop hz)

theorem splice_get {α : Type} (L : List α) (o : Nat) (l : List α) (hol : o + l.length ≤ L.length) (j : Nat) : (splice L o l)[j]? = if j < o then L[j]? else if j < o + l.length then l[j - o]? else L[j]? := by
  unfold splice
  by_cases h1 : j < o
  · rw [if_pos h1, List.append_assoc, List.getElem?_append_left (by simp; omega), List.getElem?_take, if_pos h1]
  · rw [if_neg h1]
    by_cases h2 : j < o + l.length
    · rw [if_pos h2, List.append_assoc, List.getElem?_append_right (by simp; omega), List.getElem?_append_left (by simp; omega)]
      congr 1; simp; omega
    · rw [if_neg h2, List.getElem?_append_right (by simp; omega), List.getElem?_drop]
      congr 1; simp; omega
theorem splice_take {α : Type} (L : List α) (o : Nat) (l : List α) (n : Nat) (hn : n ≤ L.length) (hol : o + l.length ≤ n) : splice (L.take n) o l = (splice L o l).take n := by
  apply List.ext_getElem?
  intro j
  rw [splice_get _ _ _ (by simp; omega), List.getElem?_take, List.getElem?_take, splice_get _ _ _ (by omega)]
  by_cases h1 : j < n
  · rw [if_pos h1, if_pos h1]
  · rw [if_neg h1, if_neg h1]
    have e1 : ¬ j < o := by omega
    have e2 : ¬ j < o + l.length := by omega
    rw [if_neg e1, if_neg e2]

theorem splice_flatten' {α : Type} {es : Nat} {xs : List (List α)} (h : ∀ x ∈ xs, x.length = es) {i : Nat} {c : List α} (hc : xs[i]? = some c) {off : Nat} {cs : List α} (hl : off + cs.length ≤ es) :
    splice xs.flatten (i * es + off) cs = (xs.set i (splice c off cs)).flatten := by
  have hi : i < xs.length := (List.getElem?_eq_some_iff.1 hc).1
  have hce : c.length = es := h c (List.mem_of_getElem? hc)
  have hsl : (splice c off cs).length = es := by rw [splice_length _ _ _ (by omega), hce]
  rw [← splice_flatten h hi hsl]
  have hlen := flatten_length h
  have hle : (i + 1) * es ≤ xs.length * es := Nat.mul_le_mul_right _ hi
  rw [Nat.succ_mul] at hle
  apply List.ext_getElem?
  intro j
  have hget : ∀ q, q < es → xs.flatten[i * es + q]? = c[q]? := fun q hq => by rw [flatten_get h i q hq, hc]; rfl
  rw [splice_get _ _ _ (by omega), splice_get _ _ _ (by omega), hsl]
  by_cases h1 : j < i * es
  · rw [if_pos (by omega), if_pos h1]
  · rw [if_neg h1]
    by_cases h2 : j < i * es + es
    · rw [if_pos h2, splice_get _ _ _ (by omega)]
      have hq := hget (j - i * es) (by omega)
      rw [show i * es + (j - i * es) = j by omega] at hq
      by_cases h3 : j < i * es + off
      · have e1 : j - i * es < off := by omega
        rw [if_pos h3, if_pos e1, hq]
      · have e1 : ¬ j - i * es < off := by omega
        rw [if_neg h3, if_neg e1]
        by_cases h4 : j < i * es + off + cs.length
        · have e2 : j - i * es < off + cs.length := by omega
          rw [if_pos h4, if_pos e2]; congr 1; omega
        · have e2 : ¬ j - i * es < off + cs.length := by omega
          rw [if_neg h4, if_neg e2, hq]
    · have e1 : ¬ j < i * es + off := by omega
      have e2 : ¬ j < i * es + off + cs.length := by omega
      rw [if_neg h2, if_neg e1, if_neg e2]

theorem does_storeRow (h : Inv B w0 F0 nt s a w) {ops : Array Oper} {o : Oper} {r : RG} (ht : trOp P nt ops o = some r) {sz : Nat} {x y : Opd} {n es i off ty : Nat} {xs : List (List PV)} {c cs : List PV} {ra : RA} {p : PV} (hk : r.k = .store sz) (hd : r.d = none) (hw : s.want r.g = some true) (ha : r.a = [x, y])
    (hx : s.ev x = .rp n es i off) (ho : s.o n = some (.row ty es xs false)) (hi : xs[i]? = some c) (hy : s.res y = some ra) (hp : ra.pv = some p) (hc : p.cells = some cs) (hl : cs.length = sz ∧ off + sz ≤ es) (hn : n ∉ ra.frz) :
    Does P ops o a w (Inv B w0 F0 nt ⟨s.t, upd (frzO s.o ra.frz) n (some (.row ty es (xs.set i (splice c off cs)) false))⟩) := by
  intro K Q hK
  obtain ⟨xs', hkd, hxs, hg, hdst, hdo⟩ := trOp_inv ht
  rw [hk] at hkd
  obtain ⟨t, xo, yo, hop, rfl, hsz, hinf⟩ := trKd_store hkd
  rw [ha] at hxs
  obtain ⟨hxo, hyo⟩ := opd2 hxs
  obtain ⟨F, m, h⟩ := h
  rw [want_ok h hg hw, if_pos rfl]
  obtain ⟨F', h', hle, hfil⟩ := h.frz ra.frz
  have hrep := argPv h' hfil hyo hy rfl hp
  obtain ⟨hr1, hr2⟩ := hrep.cells hc
  have hxv : RepT F' m (s.ev x) (a.eval xo) := by have := trOpd_rep (s := ⟨s.t, frzO s.o ra.frz⟩) h' hxo; cases x <;> exact this
  rw [hx] at hxv
  obtain ⟨b, hb, hxe⟩ := hxv
  have hon : (frzO s.o ra.frz) n = some (.row ty es xs false) := by simp [frzO, hn, ho]
  obtain ⟨g1, ys, g2, g3, g4, g5, g6⟩ := h'.own n _ hon
  have hil : i < xs.length := (List.getElem?_eq_some_iff.1 hi).1
  have hce : c.length = es := g1 c (List.mem_of_getElem? hi)
  have hrv : rowVal (m n) xs.length = .slice (some ⟨b, 0, none⟩) xs.length (m n).2 := by simp [rowVal, hb]
  obtain ⟨q1, q2⟩ := g2
  rw [hrv] at q2
  rcases q2 with ⟨e, _⟩ | ⟨g, cap, cur, e, hBg, hgg, hnc, hcm, hcs, htake⟩
  · cases e
  · simp only [Value.slice.injEq, Option.some.injEq, Addr.mk.injEq] at e
    obtain ⟨⟨rfl, _⟩, _, hcap⟩ := e
    have hvs : (a.eval yo).cells.size = P.cellsOf t := by rw [← hsz, ← hl.1, ← hr1.1]; simp
    have hle1 : (i + 1) * es ≤ xs.length * es := Nat.mul_le_mul_right _ hil
    rw [Nat.succ_mul] at hle1
    have hle2 : xs.length * es ≤ cap * es := Nat.mul_le_mul_right _ hnc
    have hrun := run_store (w := w) hinf (off := i * es + off) hvs hgg (by rw [hvs, ← hsz]; omega) hr2
    unfold Oper.wp execOp
    rw [hop]
    simp only [hxe, Sem.run_bind, hrun, Result.andThen_ok, Sem.run_pure, Oper.upon_skip, hdst, hd, Act.put]
    refine hK _ _ ⟨F', m, h'.write hon hb rfl rfl rfl (by simp) (fun k hk => setRow_other w b k _ hk) (h'.fin.setRow ((g6 b hb).2 rfl) _) ?_⟩
    have hcl : (a.eval yo).cells.toList.length = cs.length := hr1.1
    have hsl : (splice c off cs).length = es := by rw [splice_length _ _ _ (by omega), hce]
    have hnew : splice ys (i * es + off) (a.eval yo).cells.toList = (splice cur.toList (i * es + off) (a.eval yo).cells.toList).take (xs.length * es) := by
      rw [← htake]
      exact splice_take _ _ _ _ (by simp; omega) (by omega)
    refine ⟨fun z hz => ?_, splice ys (i * es + off) (a.eval yo).cells.toList, ⟨?_, .inr ⟨b, cap, _, ?_, hBg, setRow_heap w b cur _ ty _ hgg, by simpa using hnc, hcm, ?_, ?_⟩⟩, ?_, ?_, ?_, ?_⟩
    · rcases List.mem_or_eq_of_mem_set hz with hz | rfl
      · exact g1 z hz
      · exact hsl
    · rw [splice_length _ _ _ (by rw [q1]; omega), q1]; simp
    · simp [rowVal, hb, hcap]
    · simp only [List.size_toArray]; rw [splice_length _ _ _ (by simp; omega)]; simpa using hcs
    · simp only [List.length_set]; rw [hnew]
    · rw [← splice_flatten' g1 hi (by omega)]; exact g3.splice _ hr1
    · intro z hz
      simp only [splice, List.mem_append] at hz
      rcases hz with (hz | hz) | hz
      · exact g4 z (List.mem_of_mem_take hz)
      · exact hr2 z hz
      · exact g4 z (List.mem_of_mem_drop hz)
    · intro e; rw [hb] at e; cases e
    · intro b' hb'
      obtain ⟨k1, k2⟩ := g6 b' hb'
      exact ⟨fun o y e => by simpa using k1 o y e, k2⟩
end
end Go.Fw
