/-
  Laws of no program: copy, clear, append of zeros over a row of the call's own, at elements of any size; two slices in two blocks do not overlap.
-/
import Derived.Test.YtdmackpiohkanaaFwU
import Derived.Lib.AppendZerosOnto
import Derived.Lib.AppendZeros
import Derived.Laws.Externs
import Derived.Laws.CopyRow
import Derived.WalkKit
set_option linter.unusedVariables false
set_option linter.unusedSimpArgs false
namespace Go.Fw
open Go.RowKit Go.Lib
structure Aside (p : Prop) : Prop where
  out : p
section
variable {P : Program}

theorem run_copyR (w : World) (dT sT ty elem : TypeId) (es g o dLen dCap : Nat) (cur : Array Value) (a : Addr) (sLen sCap : Nat) (cs : List Value)
    (hu : P.underlying dT = some (.slice elem)) (hs : (P.info? elem).map (·.size) = some es) (hg : w.heap[g]? = some (.cells cur elem (0, 0))) (hn : cs.length = Nat.min sLen dLen * es)
    (hsrc : ∀ j v, cs[j]? = some v → w.cell? (a.add j) = some v) (hfit : o + cs.length ≤ cur.size) (h1 : ∀ v ∈ cs, v.oneCell' = true) :
    (Builtin.copy_ #[dT, sT] ty #[.slice (some ⟨g, o, none⟩) dLen dCap, .slice (some a) sLen sCap]).run P w = .ok (goInt (Nat.min sLen dLen)) (w.setRow g (splice cur.toList o cs).toArray) := by
  have hf := run_firstCells_some (P := P) w es (Nat.min sLen dLen) a sLen sCap cs hn hsrc
  have hst := run_storeCells_at P g o elem cs 0 cur w hg (by simpa using hfit) h1
  simp only [Nat.add_zero] at hst
  cases hq : P.info? elem with
  | none => simp [hq] at hs
  | some i =>
    have hi : i.size = es := by simpa [hq] using hs
    simp [Builtin.copy_, run_underlying hu, Builtin.lenOf, sizeOf, typeInfo, hq, hi, hf, hst, splice]

theorem zeroCells_mem {z : Array Value} {n : Nat} (h : ∀ y ∈ z.toList, y.oneCell' = true) : ∀ y ∈ (Builtin.zeroCells z n).toList, y.oneCell' = true := by
  intro y hy
  simp only [Builtin.zeroCells, Array.toList_map, List.mem_map, Array.toList_range, List.mem_range] at hy
  obtain ⟨i, hi, rfl⟩ := hy
  have hz : 0 < z.size := by
    rcases Nat.eq_zero_or_pos z.size with e | e
    · rw [e] at hi; omega
    · exact e
  have hlt : i % z.size < z.size := Nat.mod_lt _ hz
  rw [getElem!_pos z _ hlt]
  exact h _ (by simp)

theorem run_clearR (w : World) (t e ty : TypeId) (z : Value) (es g o n c : Nat) (cur : Array Value) (ht : P.underlying t = some (.slice e)) (hv : ∀ w, (zeroValue e).run P w = .ok z w) (hz : z.cells.size = es) (h1 : ∀ y ∈ z.cells.toList, y.oneCell' = true)
    (hg : w.heap[g]? = some (.cells cur e (0, 0))) (hn : 0 < n) (hfit : o + n * es ≤ cur.size) :
    (Builtin.clear_ #[t] ty #[.slice (some ⟨g, o, none⟩) n c]).run P w = .ok (.tuple #[]) (w.setRow g (splice cur.toList o (Builtin.zeroCells z.cells n).toList).toArray) := by
  have hsz : (Builtin.zeroCells z.cells n).toList.length = n * es := by simp [Builtin.zeroCells, hz]
  have hst := run_storeCells_at P g o e (Builtin.zeroCells z.cells n).toList 0 cur w hg (by rw [hsz]; simpa using hfit) (zeroCells_mem h1)
  simp only [Nat.add_zero] at hst
  obtain ⟨m, rfl⟩ : ∃ m, n = m + 1 := ⟨n - 1, by omega⟩
  simp only [Builtin.clear_, List.getElem?_toArray, List.getElem?_cons_zero, Sem.run_bind, run_underlying ht, Result.andThen_ok, hv, hst, Sem.run_pure, splice]

theorem run_overlapsR (w : World) (tS tR e : TypeId) (ht : P.underlying tS = some (.slice e)) (size : Nat) (hz : ∀ w, (Go.sizeOf e).run P w = .ok size w)
    (a b : Addr) (la ca lb cb : Nat) (hne : a.block ≠ b.block) (tA tB : TypeId) (kA : Nat) (cur : Array Value) (hsa : w.shape? a.block = some (tA, kA)) (hgb : w.heap[b.block]? = some (.cells cur tB (0, 0))) (hk : cur.size ≠ 0) (hkA : kA ≠ 0) :
    (Extern.SlicesOverlaps.overlaps #[tS, tS] #[tR] #[.slice (some a) la ca, .slice (some b) lb cb]).run P w = .ok (.bool false) w := by
  have hsb : w.shape? b.block = some (tB, cur.size) := by simp [World.shape?, hgb]
  have hfb : ∀ o, w.frozen? ⟨b.block, o, none⟩ = false := fun o => by simp [World.frozen?, hgb]
  have hfb' : w.frozen? b = false := by simp [World.frozen?, hgb]
  have hnb : (a.block != b.block) = true := by simpa using hne
  have hnb' : (a.block == b.block) = false := by simpa using hne
  change Sem.run P (α := Value) (do
    let some t := (#[tS, tS] : Array TypeId)[0]? | stuck "slices.overlaps: no parameter types"
    let .slice elem ← underlying t | stuck "slices.overlaps: slice type expected"
    let size ← sizeOf elem
    match (some a : Option Addr), (some b : Option Addr) with
    | some a, some b =>
      if la = 0 ∨ lb = 0 ∨ size = 0 then pure (Value.bool false)
      else if a.block != b.block && (← frozen a) && (← frozen b) then unsupported .addressObserved
      else do
        if a.block != b.block then do
          noView a; noView b
          if ← mayBeOne a b then return Value.bool ((← choose (.extern "sameAddr.stringBytes" 2)) == 1)
        pure (Value.bool (a.block == b.block && a.off < b.off + lb * size && b.off < a.off + la * size))
    | _, _ => pure (Value.bool false)) w = _
  by_cases h0 : la = 0 ∨ lb = 0 ∨ size = 0
  · simp [run_underlying ht, hz, h0]
  · obtain ⟨kB, rfl⟩ : ∃ kB, kA = kB + 1 := ⟨kA - 1, by omega⟩
    obtain ⟨k, hk⟩ : ∃ k, cur.size = k + 1 := ⟨cur.size - 1, by omega⟩
    rw [hk] at hsb
    cases hfa : w.frozen? a <;> cases hfe : w.frozen? ⟨a.block, kB + 1, none⟩ <;>
      simp [run_underlying ht, hz, h0, hnb, hnb', frozen, noView, viewAt, mayBeOne, stringish, shape, Sem.run, hsa, hsb, hfa, hfb, hfb', hfe]

theorem step_append_roomR {ops : Array Oper} {o : Oper} {a : Act} {w : World} {K : Act → World → Prop} {Q : Exit → Act → World → Prop} {E : Prop}
    (hg : o.guard = none) (s x : Operand) (t : TypeId) (hop : o.op = Op.call { callee := Callee.builtin Builtin.append, args := #[s, x], argTypes := #[t, t] })
    (e : TypeId) (i : TypeInfo) (size : Nat) (h1 : P.underlying t = some (.slice e)) (h2 : P.info? e = some i) (h4 : i.size = size)
    (g n cap : Nat) (cur : Array Value) (hcur : w.heap[g]? = some (.cells cur e (0, 0))) (hs : a.eval s = .slice (some ⟨g, 0, none⟩) n cap)
    (ad : Addr) (m c : Nat) (news : List Value) (hx : a.eval x = .slice (some ad) m c) (hn : news.length = m * size) (hc : ∀ j u, news[j]? = some u → w.cell? (ad.add j) = some u) (h1c : ∀ u ∈ news, u.oneCell' = true)
    (hroom : n + m ≤ cap) (hfit : n * size + news.length ≤ cur.size)
    (hK : K (a.put o.dst (.slice (some ⟨g, 0, none⟩) (n + m) cap)) (w.setRow g (splice cur.toList (n * size) news).toArray)) :
    if Region.wanted o (yielded ops a.tmps) = true then Oper.wp P o a w K Q else E := by
  have hw : Region.wanted o (yielded ops a.tmps) = true := by simp [Region.wanted, hg]
  rw [if_pos hw]
  subst h4
  have hrun := run_append_room (P := P) w t o.type e i h1 h2 g n cap cur hcur ad m c news hn hc h1c hroom hfit
  unfold Oper.wp
  simp only [splice] at hK
  simp only [execOp, hop, resolve, invoke, builtin, Sem.run_bind, Sem.run_pure, Result.andThen_ok, List.map_toArray, List.map_cons, List.map_nil, hs, hx, hrun]
  exact hK

theorem step_copy_runR {ops : Array Oper} {o : Oper} {a : Act} {w : World} {K : Act → World → Prop} {Q : Exit → Act → World → Prop} {E : Prop}
    (hg : o.guard = none) (d x : Operand) (dT sT : TypeId) (hop : o.op = Op.call { callee := Callee.builtin Builtin.copy, args := #[d, x], argTypes := #[dT, sT] })
    (v u : Value) (hd : a.eval d = v) (hx : a.eval x = u) {v' : Value} {w' : World} (hr : (Builtin.copy_ #[dT, sT] o.type #[v, u]).run P w = .ok v' w') (hK : K (a.put o.dst v') w') :
    if Region.wanted o (yielded ops a.tmps) = true then Oper.wp P o a w K Q else E := by
  have hw : Region.wanted o (yielded ops a.tmps) = true := by simp [Region.wanted, hg]
  rw [if_pos hw]
  unfold Oper.wp
  simp [execOp, hop, resolve, invoke, builtin, hd, hx, hr, Result.andThen]
  exact hK

theorem wpList_copy_runR (w : World) {ops : Array Oper} {rest : List Oper} {o : Oper} {a : Act} {Q : Exit → Act → World → Prop} (hgd : o.guard = none) (d s : Operand) (t t' : TypeId)
    (ho : o.op = .call { callee := .builtin .copy, args := #[d, s], argTypes := #[t, t'] }) (v u : Value) (hd : a.eval d = v) (hs : a.eval s = u) {v' : Value} {w' : World}
    (hr : (Builtin.copy_ #[t, t'] o.type #[v, u]).run P w = .ok v' w') (h : wpList P ops Q rest (a.put o.dst v') w') : wpList P ops Q (o :: rest) a w :=
  wpList_plain hgd fun K hK => by
    unfold Oper.wp execOp
    simp only [ho, resolve, invoke, builtin, Sem.run_bind, Sem.run_pure, Result.andThen_ok, List.map_toArray, List.map_cons, List.map_nil, hd, hs, hr]
    exact hK _ _ h
end

theorem splice_takeA {α : Type} (l : List α) (o : Nat) (c : List α) (h : o ≤ l.length) : (splice l o c).take o = l.take o := by
  have h1 : (l.take o).length = o := by simp [h]
  rw [splice, List.append_assoc]
  conv => lhs; rw [← h1]
  rw [h1, List.take_append_of_le_length (by omega), List.take_take, Nat.min_self]
theorem splice_take2 {α : Type} (l : List α) (o : Nat) (c : List α) (h : o ≤ l.length) : (splice l o c).take (o + c.length) = l.take o ++ c := by
  have h1 : (l.take o ++ c).length = o + c.length := by simp [h]
  rw [splice, ← h1, List.take_left]
theorem splice_drop {α : Type} (l : List α) (o : Nat) (c : List α) (h : o ≤ l.length) : (splice l o c).drop (o + c.length) = l.drop (o + c.length) := by
  have h1 : (l.take o ++ c).length = o + c.length := by simp [h]
  rw [splice, ← h1, List.drop_left, h1]

theorem splice_two {α : Type} (L D ns : List α) (o : Nat) (h : o + ns.length + D.length ≤ L.length) : (splice (splice L (o + ns.length) D) o ns).take (o + ns.length + D.length) = L.take o ++ ns ++ D := by
  have h1 : (splice L (o + ns.length) D).take o = L.take o := by
    have := splice_takeA L (o + ns.length) D (by omega)
    have h2 : ((splice L (o + ns.length) D).take (o + ns.length)).take o = (L.take (o + ns.length)).take o := by rw [this]
    rwa [List.take_take, List.take_take, Nat.min_eq_left (by omega)] at h2
  have h3 : (splice L (o + ns.length) D).drop (o + ns.length) = D ++ L.drop (o + ns.length + D.length) := by
    have hl : (L.take (o + ns.length)).length = o + ns.length := by simp; omega
    rw [splice, List.append_assoc]
    conv => lhs; arg 1; rw [← hl]
    rw [List.drop_left]
  rw [splice, h1, h3]
  have hl : (L.take o ++ ns ++ D).length = o + ns.length + D.length := by simp; omega
  rw [← List.append_assoc, ← hl, List.take_left]
theorem grownBy_set (w : World) (g : Nat) (r1 r2 : Array Value) : w.grownBy ((w.drew.setRow g r1).setRow g r2) (some g) := by
  refine ⟨rfl, rfl, rfl, by simp [World.setRow], fun k hk hne => ?_⟩
  have hkg : k ≠ g := fun e => hne (by rw [e])
  rw [setRow_other _ g k _ hkg, setRow_other _ g k _ hkg]; rfl
theorem FzIn.grown {w w' : World} {F : Fz} (h : FzIn w F) {g : Nat} (hn : ∀ o, F g o = none) (hg : w.grownBy w' (some g)) : FzIn w' F := fun b o y e => by
  have h1 := h b o y e
  have hne : b ≠ g := fun e' => by subst e'; rw [hn o] at e; cases e
  exact (World.cell?_of_block (hg.block b (World.block_lt_of_cell? w _ h1) (by simpa using hne))).trans h1
/-- The row, opened. -/
theorem RowIs.open {F : Fz} {w : World} {B ty es : Nat} {v : Value} {xs : List (List PV)} {us : List Value} (h : RowIs F w B ty es v xs us) (hx : xs ≠ []) :
    ∃ g cap cur, v = .slice (some ⟨g, 0, none⟩) xs.length cap ∧ B ≤ g ∧ w.heap[g]? = some (.cells cur ty (0, 0)) ∧ xs.length ≤ cap ∧ cap ≤ maxLen ∧ cur.size = cap * es ∧ cur.toList.take (xs.length * es) = us ∧ noneF F g := by
  rcases h.own.2 with ⟨h1, h2⟩ | ⟨g, cap, cur, h1, h2, h3, h4, h5, h6, h7⟩
  · exact absurd (List.eq_nil_of_length_eq_zero h2) hx
  · exact ⟨g, cap, cur, h1, h2, h3, h4, h5, h6, h7, h.free g (by rw [h1]; rfl)⟩
theorem RowIs.close {F : Fz} {w : World} {B ty es g cap : Nat} {xs : List (List PV)} {us : List Value} {cur : Array Value} (hB : B ≤ g) (hg : w.heap[g]? = some (.cells cur ty (0, 0))) (h1 : xs.length ≤ cap) (h2 : cap ≤ maxLen) (h3 : cur.size = cap * es) (h4 : cur.toList.take (xs.length * es) = us)
    (hrep : RepL F xs.flatten us) (hone : ∀ y ∈ us, y.oneCell' = true) (hlen : ∀ x ∈ xs, x.length = es) (hn : noneF F g) : RowIs F w B ty es (.slice (some ⟨g, 0, none⟩) xs.length cap) xs us := by
  refine ⟨⟨?_, .inr ⟨g, cap, cur, rfl, hB, hg, h1, h2, h3, h4⟩⟩, hrep, hone, hlen, fun e => by simp [Value.ownBlock] at e, fun b hb => by simp [Value.ownBlock] at hb; subst hb; exact hn⟩
  rw [hrep.1, flatten_length hlen]
/-- Elements cut out. -/
theorem repCut {F : Fz} {es : Nat} {xs : List (List PV)} {us : List Value} (hrep : RepL F xs.flatten us) (hlen : ∀ x ∈ xs, x.length = es) (i j : Nat) : RepL F (xs.take i ++ xs.drop j).flatten (us.take (i * es) ++ us.drop (j * es)) := by
  rw [List.flatten_append, flatten_take hlen, flatten_drop hlen]
  exact (hrep.take _).append (hrep.drop _)
/-- Elements put between. -/
theorem repPut {F : Fz} {es : Nat} {xs : List (List PV)} {us ns : List Value} {x : List PV} (hrep : RepL F xs.flatten us) (hlen : ∀ x ∈ xs, x.length = es) (hx : RepL F x ns) (i : Nat) : RepL F (xs.take i ++ x :: xs.drop i).flatten (us.take (i * es) ++ ns ++ us.drop (i * es)) := by
  rw [List.flatten_append, List.flatten_cons, flatten_take hlen, flatten_drop hlen, List.append_assoc]
  exact (hrep.take _).append (hx.append (hrep.drop _))

/-- A new row may be told as frozen. -/
theorem RetN.ret {P : Program} {f : FuncId} {ps : List PV} {ty es : Nat} {zs : List (List PV)} (h : RetN P f ps ty es zs) : Ret P f ps (.sl zs []) := by
  refine ⟨h.1, fun w F ys hfin hrep => (h.2 w F ys hfin hrep).mono ?_⟩
  rintro e w' ⟨v, F1, us, rfl, h1, h2, h3, h4⟩
  rcases h1.own.2 with ⟨rfl, h0⟩ | ⟨g, cap, cur, rfl, hg, hc, hle, hm, hsz, ht⟩
  · obtain rfl : zs = [] := List.eq_nil_of_length_eq_zero h0
    exact ⟨_, F1, rfl, .sl [] [] 0 0 0 0 none [] (by simp) (by simp) (by simp [maxLen]) (by simp) (by simp) (by simp) (by simp) (by simp), h2, h3, h4⟩
  · have hno : noneF F1 g := h1.free g rfl
    let F2 : Fz := fun b o => if b = g then us[o]? else F1 b o
    have hle2 : F1.le F2 := fun b o y e => by
      show (if b = g then us[o]? else F1 b o) = some y
      split
      · rename_i e'; subst e'; rw [hno o] at e; cases e
      · exact e
    have hF2 : ∀ o, F2 g o = us[o]? := fun o => by show (if g = g then us[o]? else F1 g o) = _; rw [if_pos rfl]
    have hne : ∀ b o, b ≠ g → F2 b o = F1 b o := fun b o e => by show (if b = g then _ else _) = _; rw [if_neg e]
    have hcell : ∀ j y, us[j]? = some y → w'.cell? ⟨g, j, none⟩ = some y := fun j y e => by
      rw [cell_of_row w' g j cur ty (0, 0) hc]
      rw [← ht, List.getElem?_take] at e
      split at e
      · simpa using e
      · cases e
    refine ⟨_, F2, rfl, ?_, fun b o y e => ?_, ⟨Fz.le_trans h3.le hle2, fun b o hb => ?_⟩, h4⟩
    · have := Rep.sl (F := F2) zs [] es g 0 cap (some ⟨g, 0, none⟩) us (by simpa using h1.len) (by simpa using hle) hm (fun _ => rfl) (by simpa using h1.rep.1) h1.one (fun j y e => by rw [Nat.zero_add, hF2]; exact e) (by simpa using (h1.rep.mono hle2).2)
      exact this
    · by_cases e' : b = g
      · subst e'; rw [hF2] at e; exact hcell o y e
      · rw [hne b o e'] at e; exact h2 b o y e
    · rw [hne b o (by omega)]; exact h3.old b o hb

/-- A nil slice may be told as a row of the call's own, of no element. -/
theorem weak_nilRow {l : List (Nat × T)} {m : List (Nat × Option Own)} (k d ty es : Nat) (hk : tl l k = .nil) (hf : freshB d l = true) (hdn : Nat.beq d LN = false := by rfl) : Weak (S l m) (S ((k, .row d 0) :: l) ((d, some (.row ty es [] false)) :: m)) := by
  rintro B w0 F0 nt a w ⟨F, mp, hi⟩
  have hnil : rowVal (none, 0) 0 = .slice none 0 0 := rfl
  refine ⟨F, upd mp d (none, 0), hi.defers, hi.size, hi.below, hi.base, hi.on, hi.fin, fun j hj => ?_, fun n x hx => ?_, fun n n' b hn hn' hb hb' => ?_, fun n b hn hb => ?_, by rw [upd_ne _ _ (fun e => by subst e; simp at hdn)]; exact hi.mfix, hi.ntle⟩
  · simp only [S, tl]
    split
    · rename_i e; subst e
      have := hi.tmps j hj
      simp only [S, hk, RepT] at this
      rw [this]
      exact ⟨by simp only [upd_same]; rfl, fun _ => rfl⟩
    · exact RepT.upd (hi.tmps j hj) (freshB_ok hf j) _
  · simp only [S, ol] at hx
    split at hx
    · rename_i e; subst e; cases hx
      simp only [upd_same]
      exact ⟨by simp, [], World.ownsRow_nil w B ty es, RepL.nil, by simp, fun _ => rfl, fun b hb => by cases hb⟩
    · rename_i e
      rw [upd_ne _ _ e]; exact hi.own n x hx
  · by_cases e : n = d
    · subst e; simp [upd_same] at hb
    · by_cases e' : n' = d
      · subst e'; simp [upd_same] at hb'
      · rw [upd_ne _ _ e] at hb; rw [upd_ne _ _ e'] at hb'
        have ho : ∀ q, q ≠ d → ((S ((k, .row d 0) :: l) ((d, some (.row ty es [] false)) :: m)).o q).isSome = true → ((S l m).o q).isSome = true := fun q hq h => by simpa [S, ol, hq] using h
        exact hi.inj n n' b (ho n e hn) (ho n' e' hn') hb hb'
  · by_cases e : n = d
    · subst e; simp [upd_same] at hb
    · rw [upd_ne _ _ e] at hb
      exact hi.ownL n b (by simpa [S, ol, e] using hn) hb
/-- A nil slice may be told as a frozen one, of no element. -/
theorem weak_nilP {l : List (Nat × T)} {m : List (Nat × Option Own)} (k : Nat) (hk : tl l k = .nil) : Weak (S l m) (S ((k, .p (.sl [] [])) :: l) m) := by
  rintro B w0 F0 nt a w ⟨F, mp, hi⟩
  refine ⟨F, mp, hi.defers, hi.size, hi.below, hi.base, hi.on, hi.fin, fun j hj => ?_, hi.own, hi.inj, hi.ownL, hi.mfix, hi.ntle⟩
  simp only [S, tl]
  split
  · rename_i e; subst e
    have := hi.tmps j hj
    simp only [S, hk, RepT] at this
    rw [this]
    exact Rep.sl [] [] 0 0 0 0 none [] (by simp) (by simp) (by simp [maxLen]) (by simp) (by simp) (by simp) (by simp) (by simp)
  · exact hi.tmps j hj
end Go.Fw
