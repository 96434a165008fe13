/-
  What the model's operations do, continued: slices made, sums, tests, places, cuts.
-/
import Derived.Test.YtikgpjnfifnilaaFwF
import Derived.Laws.Slices
set_option linter.unusedVariables false
set_option linter.unusedSimpArgs false
namespace Go.Fw
open Go.RowKit

theorem replicate_flatten_length {α : Type} (n : Nat) (z : List α) : (List.replicate n z).flatten.length = n * z.length := by
  rw [flatten_length (es := z.length) (by intro x hx; rw [List.eq_of_mem_replicate hx])]; simp
theorem toList_madeCells (z : Array Value) (n : Nat) (hz : 0 < z.size) : (madeCells z (n * z.size)).toList = (List.replicate n z.toList).flatten := by
  apply List.ext_getElem?
  intro i
  by_cases hi : i < n * z.size
  · have hq : i / z.size < n := Nat.div_lt_of_lt_mul (by rw [Nat.mul_comm]; exact hi)
    have h2 : i % z.size < z.size := Nat.mod_lt _ hz
    have e : i = i / z.size * z.size + i % z.size := by rw [Nat.mul_comm]; exact (Nat.div_add_mod i z.size).symm
    have h3 := flatten_get (es := z.size) (xs := List.replicate n z.toList) (by intro x hx; rw [List.eq_of_mem_replicate hx]; simp) (i / z.size) (i % z.size) h2
    rw [← e] at h3
    rw [h3]
    simp [madeCells, hi, hq, h2]
  · rw [List.getElem?_eq_none (by simp [madeCells]; omega), List.getElem?_eq_none (by rw [replicate_flatten_length]; simp; omega)]

theorem splice_flatten {α : Type} {es : Nat} {xs : List (List α)} (h : ∀ x ∈ xs, x.length = es) {i : Nat} (hi : i < xs.length) {c : List α} (hc : c.length = es) : splice xs.flatten (i * es) c = (xs.set i c).flatten := by
  have hs : xs.set i c = xs.take i ++ c :: xs.drop (i + 1) := List.set_eq_take_append_cons_drop.trans (by rw [if_pos hi])
  rw [hs, List.flatten_append, List.flatten_cons, flatten_take h, flatten_drop h]
  unfold splice
  have : i * es + c.length = (i + 1) * es := by rw [hc, Nat.succ_mul]
  rw [this, List.append_assoc]

section
variable {P : Program} {B nt d : Nat} {w0 : World} {F0 : Fz} {s : St} {a : Act} {w : World} {F : Fz} {m : Mp} {ns : List Nat}

theorem fillX_rep {es : Nat} : ∀ {ix : List Nat} {vs : List Value} {ps : List PV} {xs : List (List PV)} {cells : Array Value} {ys : List (List PV)},
    ix.length = vs.length → RepL F ps vs → (∀ x ∈ xs, x.length = es) → RepL F xs.flatten cells.toList → (∀ y ∈ cells.toList, y.oneCell' = true) → fillX es xs (ix.zip ps) = some ys →
    ∃ cells', Instr.fill (fun i => some (i * es, es)) cells (ix.zip vs) = some cells' ∧ RepL F ys.flatten cells'.toList ∧ (∀ y ∈ cells'.toList, y.oneCell' = true) ∧ (∀ x ∈ ys, x.length = es) ∧ ys.length = xs.length
  | [], vs, ps, xs, cells, ys, h2, h3, hw, h4, h5, h6 => by
    have hv : vs = [] := List.eq_nil_of_length_eq_zero (by simpa using h2.symm)
    subst hv
    simp [fillX] at h6
    subst h6
    exact ⟨cells, by simp [Instr.fill], h4, h5, hw, rfl⟩
  | i :: ix, [], ps, xs, cells, ys, h2, h3, hw, h4, h5, h6 => by simp at h2
  | i :: ix, v :: vs, [], xs, cells, ys, h2, h3, hw, h4, h5, h6 => by have := h3.1; simp at this
  | i :: ix, v :: vs, p :: ps, xs, cells, ys, h2, h3, hw, h4, h5, h6 => by
    simp only [List.zip_cons_cons, fillX, Option.bind_eq_some_iff] at h6
    obtain ⟨ks, hk, h6⟩ := h6
    split at h6
    · rename_i hc
      obtain ⟨y, zs, e, hrep, hrest⟩ := h3.head
      cases e
      obtain ⟨hk1, hk2⟩ := hrep.cells hk
      have hsz : v.cells.size = es := by rw [← hc.1, ← hk1.1]; simp
      have hz : cells.size = xs.length * es := by rw [← flatten_length hw, ← h4.1]; simp
      have hle : (i + 1) * es ≤ xs.length * es := Nat.mul_le_mul_right _ hc.2
      obtain ⟨cells1, hc1, hf⟩ := fill_one (cells := cells) (place := fun i => some (i * es, es)) (i := i) (rest := ix.zip vs) rfl hsz (by rw [Nat.succ_mul] at hle; omega)
      have hw' : ∀ x ∈ xs.set i ks, x.length = es := fun x hx => by
        rcases List.mem_or_eq_of_mem_set hx with hx | rfl
        · exact hw x hx
        · exact hc.1
      obtain ⟨cells', g1, g2, g3, g4, g5⟩ := fillX_rep (cells := cells1) (xs := xs.set i ks) (ys := ys) (by simpa using h2) hrest hw' (by rw [hc1, ← splice_flatten hw hc.2 hc.1]; exact h4.splice _ hk1) (fun y hy => by
        rw [hc1] at hy
        simp only [splice, List.mem_append] at hy
        rcases hy with (hy | hy) | hy
        · exact h5 y (List.mem_of_mem_take hy)
        · exact hk2 y hy
        · exact h5 y (List.mem_of_mem_drop hy)) h6
      exact ⟨cells', by rw [List.zip_cons_cons, hf]; exact g1, g2, g3, g4, by simpa using g5⟩
    · cases h6

theorem Good.row {e : Eff} {r : Result Value} {cells : Array Value} {ty es n cap : Nat} {xs : List (List PV)} (hB : B ≤ w.heap.size) (hf : FzIn w F)
    (hr : r = .ok (.slice (some ⟨w.heap.size, 0, none⟩) n cap) (w.alloc (.cells cells ty))) (he : e.v = .row d n) (hn : e.new = some (.row ty es xs false)) (hw : ∀ x ∈ xs, x.length = es) (hlen : xs.length = n)
    (hcap : n ≤ cap) (hm : cap ≤ maxLen) (hsz : cells.size = cap * es) (h1 : RepL F xs.flatten (cells.toList.take (n * es))) (h2 : ∀ y ∈ cells.toList, y.oneCell' = true) : Good F m B d w e r := by
  subst hlen
  refine ⟨_, _, hr, .inr ⟨_, _, cap, hn, rfl, ?_, hw, cells.toList.take (xs.length * es), ⟨?_, .inr ⟨w.heap.size, cap, cells, rfl, hB, heap_alloc_new w _, hcap, hm, hsz, rfl⟩⟩, h1, fun y hy => h2 y (List.mem_of_mem_take hy), (fun e => by cases e), fun b hb => ?_⟩⟩
  · rw [he]
    exact ⟨by simp [Fw.upd, rowVal], fun e => by simp [Fw.upd] at e⟩
  · rw [h1.1, flatten_length hw]
  · cases hb
    exact ⟨(fun o y e => by rw [hf.fresh o] at e; cases e), fun _ => hf.fresh⟩

theorem ex_bsl (hB : B ≤ w.heap.size) (hf : FzIn w F) {t : TypeId} {n : Nat} {parts : Array (Nat × Operand)} {k : Kd} {xs : List Operand} (hk : trKd P (.buildSlice t n parts) = some (k, xs)) {as : List RA} (ha : ArgsOk F w m ns as (xs.map a.eval)) {e : Eff}
    (he : sem k d as = some e) (hns : ∀ n ∈ e.frz, n ∈ ns) : Good F m B d w e ((Instr.buildSlice t n (parts.map fun (i, x) => (i, a.eval x))).run P w) := by
  simp only [trKd] at hk
  split at hk
  · rename_i el hu
    simp only [Option.bind_eq_some_iff] at hk
    obtain ⟨z, hz, hk⟩ := hk
    split at hk
    · rename_i hc
      cases hk
      obtain ⟨i, zv, hi, hzv, hzp⟩ := zeroP_inv hz
      obtain ⟨h1, h2⟩ := zps_rep (F := F) hzp
      simp only [sem, Option.bind_eq_some_iff] at he
      obtain ⟨ps, hps, he⟩ := he
      split at he
      · rename_i hlen
        simp only [Option.map_eq_some_iff] at he
        obtain ⟨ys, hys, rfl⟩ := he
        have hrep := ha.pvs hns hps
        have hzs : zv.cells.size = P.cellsOf el := by rw [← hc.1, ← h1.1]; simp
        have hmc : (madeCells zv.cells (n * P.cellsOf el)).toList = (List.replicate n zv.cells.toList).flatten := by rw [← hzs]; exact toList_madeCells _ _ (by omega)
        have hrepz : ∀ n, RepL F (List.replicate n z).flatten (List.replicate n zv.cells.toList).flatten := fun n => by
          induction n with
          | zero => simpa using RepL.nil
          | succ n ih => simp only [List.replicate_succ, List.flatten_cons]; exact h1.append ih
        obtain ⟨cells', g1, g2, g3, g4, g5⟩ := fillX_rep (es := P.cellsOf el) (cells := madeCells zv.cells (n * P.cellsOf el)) (by simp) hrep (by intro x hx; rw [List.eq_of_mem_replicate hx]; exact hc.1) (by rw [hmc]; exact hrepz n) (fun y hy => by
          rw [hmc] at hy
          obtain ⟨l, hl, hy⟩ := List.mem_flatten.1 hy
          rw [List.eq_of_mem_replicate hl] at hy
          exact h2 y hy) hys
        have hparts : (parts.map fun (i, x) => (i, a.eval x)).toList = (parts.toList.map (·.1)).zip ((parts.toList.map (·.2)).map a.eval) := by
          rw [Array.toList_map]; exact zip_parts parts.toList
        have hyl : ys.length = n := by simpa using g5
        have hcs : cells'.size = n * P.cellsOf el := by rw [← Array.length_toList, g2.1, flatten_length g4, hyl]
        have hrun : (Instr.buildSlice t n (parts.map fun (i, x) => (i, a.eval x))).run P w = .ok (.slice (some ⟨w.heap.size, 0, none⟩) n n) (w.alloc (.cells cells' el)) := by
          have hbig : ¬ (n * P.cellsOf el > 2 ^ 24) := by have := hc.2.2; omega
          generalize (parts.map fun (i, x) => (i, a.eval x)) = vp at hparts ⊢
          generalize (parts.toList.map (·.1)).zip ((parts.toList.map (·.2)).map a.eval) = L at g1 hparts
          by_cases h0 : n * P.cellsOf el = 0
          · have hn0 : n = 0 := by rcases Nat.mul_eq_zero.1 h0 with h | h; exact h; omega
            subst hn0
            have hm0 : madeCells zv.cells (0 * P.cellsOf el) = #[] := by simp [madeCells]
            rw [hm0] at g1
            simp [Instr.buildSlice, run_underlying hu, run_size (P := P) (t := el) (by simp [hi]), hparts, newRow, g1, Array.range_zero']
          · have hm0 : (Array.range (n * P.cellsOf el)).map (fun x => zv.cells[x % zv.cells.size]!) = madeCells zv.cells (n * P.cellsOf el) := rfl
            rw [← hm0] at g1
            have hbig' : ¬ (16777216 < n * P.cellsOf el) := by omega
            simp [Instr.buildSlice, run_underlying hu, run_size (P := P) (t := el) (by simp [hi]), hbig', hparts, run_zero hi hzv, newRow, g1]
            intro h; exact absurd h h0
        refine .row hB hf hrun rfl rfl g4 hyl (Nat.le_refl _) ?_ hcs ?_ g3
        · have : n * 1 ≤ n * P.cellsOf el := Nat.mul_le_mul_left _ hc.2.1
          simp only [maxLen]; have := hc.2.2; omega
        · rw [List.take_of_length_le (by rw [Array.length_toList]; omega)]; exact g2
      · cases he
    · cases hk
  · cases hk

theorem ex_mks (hB : B ≤ w.heap.size) (hf : FzIn w F) {t : TypeId} {l c : Operand} {k : Kd} {xs : List Operand} (hk : trKd P (.makeSlice t l c) = some (k, xs)) {as : List RA} (ha : ArgsOk F w m ns as (xs.map a.eval)) {e : Eff}
    (he : sem k d as = some e) : Good F m B d w e ((Instr.makeSlice t (a.eval l) (a.eval c)).run P w) := by
  simp only [trKd] at hk
  split at hk
  · rename_i el hu
    simp only [Option.bind_eq_some_iff] at hk
    obtain ⟨z, hz, hk⟩ := hk
    split at hk
    · rename_i hc
      cases hk
      obtain ⟨i, zv, hi, hzv, hzp⟩ := zeroP_inv hz
      obtain ⟨h1, h2⟩ := zps_rep (F := F) hzp
      simp only [sem] at he
      split at he
      · rename_i lv cv
        split at he
        · rename_i hb
          cases he
          obtain ⟨e1, e2, _⟩ := ha
          have e1' := Rep.v_inv e1
          have e2' := Rep.v_inv e2
          have hby : P.bytesOf el = i.bytes := by simp [Program.bytesOf, hi]
          have hsz : P.cellsOf el = i.size := by simp [Program.cellsOf, hi]
          have hzs : zv.cells.size = P.cellsOf el := by rw [← hc.1, ← h1.1]; simp
          have hbytes : (i.bytes : Int) * cv ≤ 281474976710656 := by rw [Int.mul_comm, ← hby]; omega
          have hcm : cv ≤ 140737488355328 := by
            have h0 : 0 ≤ cv := by omega
            have h3 : cv * 1 ≤ cv * (P.bytesOf el : Int) := Int.mul_le_mul_of_nonneg_left (by omega) h0
            omega
          have hrun := run_make (P := P) w t el i zv hu hi hzv .i64 .i64 lv cv hb.1 hb.2.1 hbytes (by omega)
          rw [e1', e2']
          have hcs : (madeCells zv.cells (cv.toNat * i.size)).toList = (List.replicate cv.toNat zv.cells.toList).flatten := by rw [← hsz, ← hzs]; exact toList_madeCells _ _ (by omega)
          have hrepz : ∀ n, RepL F (List.replicate n z).flatten (List.replicate n zv.cells.toList).flatten := fun n => by
            induction n with
            | zero => simpa using RepL.nil
            | succ n ih => simp only [List.replicate_succ, List.flatten_cons]; exact h1.append ih
          refine .row hB hf hrun rfl rfl (by intro x hx; rw [List.eq_of_mem_replicate hx]; exact hc.1) (by simp) (by omega) (by simp only [maxLen]; omega) (by simp [madeCells, hsz]) ?_ ?_
          · rw [hcs, ← hzs]
            rw [← flatten_take (es := zv.cells.size) (by intro x hx; rw [List.eq_of_mem_replicate hx]; simp), List.take_replicate, Nat.min_eq_left (by omega)]
            exact hrepz _
          · intro y hy
            rw [hcs] at hy
            obtain ⟨l, hl, hy⟩ := List.mem_flatten.1 hy
            rw [List.eq_of_mem_replicate hl] at hy
            exact h2 y hy
        · cases he
      · cases he
    · cases hk
  · cases hk

end
end Go.Fw
