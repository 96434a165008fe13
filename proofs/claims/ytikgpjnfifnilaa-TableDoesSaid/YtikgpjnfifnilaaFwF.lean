/-
  What the model's operations do, continued: values built, blocks made.
-/
import Derived.Test.YtikgpjnfifnilaaFwE
import Derived.Laws.Tables
import Derived.Laws.MakeOwn
set_option linter.unusedVariables false
set_option linter.unusedSimpArgs false
namespace Go.Fw
open Go.RowKit

theorem FzIn.fresh {w : World} {F : Fz} (h : FzIn w F) : noneF F w.heap.size := fun o => by
  cases e : F w.heap.size o with
  | none => rfl
  | some y => have := World.block_lt_of_cell? w _ (h _ _ _ e); simp at this
theorem FzIn.fresh' {w : World} {F : Fz} (h : FzIn w F) {b : Nat} (hb : w.heap.size ≤ b) : noneF F b := fun o => by
  cases e : F b o with
  | none => rfl
  | some y => have := World.block_lt_of_cell? w _ (h _ _ _ e); simp at this; omega

theorem run_zero {P : Program} {t : TypeId} {i : TypeInfo} {z : Value} (hi : P.info? t = some i) (hz : i.zero = some z) (w : World) : (zeroValue t).run P w = .ok z w := by
  simp [zeroValue, run_info hi, hz]
theorem zeroP_inv {P : Program} {t : TypeId} {zs : List PV} (h : zeroP P t = some zs) : ∃ i z, P.info? t = some i ∧ i.zero = some z ∧ zps z.cells.toList = some zs := by
  unfold zeroP at h
  split at h
  · rename_i i hi
    split at h
    · rename_i z hz; exact ⟨i, z, hi, hz, h⟩
    · cases h
  · cases h
theorem run_newVar (P : Program) (t : TypeId) (v : Value) (w : World) : (newVar t v).run P w = .ok ⟨w.heap.size, 0, none⟩ (w.alloc (.cells v.cells t)) := by
  simp [newVar, newRow]

theorem splice_step (l : List Value) (k : Nat) (v : Value) (rest : List Value) (hk : k + (rest.length + 1) ≤ l.length) : splice (l.set k v) (k + 1) rest = splice l k (v :: rest) := by
  have := list_seg_step l k v rest hk
  simpa [splice, Nat.add_assoc, Nat.add_comm, Nat.add_left_comm] using this
theorem fold_splice : ∀ (vs : List Value) (off k : Nat) (cells : Array Value), off + k + vs.length ≤ cells.size →
    ((vs.zipIdx k).foldl (fun cs x => cs.setIfInBounds (off + x.2) x.1) cells).toList = splice cells.toList (off + k) vs
  | [], off, k, cells, _ => by simp [splice]
  | v :: vs, off, k, cells, h => by
    simp only [List.zipIdx_cons, List.foldl_cons]
    rw [fold_splice vs off (k + 1) _ (by simp at h ⊢; omega)]
    simp only [Array.toList_setIfInBounds]
    exact splice_step _ (off + k) v vs (by simp at h ⊢; omega)

section
variable {P : Program} {B nt d : Nat} {w0 : World} {F0 : Fz} {s : St} {a : Act} {w : World} {F : Fz} {m : Mp} {ns : List Nat}

theorem fill_one {place : Nat → Option (Nat × Nat)} {cells : Array Value} {i : Nat} {v : Value} {rest : List (Nat × Value)} {off sz : Nat} (hp : place i = some (off, sz)) (hs : v.cells.size = sz) (hl : off + sz ≤ cells.size) :
    ∃ cells', cells'.toList = splice cells.toList off v.cells.toList ∧ Instr.fill place cells ((i, v) :: rest) = Instr.fill place cells' rest := by
  refine ⟨v.cells.zipIdx.foldl (fun cs x => cs.setIfInBounds (off + x.2) x.1) cells, ?_, ?_⟩
  · rw [← Array.foldl_toList, Array.toList_zipIdx]
    have := fold_splice v.cells.toList off 0 cells (by simp; omega)
    simpa using this
  · simp only [Instr.fill, hp]
    rw [if_neg (by simp [hs]; omega)]

theorem fill_rep {place : Nat → Option (Nat × Nat)} : ∀ {is : List Nat} {vs : List Value} {ps : List PV} {pl : List (Nat × Nat)} {z : List PV} {cells : Array Value} {cs : List PV},
    mapO place is = some pl → is.length = vs.length → RepL F ps vs → RepL F z cells.toList → (∀ y ∈ cells.toList, y.oneCell' = true) → fillP z (pl.zip ps) = some cs →
    ∃ cells', Instr.fill place cells (is.zip vs) = some cells' ∧ RepL F cs cells'.toList ∧ (∀ y ∈ cells'.toList, y.oneCell' = true) ∧ cells'.size = cells.size
  | [], vs, ps, pl, z, cells, cs, h1, h2, h3, h4, h5, h6 => by
    cases h1
    have hv : vs = [] := List.eq_nil_of_length_eq_zero (by simpa using h2.symm)
    subst hv
    simp [fillP] at h6
    subst h6
    exact ⟨cells, by simp [Instr.fill], h4, h5, rfl⟩
  | i :: is, [], ps, pl, z, cells, cs, h1, h2, h3, h4, h5, h6 => by simp at h2
  | i :: is, v :: vs, [], pl, z, cells, cs, h1, h2, h3, h4, h5, h6 => by have := h3.1; simp at this
  | i :: is, v :: vs, p :: ps, pl, z, cells, cs, h1, h2, h3, h4, h5, h6 => by
    simp only [mapO, Option.bind_eq_some_iff, Option.map_eq_some_iff] at h1
    obtain ⟨⟨off, sz⟩, hp, pl', hpl, rfl⟩ := h1
    simp only [List.zip_cons_cons, fillP, Option.bind_eq_some_iff] at h6
    obtain ⟨ks, hk, h6⟩ := h6
    split at h6
    · rename_i hc
      obtain ⟨y, zs, e, hrep, hrest⟩ := h3.head
      cases e
      obtain ⟨hk1, hk2⟩ := hrep.cells hk
      have hsz : v.cells.size = sz := by rw [← hc.1, ← hk1.1]; simp
      have hz : cells.size = z.length := by rw [← h4.1]; simp
      obtain ⟨cells1, hc1, hf⟩ := fill_one (cells := cells) (rest := is.zip vs) hp hsz (by omega)
      have hlen : cells1.size = cells.size := by
        rw [← Array.length_toList, hc1, splice_length _ _ _ (by simp [hsz]; omega)]; simp
      obtain ⟨cells', g1, g2, g3, g4⟩ := fill_rep (cells := cells1) hpl (by simpa using h2) hrest (by rw [hc1]; exact h4.splice off hk1) (fun y hy => by
        rw [hc1] at hy
        simp only [splice, List.mem_append] at hy
        rcases hy with (hy | hy) | hy
        · exact h5 y (List.mem_of_mem_take hy)
        · exact hk2 y hy
        · exact h5 y (List.mem_of_mem_drop hy)) h6
      exact ⟨cells', by rw [List.zip_cons_cons, hf]; exact g1, g2, g3, by omega⟩
    · cases h6

theorem Good.box {e : Eff} {r : Result Value} {cells : Array Value} {ty : TypeId} {cs : List PV} (hB : B ≤ w.heap.size) (hf : FzIn w F)
    (hr : r = .ok (.pointer (some ⟨w.heap.size, 0, none⟩)) (w.alloc (.cells cells ty))) (he : e.v = .own d 0) (hn : e.new = some (.box cs false)) (h1 : RepL F cs cells.toList) (h2 : ∀ y ∈ cells.toList, y.oneCell' = true) : Good F m B d w e r := by
  refine ⟨_, _, hr, .inr ⟨_, _, 0, hn, rfl, ?_, w.heap.size, cells, ty, rfl, hB, heap_alloc_new w _, h1, h2, fun _ => hf.fresh⟩⟩
  rw [he]
  exact ⟨w.heap.size, by simp [Fw.upd], rfl⟩

theorem ex_mv {x : Operand} {as : List RA} (ha : ArgsOk F w m ns as ([x].map a.eval)) {e : Eff} (he : sem .mv d as = some e) : Good F m B d w e ((pure (a.eval x) : Sem Value).run P w) := by
  simp only [sem] at he
  split at he
  · cases he; exact .pure rfl rfl ha.1.toT
  · cases he

theorem ex_pick {c x y : Operand} {as : List RA} (ha : ArgsOk F w m ns as ([c, x, y].map a.eval)) {e : Eff} (he : sem .pick d as = some e) :
    ∃ b, a.eval c = .bool b ∧ RepT F m e.v (if b then a.eval x else a.eval y) ∧ e.new = none := by
  simp only [sem] at he
  split at he
  · rename_i b p q
    cases he
    obtain ⟨h1, h2, h3, _⟩ := ha
    refine ⟨b, Rep.v_inv h1, ?_, rfl⟩
    cases b
    · exact h3.toT
    · exact h2.toT
  · cases he

theorem ex_box (hB : B ≤ w.heap.size) (hf : FzIn w F) {t : TypeId} {x : Operand} {as : List RA} (ha : ArgsOk F w m ns as ([x].map a.eval)) {e : Eff} (he : sem .box d as = some e) (hns : ∀ n ∈ e.frz, n ∈ ns) :
    Good F m B d w e ((Instr.box t (a.eval x)).run P w) := by
  simp only [sem] at he
  split at he
  · rename_i ra
    simp only [Option.bind_eq_some_iff, Option.map_eq_some_iff] at he
    obtain ⟨p, hp, cs, hcs, rfl⟩ := he
    have hrep := ha.1.pv hns hp
    obtain ⟨h1, h2⟩ := hrep.cells hcs
    exact .box (ty := t) hB hf (by simp [Instr.box, run_newVar]) rfl rfl h1 h2
  · cases he

theorem ex_alloc (hB : B ≤ w.heap.size) (hf : FzIn w F) {t : TypeId} {k : Kd} {xs : List Operand} (hk : trKd P (.alloc t) = some (k, xs)) {as : List RA} {e : Eff} (he : sem k d as = some e) :
    Good F m B d w e ((Instr.alloc t true (.tuple #[])).run P w) := by
  simp only [trKd, Option.map_eq_some_iff] at hk
  obtain ⟨z, hz, hk⟩ := hk
  cases hk
  obtain ⟨i, zv, hi, hzv, hzp⟩ := zeroP_inv hz
  simp only [sem] at he
  split at he
  · cases he
    obtain ⟨h1, h2⟩ := zps_rep (F := F) hzp
    exact .box (ty := t) hB hf (by simp [Instr.alloc, run_zero hi hzv, run_newVar]) rfl rfl h1 h2
  · cases he

theorem zip_parts (l : List (Nat × Operand)) : l.map (fun p => (p.1, a.eval p.2)) = (l.map (·.1)).zip ((l.map (·.2)).map a.eval) := by
  induction l with
  | nil => rfl
  | cons p l ih => simp [ih]

theorem run_places' {fs : Array Field} (h : fs.all (fun f => (P.info? f.type).isSome) = true) (w : World) :
    (fs.mapM fun (f : Field) => do pure (f.offset, ← sizeOf f.type)).run P w = .ok (fs.map fun (f : Field) => (f.offset, P.cellsOf f.type)) w := by
  obtain ⟨l⟩ := fs
  rw [List.mapM_toArray, List.map_toArray]
  have hl : ∀ f ∈ l, (P.info? f.type).isSome = true := by simpa using h
  have : (l.mapM fun (f : Field) => do pure (f.offset, ← sizeOf f.type)).run P w = .ok (l.map fun (f : Field) => (f.offset, P.cellsOf f.type)) w := by
    clear h
    induction l with
    | nil => simp
    | cons f l ih => have := ih (fun g hg => hl g (by simp [hg])); simp at this; simp [run_size (hl f (by simp)), this]
  simp only [Sem.run_map, this, Result.andThen_ok]

theorem ex_build (hf : FzIn w F) {t : TypeId} {parts : Array (Nat × Operand)} {k : Kd} {xs : List Operand} (hk : trKd P (.build t parts) = some (k, xs)) {as : List RA} (ha : ArgsOk F w m ns as (xs.map a.eval)) {e : Eff} (he : sem k d as = some e)
    (hns : ∀ n ∈ e.frz, n ∈ ns) : Good F m B d w e ((Instr.build t (parts.map fun (i, x) => (i, a.eval x))).run P w) := by
  simp only [trKd, Option.bind_eq_some_iff] at hk
  obtain ⟨z, hz, pl, hpl, hk⟩ := hk
  split at hk
  · rename_i hsz
    cases hk
    obtain ⟨i, zv, hi, hzv, hzp⟩ := zeroP_inv hz
    simp only [sem, Option.bind_eq_some_iff] at he
    obtain ⟨ps, hps, he⟩ := he
    split at he
    · rename_i hlen
      simp only [Option.map_eq_some_iff] at he
      obtain ⟨cs, hcs, rfl⟩ := he
      obtain ⟨h1, h2⟩ := zps_rep (F := F) hzp
      have hrep := ha.pvs hns hps
      obtain ⟨cells', g1, g2, g3, _⟩ := fill_rep (cells := zv.cells) hpl (by simp) hrep h1 h2 hcs
      have hparts : (parts.map fun (i, x) => (i, a.eval x)).toList = (parts.toList.map (·.1)).zip ((parts.toList.map (·.2)).map a.eval) := by
        rw [Array.toList_map]; exact zip_parts parts.toList
      have hval : RepT F m (.p (.agg cs)) (.agg cells') := by
        have := Rep.agg (F := F) cs cells'.toList g2.1 g3 g2.2
        simpa [RepT] using this
      refine .pure (v := .agg cells') ?_ rfl hval
      simp only [Instr.build, Sem.run_bind, run_zero hi hzv, Result.andThen_ok]
      unfold sizedB at hsz
      unfold placeP at g1
      split at hsz
      · rename_i fs hu
        simp only [hu] at g1
        simp only [run_underlying hu, Result.andThen_ok, Sem.run_bind, run_places' hsz, hparts]
        have : (fun (i : Nat) => (fs.map fun (f : Field) => (f.offset, P.cellsOf f.type))[i]?) = fun i => (fs[i]?).map fun (f : Field) => (f.offset, P.cellsOf f.type) := by funext i; simp
        rw [this, g1]
        rfl
      · rename_i n el hu
        simp only [hu] at g1
        simp only [run_underlying hu, Result.andThen_ok, Sem.run_bind, run_size hsz, hparts, g1]
        rfl
      · cases hsz
    · cases he
  · cases hk

end
end Go.Fw
