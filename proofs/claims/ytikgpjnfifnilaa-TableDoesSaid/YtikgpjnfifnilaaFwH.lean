/-
  What the model's operations do, continued: sums and tests, places, cuts of slices and texts.
-/
import Derived.Test.YtikgpjnfifnilaaFwG
import Derived.Lib.MinMax
set_option linter.unusedVariables false
set_option linter.unusedSimpArgs false
namespace Go.Fw
open Go.RowKit

theorem toList_beq (a b : ByteArray) : (a.toList == b.toList) = decide (a = b) := by
  rw [ByteArray.toList_eq, ByteArray.toList_eq]
  obtain ⟨⟨a⟩⟩ := a
  obtain ⟨⟨b⟩⟩ := b
  rw [Bool.eq_iff_iff]
  simp

section
variable {P : Program} {B nt d : Nat} {w0 : World} {F0 : Fz} {s : St} {a : Act} {w : World} {F : Fz} {m : Mp} {ns : List Nat}

theorem binV_run {op : BinOp} {u v r : Value} (h : binV op u v = some r) (t : TypeId) (x y : Operand) (w : World) : ((do eqGuard op t x y u v; binOp op t u v) : Sem Value).run P w = .ok r w := by
  unfold binV at h
  split at h
  · rename_i k a k' b
    split at h
    · rename_i hk
      subst hk
      rw [eqGuard_at_int]
      cases op <;> simp only [] at h
      case quo => split at h; · cases h
                  · rename_i hb; cases h; simp [binOp, Op.intDiv, hb]
      case rem => split at h; · cases h
                  · rename_i hb; cases h; simp [binOp, Op.intDiv, hb]
      all_goals first | (cases h; done) | (cases h; simp [binOp, Op.intArith, Op.intCmp]; done) | (cases h; simp [binOp, Op.intCmp]; rfl)
    · cases h
  · rename_i a b
    rw [eqGuard_at_string]
    cases op <;> simp only [] at h
    case add => split at h
                · rename_i hs; cases h; simp [binOp, Op.stringOp]; omega
                · cases h
    all_goals first | (cases h; done) | (cases h; simp [binOp, Op.stringOp, slt, toList_beq]; done)
  · cases h

theorem ex_bin {op : BinOp} {t : TypeId} {x y : Operand} {as : List RA} (ha : ArgsOk F w m ns as ([x, y].map a.eval)) {e : Eff} (he : sem (.bin op) d as = some e) :
    Good F m B d w e (((do eqGuard op t x y (a.eval x) (a.eval y); binOp op t (a.eval x) (a.eval y)) : Sem Value).run P w) := by
  simp only [sem] at he
  split at he
  · rename_i u v
    simp only [Option.map_eq_some_iff] at he
    obtain ⟨r, hr, rfl⟩ := he
    obtain ⟨h1, h2, _⟩ := ha
    rw [Rep.v_inv h1, Rep.v_inv h2]
    exact .pure (binV_run hr t x y w) rfl (Rep.v r)
  · cases he

theorem ex_beq {neg : Bool} {op : BinOp} (hop : op = if neg then .neq else .eql) {t : TypeId} (hu : P.underlying t = some .bool) {x y : Operand} {as : List RA} (ha : ArgsOk F w m ns as ([x, y].map a.eval)) {e : Eff} (he : sem (.beq neg) d as = some e) :
    Good F m B d w e (((do eqGuard op t x y (a.eval x) (a.eval y); binOp op t (a.eval x) (a.eval y)) : Sem Value).run P w) := by
  simp only [sem] at he
  split at he
  · rename_i u v
    cases he
    obtain ⟨h1, h2, _⟩ := ha
    rw [Rep.v_inv h1, Rep.v_inv h2, eqGuard_at_bool]
    subst hop
    cases neg
    · exact .pure (v := .bool (u == v)) (by simp [run_eql_bool w t u v hu]) rfl (by cases u <;> cases v <;> exact Rep.v _)
    · exact .pure (v := .bool (!(u == v))) (by simp [run_neq_bool w t u v hu]) rfl (by cases u <;> cases v <;> exact Rep.v _)
  · cases he

theorem ex_un {op : UnOp} {x : Operand} {as : List RA} (ha : ArgsOk F w m ns as ([x].map a.eval)) {e : Eff} (he : sem (.un op) d as = some e) : Good F m B d w e ((Op.unary op (a.eval x)).run P w) := by
  simp only [sem] at he
  split at he
  · cases he; rw [Rep.v_inv ha.1]; exact .pure rfl rfl (Rep.v _)
  · cases he; rw [Rep.v_inv ha.1]; exact .pure rfl rfl (Rep.v _)
  · cases he

theorem ex_conv {src dst : TypeId} {x : Operand} {k : Kd} {xs : List Operand} (hk : trKd P (.convert src dst x) = some (k, xs)) {as : List RA} (ha : ArgsOk F w m ns as (xs.map a.eval)) {e : Eff} (he : sem k d as = some e) :
    Good F m B d w e ((convert src dst (a.eval x)).run P w) := by
  simp only [trKd] at hk
  split at hk
  · rename_i k1 k2 h1 h2
    cases hk
    simp only [sem] at he
    split at he
    · cases he
      rw [Rep.v_inv ha.1]
      exact .pure (by simp [convert, run_underlying h1, run_underlying h2, Conv.intToInt]) rfl (Rep.v _)
    · cases he
  · cases hk

theorem ex_mkf {f : FuncId} {caps : Array Operand} {as : List RA} (ha : ArgsOk F w m ns as (caps.toList.map a.eval)) {e : Eff} (he : sem (.mkf f) d as = some e) (hns : ∀ n ∈ e.frz, n ∈ ns) :
    Good F m B d w e ((Instr.makeFunc (.func f) #[] (caps.map a.eval)).run P w) := by
  simp only [sem, Option.map_eq_some_iff] at he
  obtain ⟨ps, hps, rfl⟩ := he
  have h := ha.pvs hns hps
  refine .pure rfl rfl ?_
  have := Rep.clo (F := F) f ps (caps.toList.map a.eval) h.1 h.2
  rw [← List.map_toArray, Array.toArray_toList] at this
  exact this

theorem ex_fad {t : TypeId} {x : Operand} {fi : Nat} {k : Kd} {xs : List Operand} (hk : trKd P (.fieldAddr t x fi) = some (k, xs)) {as : List RA} (ha : ArgsOk F w m ns as (xs.map a.eval)) (hf : FzIn w F) {e : Eff} (he : sem k d as = some e) :
    Good F m B d w e ((Instr.fieldAt t (a.eval x) fi).run P w) := by
  simp only [trKd] at hk
  split at hk
  · rename_i fs hu
    split at hk
    · rename_i fd hfd
      split at hk
      · rename_i hc
        cases hk
        have hrun : ∀ (b o : Nat), (Instr.fieldAt t (.pointer (some ⟨b, o, none⟩)) fi).run P w = .ok (.pointer (some ⟨b, o + fd.offset, none⟩)) w := fun b o => by
          simp [Instr.fieldAt, run_underlying hu, hfd, Instr.sureAddr, fieldPlace, run_size hc.1, hc.2, Addr.add_lit]
        simp only [sem] at he
        split at he
        · cases he
          obtain ⟨b, ys, hb, hv, _⟩ := ha.1
          rw [hv]
          exact .pure (hrun b _) rfl ⟨b, hb, rfl⟩
        · cases he
          obtain ⟨b, ys, hb, hv, _⟩ := ha.1
          rw [hv]
          exact .pure (hrun b _) rfl ⟨b, hb, by rw [Nat.add_assoc]⟩
        · cases he
          obtain ⟨b, o0, ys, hv, hr, h1, hF, _⟩ := Rep.ref_inv ha.1 hf
          rw [hv]
          exact .pure (hrun b _) rfl (by rw [Nat.add_assoc]; exact Rep.ref _ _ b o0 ys hr.1 h1 hF hr.2)
        · cases he
      · cases hk
    · cases hk
  · cases hk

theorem part_run {t : TypeId} {td : TypeDesc} (hu : P.underlying t = some td) {cells : List PV} {ys : List Value} (hr : RepL F cells ys) (h1 : ∀ y ∈ ys, y.oneCell' = true) {off : Nat} {p : PV}
    (hp : ldv cells off (P.cellsOf t) (isAggD td) = some p) : ∃ v, (part t ys.toArray off).run P w = .ok v w ∧ Rep F p v := by
  obtain ⟨i, hi⟩ := info_of_underlying hu
  have hs := run_size (P := P) (t := t) (by simp [hi]) w
  cases hag : isAggD td with
  | true =>
    rw [hag] at hp
    simp only [ldv] at hp
    split at hp
    · rename_i hle
      cases hp
      refine ⟨.agg (ys.toArray.extract off (off + P.cellsOf t)), by simp [part, run_isAggD hu, hag, hs], ?_⟩
      have h2 := ((hr.drop off).take (P.cellsOf t))
      have := Rep.agg (F := F) _ _ h2.1 (fun y hy => h1 y (List.mem_of_mem_drop (List.mem_of_mem_take hy))) h2.2
      simpa [List.extract_eq_take_drop] using this
    · cases hp
  | false =>
    rw [hag] at hp
    simp only [ldv] at hp
    obtain ⟨y, hy, hrep⟩ := hr.get hp
    exact ⟨y, by simp [part, run_isAggD hu, hag, hy], hrep⟩

theorem ex_fld {t : TypeId} {x : Operand} {fi : Nat} {k : Kd} {xs : List Operand} (hk : trKd P (.field t x fi) = some (k, xs)) {as : List RA} (ha : ArgsOk F w m ns as (xs.map a.eval)) {e : Eff} (he : sem k d as = some e) :
    Good F m B d w e ((Instr.field t (a.eval x) fi).run P w) := by
  simp only [trKd] at hk
  split at hk
  · rename_i fs hu
    split at hk
    · rename_i fd hfd
      split at hk
      · rename_i td hd
        cases hk
        simp only [sem] at he
        split at he
        · simp only [Option.map_eq_some_iff] at he
          obtain ⟨p, hp, rfl⟩ := he
          obtain ⟨ys, hv, hr, h1⟩ := Rep.agg_inv ha.1
          obtain ⟨v, hrun, hrep⟩ := part_run (w := w) hd hr h1 hp
          rw [hv]
          exact .pure (by simp [Instr.field, run_underlying hu, hfd, asAgg, hrun]) rfl hrep
        · cases he
      · cases hk
    · cases hk
  · cases hk

theorem ex_iad (hf : FzIn w F) {t : TypeId} {x i : Operand} {k : Kd} {xs : List Operand} (hk : trKd P (.indexAddr t x i) = some (k, xs)) {as : List RA} (ha : ArgsOk F w m ns as (xs.map a.eval)) {e : Eff} (he : sem k d as = some e) :
    Good F m B d w e ((Instr.indexAt t (a.eval x) (a.eval i)).run P w) := by
  simp only [trKd] at hk
  split at hk
  · rename_i el hu
    split at hk
    · rename_i hi
      cases hk
      have hel : P.elem t = el := by simp [Program.elem, hu]
      have hrun : ∀ (b o len cap : Nat) (kd : IntKind) (j : Int), 0 ≤ j → j < len → (Instr.indexAt t (.slice (some ⟨b, o, none⟩) len cap) (.int kd j)).run P w = .ok (.pointer (some ⟨b, o + j.toNat * P.cellsOf el, none⟩)) w := fun b o len cap kd j h0 h1 => by
        rw [run_indexAt_slice w t _ len cap kd j (by rw [hel]; exact hu), if_pos ⟨h0, h1⟩, hel, run_size hi]
        simp [Addr.add_lit]
      simp only [sem] at he
      split at he
      · rename_i n len es' xs kd j
        split at he
        · rename_i hc
          cases he
          obtain ⟨⟨hv, hnil, hle, hw, ys, hr, h1, hcells⟩, h2, _⟩ := ha
          rw [Rep.v_inv h2, hv]
          cases hb : (m n).1 with
          | none =>
            have := hnil hb
            subst this
            have : len = 0 := by simpa using hle
            omega
          | some b =>
            have : rowVal (m n) len = .slice (some ⟨b, 0, none⟩) len (m n).2 := by simp [rowVal, hb]
            rw [this]
            exact .pure (hrun b 0 len _ kd j hc.1 hc.2.1) rfl ⟨b, hb, by simp [hc.2.2]⟩
        · cases he
      · rename_i xs sp kd j
        split at he
        · rename_i h0
          simp only [Option.bind_eq_some_iff] at he
          obtain ⟨c, hc, he⟩ := he
          split at he
          · rename_i hcl
            cases he
            obtain ⟨h1, h2, _⟩ := ha
            rw [Rep.v_inv h2]
            obtain ⟨es, b, off, cap, o, ys, hv, hw, hcap, hm, ho, hr, h1', hF⟩ := Rep.sl_inv h1
            have hj : j.toNat < xs.length := (List.getElem?_eq_some_iff.1 hc).1
            have hne : xs ++ sp ≠ [] := by intro e; simp at e; simp [e.1] at hj
            rw [hv, ho hne]
            have hces : c.length = es := hw c (by simp [List.mem_of_getElem? hc])
            have hes : P.cellsOf el = es := by rw [← hcl, hces]
            have hget : ∀ q, q < es → (xs ++ sp).flatten[j.toNat * es + q]? = c[q]? := fun q hq => by
              rw [flatten_get hw _ _ hq, List.getElem?_append_left hj, hc]; rfl
            have hlen : j.toNat * es + es ≤ ys.length := by
              rw [hr.1, flatten_length hw]
              have : (j.toNat + 1) * es ≤ (xs ++ sp).length * es := Nat.mul_le_mul_right _ (by simp; omega)
              rw [Nat.succ_mul] at this; exact this
            refine .pure (hrun b off xs.length cap kd j h0 (by omega)) rfl ?_
            rw [hes]
            have := Rep.ref (F := F) c 0 b (off + j.toNat * es) ((ys.drop (j.toNat * es)).take es) (by simp; omega) (fun y hy => h1' y (List.mem_of_mem_drop (List.mem_of_mem_take hy))) (fun q y hq => by
              rw [List.getElem?_take] at hq
              split at hq
              · rw [List.getElem?_drop] at hq
                have := hF _ y hq
                rwa [← Nat.add_assoc] at this
              · cases hq) (fun q p y hp hq => by
              rw [List.getElem?_take] at hq
              split at hq
              · rename_i hlt
                rw [List.getElem?_drop] at hq
                exact hr.2 _ p y (by rw [hget q hlt]; exact hp) hq
              · cases hq)
            simpa [RepT] using this
          · cases he
        · cases he
      · cases he
    · cases hk
  · rename_i n el hu
    split at hk
    · rename_i hi
      cases hk
      have hel : P.elem t = el := by simp [Program.elem, hu]
      have hal : P.arrayLen t = n := by simp [Program.arrayLen, hu]
      have hrun : ∀ (b o : Nat) (kd : IntKind) (j : Int), 0 ≤ j → j < n → (Instr.indexAt t (.pointer (some ⟨b, o, none⟩)) (.int kd j)).run P w = .ok (.pointer (some ⟨b, o + j.toNat * P.cellsOf el, none⟩)) w := fun b o kd j h0 h1 => by
        rw [run_indexAt_array w t _ kd j (by rw [hel, hal]; exact hu), hal, if_pos ⟨h0, h1⟩, hel, run_size hi]
        simp [Addr.add_lit]
      simp only [sem] at he
      split at he
      · split at he
        · rename_i hc
          cases he
          obtain ⟨⟨b, ys, hb, hv, _⟩, h2, _⟩ := ha
          rw [Rep.v_inv h2, hv]
          exact .pure (hrun b _ _ _ hc.1 hc.2) rfl ⟨b, hb, rfl⟩
        · cases he
      · split at he
        · rename_i hc
          cases he
          obtain ⟨h1, h2, _⟩ := ha
          obtain ⟨b, o0, ys, hv, hr, h1', hF, _⟩ := Rep.ref_inv h1 hf
          rw [Rep.v_inv h2, hv]
          exact .pure (hrun b _ _ _ hc.1 hc.2) rfl (by rw [Nat.add_assoc]; exact Rep.ref _ _ b o0 ys hr.1 h1' hF hr.2)
        · cases he
      · cases he
    · cases hk
  · cases hk

theorem ex_idx {t : TypeId} {x i : Operand} {k : Kd} {xs : List Operand} (hk : trKd P (.index t x i) = some (k, xs)) {as : List RA} (ha : ArgsOk F w m ns as (xs.map a.eval)) {e : Eff} (he : sem k d as = some e) :
    Good F m B d w e ((Instr.index t (a.eval x) (a.eval i)).run P w) := by
  simp only [trKd] at hk
  split at hk
  · rename_i n el hu
    split at hk
    · rename_i td hd
      cases hk
      simp only [sem] at he
      split at he
      · split at he
        · rename_i hc
          simp only [Option.map_eq_some_iff] at he
          obtain ⟨p, hp, rfl⟩ := he
          obtain ⟨h1, h2, _⟩ := ha
          obtain ⟨ys, hv, hr, h1'⟩ := Rep.agg_inv h1
          obtain ⟨v, hrun, hrep⟩ := part_run (w := w) hd hr h1' hp
          obtain ⟨ii, hi⟩ := info_of_underlying hd
          rw [Rep.v_inv h2, hv]
          exact .pure (by simp [Instr.index, asIntOf, run_underlying hu, hc, run_size (P := P) (t := el) (by simp [hi]), hrun]) rfl hrep
        · cases he
      · cases he
    · cases hk
  · rename_i hu
    cases hk
    simp only [sem] at he
    split at he
    · split at he
      · rename_i hc
        cases he
        obtain ⟨h1, h2, _⟩ := ha
        rw [Rep.v_inv h2, Rep.v_inv h1]
        exact .pure (by simp [Instr.index, asIntOf, run_underlying hu, hc.1, hc.2]) rfl (Rep.v _)
      · cases he
    · cases he
  · cases hk

theorem ex_ext {x : Operand} {i : Nat} {as : List RA} (ha : ArgsOk F w m ns as ([x].map a.eval)) {e : Eff} (he : sem (.ext i) d as = some e) : Good F m B d w e ((Instr.extract (a.eval x) i).run P w) := by
  simp only [sem] at he
  split at he
  · simp only [Option.map_eq_some_iff] at he
    obtain ⟨p, hp, rfl⟩ := he
    obtain ⟨ys, hv, hr⟩ := Rep.tup_inv ha.1
    obtain ⟨y, hy, hrep⟩ := hr.get hp
    rw [hv]
    exact .pure (by simp [Instr.extract, hy]) rfl hrep
  · cases he

theorem ex_max {x y : Operand} {ts : Array TypeId} {ty : TypeId} {as : List RA} (ha : ArgsOk F w m ns as ([x, y].map a.eval)) {e : Eff}
    (he : sem .bmax d as = some e) : Good F m B d w e ((Builtin.max_ ts ty #[a.eval x, a.eval y]).run P w) := by
  simp only [sem] at he
  split at he
  · rename_i i j
    cases he
    obtain ⟨h1, h2, _⟩ := ha
    rw [Rep.v_inv h1, Rep.v_inv h2]
    have hm : (Builtin.max_ ts ty #[.int .i64 i, .int .i64 j]).run P w = .ok (.int .i64 (max i j)) w := by
      rw [Go.Lib.run_max_ints]
    exact .pure hm rfl (Rep.v _)
  · cases he
theorem ex_len {x : Operand} {t ty : TypeId} {c : Nat} (hu : match c with | 0 => ∃ e, P.underlying t = some (.slice e) | 1 => P.underlying t = some .string | _ => ∃ k e, P.underlying t = some (.map k e)) {as : List RA} (ha : ArgsOk F w m ns as ([x].map a.eval)) {e : Eff}
    (he : sem (.len c) d as = some e) : Good F m B d w e ((Builtin.len_ #[t] ty #[a.eval x]).run P w) := by
  simp only [sem] at he
  split at he
  · rename_i n l es xs
    cases he
    obtain ⟨el, hel⟩ := hu
    obtain ⟨⟨hv, hnil, hle, _⟩, _⟩ := ha
    rw [hv]
    have : ∃ o c, rowVal (m n) l = .slice o l c := by
      unfold rowVal
      split
      · exact ⟨_, _, rfl⟩
      · rename_i e
        have := hnil e
        subst this
        have : l = 0 := by simpa using hle
        subst this
        exact ⟨_, _, rfl⟩
    obtain ⟨o, c, hrv⟩ := this
    rw [hrv]
    exact .pure (by simp [Builtin.len_, run_underlying hel, goInt]) rfl (Rep.v _)
  · cases he
    obtain ⟨el, hel⟩ := hu
    obtain ⟨es, b, off, cap, o, ys, hv, _⟩ := Rep.sl_inv ha.1
    rw [hv]
    exact .pure (by simp [Builtin.len_, run_underlying hel, goInt]) rfl (Rep.v _)
  · cases he
    obtain ⟨el, hel⟩ := hu
    have hv : a.eval x = .slice none 0 0 := ha.1
    rw [hv]
    exact .pure (by simp [Builtin.len_, run_underlying hel, goInt]) rfl (Rep.v _)
  · cases he
    have hv := Rep.v_inv ha.1
    rw [hv]
    exact .pure (by simp [Builtin.len_, run_underlying hu, goInt]) rfl (Rep.v _)
  · cases he
    obtain ⟨k, el, hel⟩ := hu
    obtain ⟨⟨b, ents, c, hb, hv, hh, hsz, _⟩, _⟩ := ha
    rw [hv]
    exact .pure (by simp [Builtin.len_, run_underlying hel, goInt, getObj, Sem.run, hh, hsz]) rfl (Rep.v _)
  · cases he
end
end Go.Fw
