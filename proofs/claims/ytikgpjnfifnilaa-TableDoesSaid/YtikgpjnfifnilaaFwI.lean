/-
  What the model's operations do, continued: slices of slices, of texts, of arrays; maps; equality leaf by leaf.
-/
import Derived.Test.YtikgpjnfifnilaaFwH
set_option linter.unusedVariables false
set_option linter.unusedSimpArgs false
namespace Go.Fw
open Go.RowKit

section
variable {P : Program} {B nt d : Nat} {w0 : World} {F0 : Fz} {s : St} {a : Act} {w : World} {F : Fz} {m : Mp} {ns : List Nat}

/-- The bounds of a slice expression, as the model reckons them. -/
theorem bnds_run {isSlice : Bool} {len cap : Nat} {lo hi : Option Operand} {as : List RA} (ha : ArgsOk F w m ns as ((lo.toList ++ hi.toList).map a.eval)) {l h : Nat} (hb : bnds lo.isSome hi.isSome len as = some (l, h)) (hlh : l ≤ h) (hc : h ≤ cap) :
    (Instr.sliceBounds isSlice len cap (lo.map a.eval) (hi.map a.eval) none).run P w = .ok (l, h, cap) w := by
  have one : ∀ (v : Value) (k : IntKind) (i : Int) (y : Nat) (code : BoundsCode), v = .int k i → 0 ≤ i → i.toNat ≤ y → (Instr.sliceBound v y code).run P w = .ok i.toNat w := by
    intro v k i y code hv h0 h1
    subst hv
    simp [Instr.sliceBound, asIntOf, h0, show i ≤ y by omega]
  cases lo with
  | none =>
    cases hi with
    | none =>
      simp only [bnds, Option.isSome_none] at hb
      split at hb <;> first | (cases hb; done) | skip
      all_goals first | (simp_all; done) | skip
      cases hb
      simp [Instr.sliceBounds]
    | some y =>
      simp only [bnds, Option.isSome_none, Option.isSome_some] at hb
      split at hb <;> first | (simp_all; done) | skip
      split at hb
      · rename_i h0
        cases hb
        have h1 := Rep.v_inv ha.1
        simp [Instr.sliceBounds, one _ _ _ cap _ h1 h0 hc]
      · cases hb
  | some x =>
    cases hi with
    | none =>
      simp only [bnds, Option.isSome_none, Option.isSome_some] at hb
      split at hb <;> first | (simp_all; done) | skip
      split at hb
      · rename_i h0
        cases hb
        have h1 := Rep.v_inv ha.1
        simp [Instr.sliceBounds, one _ _ _ len _ h1 h0 hlh]
      · cases hb
    | some y =>
      simp only [bnds, Option.isSome_some] at hb
      split at hb <;> first | (simp_all; done) | skip
      split at hb
      · rename_i h0
        cases hb
        obtain ⟨h1, h2, _⟩ := ha
        simp [Instr.sliceBounds, one _ _ _ cap _ (Rep.v_inv h2) h0.2 hc, one _ _ _ _ _ (Rep.v_inv h1) h0.1 hlh]
      · cases hb

theorem drop_take_drop {α : Type} (L : List α) {l h : Nat} (hlh : l ≤ h) : (L.take h).drop l ++ L.drop h = L.drop l := by
  rw [List.drop_take]
  have : L.drop h = (L.drop l).drop (h - l) := by rw [List.drop_drop]; congr 1; omega
  rw [this, List.take_append_drop]

/-- A cut of what is frozen. -/
theorem Rep.cut {L : List (List PV)} {es b off cap : Nat} {o : Option Addr} {ys : List Value} (hw : ∀ x ∈ L, x.length = es) (hcap : L.length ≤ cap) (hm : cap ≤ maxLen) (ho : L ≠ [] → o = some ⟨b, off, none⟩) (hr : RepL F L.flatten ys)
    (h1 : ∀ y ∈ ys, y.oneCell' = true) (hF : ∀ (j : Nat) (y : Value), ys[j]? = some y → F b (off + j) = some y) {l h : Nat} (hlh : l ≤ h) (hh : h ≤ L.length) (q : Nat) (hq : L ≠ [] → l = 0 ∨ q = es) :
    Rep F (.sl ((L.take h).drop l) (L.drop h)) (.slice (if cap = l then o else o.map (·.add (l * q))) (h - l) (cap - l)) := by
  have hap := drop_take_drop L hlh
  have hlen : ((L.take h).drop l).length = h - l := by rw [List.length_drop, List.length_take]; omega
  have hrep : RepL F (L.drop l).flatten (ys.drop (l * es)) := by rw [flatten_drop hw]; exact hr.drop _
  have key := Rep.sl (F := F) ((L.take h).drop l) (L.drop h) es b (off + l * es) (cap - l) (if cap = l then o else o.map (·.add (l * q))) (ys.drop (l * es)) (by rw [hap]; exact fun z hz => hw z (List.mem_of_mem_drop hz))
    (by rw [hap, List.length_drop]; omega) (by omega)
    (by
      rw [hap]
      intro hne
      have hne' : L ≠ [] := by intro e; rw [e] at hne; simp at hne
      have hl : l < L.length := by
        rcases Nat.lt_or_ge l L.length with h | h
        · exact h
        · exact absurd (List.drop_eq_nil_of_le h) hne
      rw [if_neg (by omega), ho hne']
      simp only [Option.map_some, Addr.add_lit]
      rcases hq hne' with e | e
      · subst e; simp
      · subst e; rfl) (by rw [hap]; exact hrep.1) (fun y hy => h1 y (List.mem_of_mem_drop hy)) (fun j y hj => by
      rw [List.getElem?_drop] at hj
      have := hF _ y hj
      rwa [← Nat.add_assoc] at this) (by rw [hap]; exact hrep.2)
  rw [hlen] at key
  exact key

theorem ex_slc {t : TypeId} {x : Operand} {lo hi : Option Operand} {el : TypeId} (hu : P.underlying t = some (.slice el)) (hi' : (P.info? el).isSome = true) {as : List RA}
    (ha : ArgsOk F w m ns as ((x :: (lo.toList ++ hi.toList)).map a.eval)) {e : Eff} (he : sem (.slc (P.cellsOf el) lo.isSome hi.isSome) d as = some e) (hns : ∀ n ∈ e.frz, n ∈ ns) :
    Good F m B d w e ((Instr.sliceAt t (a.eval x) (lo.map a.eval) (hi.map a.eval) none).run P w) := by
  have hrun : ∀ (o : Option Addr) (len cap l h : Nat), (Instr.sliceBounds true len cap (lo.map a.eval) (hi.map a.eval) none).run P w = .ok (l, h, cap) w →
      (Instr.sliceAt t (.slice o len cap) (lo.map a.eval) (hi.map a.eval) none).run P w = .ok (.slice (if cap = l then o else o.map (·.add (l * P.cellsOf el))) (h - l) (cap - l)) w := fun o len cap l h hb => by
    simp [Instr.sliceAt, run_underlying hu, Instr.slice, hb, run_size hi']
  simp only [sem] at he
  split at he
  · rename_i xs sp r
    simp only [Option.bind_eq_some_iff] at he
    obtain ⟨⟨l, h⟩, hb, he⟩ := he
    split at he
    · rename_i hc
      cases he
      obtain ⟨h1, h2⟩ := ha
      obtain ⟨es, b, off, cap, o, ys, hv, hw, hcap, hm, ho, hr, h1', hF⟩ := Rep.sl_inv h1
      simp only at hc
      have hbr := bnds_run (P := P) (isSlice := true) (cap := cap) h2 hb hc.1 (by omega)
      rw [hv]
      refine .pure (hrun _ _ _ l h hbr) rfl (Rep.cut hw hcap hm ho hr h1' hF hc.1 hc.2.1 _ fun hne => ?_)
      rcases hc.2.2 with e | e
      · exact .inl e
      · refine .inr ?_
        cases hL : xs ++ sp with
        | nil => exact absurd hL hne
        | cons z zs =>
          rw [hL] at e
          have := hw z (by rw [hL]; simp)
          simp [headLen] at e
          omega
    · cases he
  · rename_i n len es' xs r
    simp only [Option.bind_eq_some_iff] at he
    obtain ⟨⟨l, h⟩, hb, he⟩ := he
    obtain ⟨⟨hv, hnil, hle, hw, ys, hr, h1', hcells⟩, h2⟩ := ha
    rw [hv]
    cases hb' : (m n).1 with
    | none =>
      have := hnil hb'
      subst this
      have hl0 : len = 0 := by simpa using hle
      subst hl0
      have hrv : rowVal (m n) 0 = .slice none 0 0 := by simp [rowVal, hb']
      rw [hrv]
      split at he
      · rename_i hc
        cases he
        simp only [List.length_nil] at hc
        have e1 : l = 0 := hc.1
        have e2 : h = 0 := by omega
        subst e1; subst e2
        have hbr := bnds_run (P := P) (isSlice := true) (len := 0) (cap := 0) h2 hb (by omega) (by omega)
        exact .pure (hrun _ _ _ 0 0 hbr) rfl ⟨by simp [rowVal, hb'], fun _ => rfl⟩
      · split at he
        · rename_i hc1 hc
          simp only [List.length_nil] at hc hc1
          omega
        · cases he
    | some b =>
      obtain ⟨k1, k2, k3, k4⟩ := hcells b hb'
      have hrv : rowVal (m n) len = .slice (some ⟨b, 0, none⟩) len (m n).2 := by simp [rowVal, hb']
      rw [hrv]
      split at he
      · rename_i hc
        cases he
        simp only at hc
        have e1 : l = 0 := hc.1
        subst e1
        have hbr := bnds_run (P := P) (isSlice := true) (cap := (m n).2) h2 hb (by omega) (by omega)
        refine .pure (hrun _ _ _ 0 h hbr) rfl ⟨?_, fun e => by rw [hb'] at e; cases e⟩
        simp [rowVal, hb', Addr.add_lit]
      · split at he
        · rename_i hc
          cases he
          simp only at hc
          have hbr := bnds_run (P := P) (isSlice := true) (cap := (m n).2) h2 hb hc.1 (by omega)
          refine .pure (hrun _ _ _ l h hbr) rfl ?_
          exact Rep.cut (off := 0) hw k1 k2 (fun _ => rfl) hr h1' (fun j y e => by rw [Nat.zero_add]; exact k4 (hns n (by simp)) j y e) hc.1 hc.2.1 _ fun _ => .inr hc.2.2.symm
        · cases he
  · cases he

theorem ex_sstr {t : TypeId} {x : Operand} {lo hi : Option Operand} (hu : P.underlying t = some .string) {as : List RA}
    (ha : ArgsOk F w m ns as ((x :: (lo.toList ++ hi.toList)).map a.eval)) {e : Eff} (he : sem (.sstr lo.isSome hi.isSome) d as = some e) :
    Good F m B d w e ((Instr.sliceAt t (a.eval x) (lo.map a.eval) (hi.map a.eval) none).run P w) := by
  simp only [sem] at he
  split at he
  · rename_i s r
    simp only [Option.bind_eq_some_iff] at he
    obtain ⟨⟨l, h⟩, hb, he⟩ := he
    split at he
    · rename_i hc
      cases he
      obtain ⟨h1, h2⟩ := ha
      have hbr := bnds_run (P := P) (isSlice := false) (cap := s.size) h2 hb hc.1 hc.2
      rw [Rep.v_inv h1]
      exact .pure (by simp [Instr.sliceAt, run_underlying hu, Instr.slice, hbr]) rfl (Rep.v _)
    · cases he
  · cases he

theorem chunks_length {es : Nat} : ∀ (n : Nat) (l : List PV), (chunks es n l).length = n
  | 0, _ => rfl
  | n + 1, l => by simp [chunks, chunks_length n]
theorem chunks_width {es : Nat} : ∀ (n : Nat) (l : List PV), n * es ≤ l.length → ∀ x ∈ chunks es n l, x.length = es
  | 0, _, _, x, hx => by simp [chunks] at hx
  | n + 1, l, hl, x, hx => by
    simp only [chunks, List.mem_cons] at hx
    rw [Nat.succ_mul] at hl
    rcases hx with rfl | hx
    · simp; omega
    · exact chunks_width n (l.drop es) (by simp; omega) x hx
theorem chunks_flatten {es : Nat} : ∀ (n : Nat) (l : List PV), (chunks es n l).flatten = l.take (n * es)
  | 0, l => by simp [chunks]
  | n + 1, l => by
    have h : (n + 1) * es = es + n * es := by rw [Nat.succ_mul, Nat.add_comm]
    rw [chunks, List.flatten_cons, chunks_flatten n, h, List.take_add]

theorem ex_sarr {t : TypeId} {x : Operand} {lo hi : Option Operand} {el : TypeId} {n : Nat} (hu : P.underlying t = some (.array n el)) (hi' : (P.info? el).isSome = true) (hn : n ≤ maxLen) {as : List RA}
    (ha : ArgsOk F w m ns as ((x :: (lo.toList ++ hi.toList)).map a.eval)) {e : Eff} (he : sem (.sarr (P.cellsOf el) n lo.isSome hi.isSome) d as = some e) (hns : ∀ n ∈ e.frz, n ∈ ns) :
    Good F m B d w e ((Instr.sliceAt t (a.eval x) (lo.map a.eval) (hi.map a.eval) none).run P w) := by
  simp only [sem] at he
  split at he
  · rename_i nm o cells r
    simp only [Option.bind_eq_some_iff] at he
    obtain ⟨⟨l, h⟩, hb, he⟩ := he
    split at he
    · rename_i hc
      cases he
      simp only at hc
      obtain ⟨⟨b, ys, hb', hv, hr, h1', hcell, hfr⟩, h2⟩ := ha
      have hbr := bnds_run (P := P) (isSlice := false) (cap := n) h2 hb hc.1 hc.2.1
      rw [hv]
      have hw := chunks_width (es := P.cellsOf el) n (cells.drop o) (by simp; omega)
      have hfl := chunks_flatten (es := P.cellsOf el) n (cells.drop o)
      refine .pure (v := .slice (if n = l then some ⟨b, o, none⟩ else (some (⟨b, o, none⟩ : Addr)).map (·.add (l * P.cellsOf el))) (h - l) (n - l)) ?_ rfl ?_
      · simp only [Instr.sliceAt, Sem.run_bind, run_underlying hu, Result.andThen_ok, Instr.sureAddr, Sem.run_pure, hbr, run_size hi', Option.map_some]
        split <;> rfl
      · refine Rep.cut (L := chunks (P.cellsOf el) n (cells.drop o)) (off := o) (ys := (ys.drop o).take (n * P.cellsOf el)) hw (by rw [chunks_length]; exact Nat.le_refl _) hn (fun _ => rfl) ?_ (fun y hy => h1' y (List.mem_of_mem_drop (List.mem_of_mem_take hy))) (fun j y e => ?_) hc.1 (by rw [chunks_length]; exact hc.2.1) _ fun _ => .inr rfl
        · rw [hfl]; exact (hr.drop o).take _
        · rw [List.getElem?_take] at e
          split at e
          · rw [List.getElem?_drop] at e
            exact hfr (hns nm (by simp)) _ y e
          · cases e
    · cases he
  · cases he

theorem ex_mkmap (hB : B ≤ w.heap.size) (hf : FzIn w F) {t : TypeId} {kt et : Nat} {as : List RA} {e : Eff} (he : sem (.mkmap kt et) d as = some e) : Good F m B d w e ((Instr.makeMap t none).run P w) := by
  simp only [sem] at he
  split at he
  · cases he
    refine ⟨.map (some w.heap.size), w.alloc (.map #[] 0), by simp [Instr.makeMap], .inr ⟨_, _, 0, rfl, rfl, ⟨w.heap.size, by simp [Fw.upd], rfl⟩, w.heap.size, #[], 0, rfl, hB, heap_alloc_new w _, by simp, rfl, by simp⟩⟩
  · cases he

theorem findNow_str (k : ByteArray) : ∀ (l : List MapEntry) (es : List (ByteArray × PV)) (i : Nat), l.length = es.length → (∀ (j : Nat) (q : ByteArray) (p : PV) (e : MapEntry), es[j]? = some (q, p) → l[j]? = some e → e.key = .string q ∧ Rep F p e.val) →
    (∃ j e p, Instr.findNow .string (.string k) l i = some (some (i + j, e.val)) ∧ l[j]? = some e ∧ es[j]? = some (k, p) ∧ mfind k es = some p ∧ (∀ x, mput k x es = es.set j (k, x)) ∧ mcut k es = es.eraseIdx j) ∨
    (Instr.findNow .string (.string k) l i = some none ∧ mfind k es = none ∧ (∀ x, mput k x es = es ++ [(k, x)]) ∧ mcut k es = es)
  | [], es, i, hl, hr => by
    have : es = [] := List.eq_nil_of_length_eq_zero (by simpa using hl.symm)
    subst this
    exact .inr ⟨rfl, rfl, fun _ => rfl, rfl⟩
  | e :: l, [], i, hl, hr => by simp at hl
  | e :: l, (q, p) :: es, i, hl, hr => by
    have h0 := hr 0 q p e rfl rfl
    have hbeq : (k == q) = decide (k = q) := by rw [beq_toListBytes, toList_beq]
    have hsn : Instr.sameNow .string (.string k) e.key = some (decide (k = q)) := by rw [h0.1]; simp only [Instr.sameNow, hbeq]
    by_cases hk : k = q
    · subst hk
      refine .inl ⟨0, e, p, ?_, rfl, rfl, by simp [mfind], fun x => by simp [mput], by simp [mcut]⟩
      simp [Instr.findNow, hsn]
    · have hs' : Instr.sameNow .string (.string k) e.key = some false := by rw [hsn]; simp [hk]
      rcases findNow_str k l es (i + 1) (by simpa using hl) (fun j q' p' e' h1 h2 => hr (j + 1) q' p' e' (by simpa using h1) (by simpa using h2)) with ⟨j, e', p', g1, g2, g3, g4, g5, g6⟩ | ⟨g1, g2, g3, g4⟩
      · refine .inl ⟨j + 1, e', p', ?_, by simpa using g2, by simpa using g3, by simp [mfind, hk, g4], fun x => by simp [mput, hk, g5], by simp [mcut, hk, g6]⟩
        simp only [Instr.findNow, hs', g1]
        congr 3; omega
      · exact .inr ⟨by simp only [Instr.findNow, hs', g1], by simp [mfind, hk, g2], fun x => by simp [mput, hk, g3], by simp [mcut, hk, g4]⟩

theorem checkKey_str {kt : TypeId} (h : P.underlying kt = some .string) (b : Bool) (n : Nat) (s : ByteArray) (w : World) : (Instr.checkKey b (n + 1) kt (.string s)).run P w = .ok () w := by
  simp [Instr.checkKey, run_underlying h]

theorem zvP_rep {t : TypeId} {p : PV} (h : zvP P t = some p) : ∃ z, (∀ w, (zeroValue t).run P w = .ok z w) ∧ Rep F p z := by
  unfold zvP at h
  split at h
  · rename_i i hi
    split at h
    · rename_i cs hz
      simp only [Option.map_eq_some_iff] at h
      obtain ⟨ps, hps, rfl⟩ := h
      obtain ⟨h1, h2⟩ := zps_rep (F := F) hps
      refine ⟨_, fun w => run_zero hi hz w, ?_⟩
      have := Rep.agg (F := F) ps cs.toList h1.1 h2 h1.2
      simpa using this
    · rename_i z _ hz
      exact ⟨z, fun w => run_zero hi hz w, (zp_rep h).1⟩
    · cases h
  · cases h

theorem ex_look {t kt et : TypeId} {mo ko : Operand} {ok : Bool} {z : PV} (hu : P.underlying t = some (.map kt et)) (hku : P.underlying kt = some .string) (hz : zvP P et = some z) {as : List RA}
    (ha : ArgsOk F w m ns as ([mo, ko].map a.eval)) {e : Eff} (he : sem (.look kt z ok) d as = some e) : Good F m B d w e ((Instr.lookup t (a.eval mo) (a.eval ko) ok).run P w) := by
  simp only [sem] at he
  split at he
  · rename_i n kt' et' es k
    split at he
    · rename_i hkt
      obtain ⟨⟨b, ents, c, hb, hv, hh, hsz, hent⟩, h2, _⟩ := ha
      rw [hv, Rep.v_inv h2]
      obtain ⟨zv, hzr, hzrep⟩ := zvP_rep (F := F) hz
      have hget : (getObj b).run P w = .ok (.map ents c) w := by simp [getObj, Sem.run, hh]
      rcases findNow_str k ents.toList es 0 (by simpa using hsz) (fun j q p e h1 h2 => hent j q p e h1 (by simpa using h2)) with ⟨j, e', p', g1, g2, g3, g4, g5, g6⟩ | ⟨g1, g2, g3, g4⟩
      · have hrep : Rep F p' e'.val := (hent j k p' e' g3 (by simpa using g2)).2
        rw [g4] at he
        cases ok <;> simp only at he <;> cases he
        · exact .pure (by simp [Instr.lookup, run_underlying hu, hget, checkKey_str hku, Instr.findKey, run_underlying hku, g1]) rfl hrep
        · exact .pure (v := .tuple [e'.val, .bool true].toArray) (by simp [Instr.lookup, run_underlying hu, hget, checkKey_str hku, Instr.findKey, run_underlying hku, g1]) rfl
            (Rep.tup _ _ rfl (RepL.cons hrep (RepL.cons (Rep.v _) RepL.nil)).2)
      · rw [g2] at he
        cases ok <;> simp only at he <;> cases he
        · exact .pure (by simp [Instr.lookup, run_underlying hu, hget, checkKey_str hku, Instr.findKey, run_underlying hku, g1, hzr]) rfl hzrep
        · exact .pure (v := .tuple [zv, .bool false].toArray) (by simp [Instr.lookup, run_underlying hu, hget, checkKey_str hku, Instr.findKey, run_underlying hku, g1, hzr]) rfl
            (Rep.tup _ _ rfl (RepL.cons hzrep (RepL.cons (Rep.v _) RepL.nil)).2)
    · cases he
  · cases he
end
end Go.Fw
