/-
  '==' and '!=' of structs and arrays, leaf by leaf.
-/
import Derived.Test.YtikgpjnfifnilaaFwI
import Derived.DeepKeys
set_option linter.unusedVariables false
set_option linter.unusedSimpArgs false
namespace Go.Fw
open Go.RowKit

def valsEq : List Ck → List Value → List Value → Option Bool
  | [], [], [] => some true
  | .b :: ks, .bool a :: xs, .bool b :: ys => (valsEq ks xs ys).map (decide (a = b) && ·)
  | .i k :: ks, .int k1 a :: xs, .int k2 b :: ys => if k1 = k ∧ k2 = k then (valsEq ks xs ys).map (decide (a = b) && ·) else none
  | .s :: ks, .string a :: xs, .string b :: ys => (valsEq ks xs ys).map (decide (a = b) && ·)
  | _, _, _ => none

theorem cellsEq_vals {F : Fz} : ∀ {ks : List Ck} {cs ds : List PV} {us vs : List Value} {b : Bool}, RepL F cs us → RepL F ds vs → cellsEq ks cs ds = some b → valsEq ks us vs = some b := by
  intro ks
  induction ks with
  | nil =>
    intro cs ds us vs b h1 h2 h
    unfold cellsEq at h
    split at h <;> first | (cases h; done) | skip
    all_goals first | (simp_all; done) | skip
    cases h
    have e1 : us = [] := List.eq_nil_of_length_eq_zero (by simpa using h1.1)
    have e2 : vs = [] := List.eq_nil_of_length_eq_zero (by simpa using h2.1)
    subst e1; subst e2
    rfl
  | cons k ks ih =>
    intro cs ds us vs b h1 h2 h
    unfold cellsEq at h
    split at h
    · simp_all
    · rename_i e
      cases e
      obtain ⟨y, zs, rfl, hy, hz⟩ := h1.head
      obtain ⟨y', zs', rfl, hy', hz'⟩ := h2.head
      cases Rep.v_inv hy; cases Rep.v_inv hy'
      simp only [Option.map_eq_some_iff] at h
      obtain ⟨c, hc, rfl⟩ := h
      simp [valsEq, ih hz hz' hc]
    · rename_i e
      cases e
      obtain ⟨y, zs, rfl, hy, hz⟩ := h1.head
      obtain ⟨y', zs', rfl, hy', hz'⟩ := h2.head
      cases Rep.v_inv hy; cases Rep.v_inv hy'
      split at h
      · rename_i hk
        simp only [Option.map_eq_some_iff] at h
        obtain ⟨c, hc, rfl⟩ := h
        simp [valsEq, hk, ih hz hz' hc]
      · cases h
    · rename_i e
      cases e
      obtain ⟨y, zs, rfl, hy, hz⟩ := h1.head
      obtain ⟨y', zs', rfl, hy', hz'⟩ := h2.head
      cases Rep.v_inv hy; cases Rep.v_inv hy'
      simp only [Option.map_eq_some_iff] at h
      obtain ⟨c, hc, rfl⟩ := h
      simp [valsEq, ih hz hz' hc]
    · cases h

theorem valsEq_len : ∀ {ks : List Ck} {us vs : List Value} {b : Bool}, valsEq ks us vs = some b → us.length = ks.length ∧ vs.length = ks.length := by
  intro ks
  induction ks with
  | nil => intro us vs b h; unfold valsEq at h; split at h <;> simp_all
  | cons k ks ih =>
    intro us vs b h
    unfold valsEq at h
    split at h
    · simp_all
    · rename_i e; cases e; simp only [Option.map_eq_some_iff] at h; obtain ⟨c, hc, _⟩ := h; have := ih hc; simp [this.1, this.2]
    · rename_i e; cases e
      split at h
      · simp only [Option.map_eq_some_iff] at h; obtain ⟨c, hc, _⟩ := h; have := ih hc; simp [this.1, this.2]
      · cases h
    · rename_i e; cases e; simp only [Option.map_eq_some_iff] at h; obtain ⟨c, hc, _⟩ := h; have := ih hc; simp [this.1, this.2]
    · cases h

theorem valsEq_append : ∀ {js ks : List Ck} {us vs : List Value} {b : Bool}, valsEq (js ++ ks) us vs = some b →
    ∃ b1 b2, valsEq js (us.take js.length) (vs.take js.length) = some b1 ∧ valsEq ks (us.drop js.length) (vs.drop js.length) = some b2 ∧ b = (b1 && b2) := by
  intro js
  induction js with
  | nil => intro ks us vs b h; exact ⟨true, b, by simp [valsEq], by simpa using h, by simp⟩
  | cons j js ih =>
    intro ks us vs b h
    rw [List.cons_append] at h
    unfold valsEq at h
    split at h
    · simp_all
    · rename_i e; cases e; simp only [Option.map_eq_some_iff] at h; obtain ⟨c, hc, rfl⟩ := h; obtain ⟨b1, b2, h1, h2, rfl⟩ := ih hc; refine ⟨_, b2, ?_, by simpa using h2, (Bool.and_assoc _ _ _).symm⟩; simp [valsEq, h1]
    · rename_i e; cases e
      split at h
      · rename_i hk; simp only [Option.map_eq_some_iff] at h; obtain ⟨c, hc, rfl⟩ := h; obtain ⟨b1, b2, h1, h2, rfl⟩ := ih hc; refine ⟨_, b2, ?_, by simpa using h2, (Bool.and_assoc _ _ _).symm⟩; simp [valsEq, hk, h1]
      · cases h
    · rename_i e; cases e; simp only [Option.map_eq_some_iff] at h; obtain ⟨c, hc, rfl⟩ := h; obtain ⟨b1, b2, h1, h2, rfl⟩ := ih hc; refine ⟨_, b2, ?_, by simpa using h2, (Bool.and_assoc _ _ _).symm⟩; simp [valsEq, h1]
    · cases h

section
variable {P : Program}
def aggB (P : Program) (t : TypeId) : Bool := match P.underlying t with | some td => isAggD td | none => false
def valOf (P : Program) (t : TypeId) (us : List Value) : Value := if aggB P t then .agg us.toArray else us.headD undef

theorem part_val {t : TypeId} {td : TypeDesc} (hu : P.underlying t = some td) {us : List Value} {off : Nat} (hl : off + P.cellsOf t ≤ us.length) (h1 : isAggD td = false → P.cellsOf t = 1) (w : World) :
    (part t us.toArray off).run P w = .ok (valOf P t ((us.drop off).take (P.cellsOf t))) w := by
  obtain ⟨i, hi⟩ := info_of_underlying hu
  have hs := run_size (P := P) (t := t) (by simp [hi]) w
  cases hag : isAggD td with
  | true => simp [part, run_isAggD hu, hag, hs, valOf, aggB, hu, List.extract_eq_take_drop]
  | false =>
    have hc := h1 hag
    have ho : off < us.length := by omega
    rw [hc]
    have : (us.drop off).take 1 = [us[off]] := by rw [List.drop_eq_getElem_cons ho]; rfl
    simp [part, run_isAggD hu, hag, valOf, aggB, hu, this, ho]

theorem flatK_under {d : Nat} {t : TypeId} {ks : List Ck} (h : flatK P d t = some ks) : ∃ td, P.underlying t = some td ∧ (isAggD td = false → ks.length = 1) := by
  cases d with
  | zero => cases h
  | succ d =>
    unfold flatK at h
    split at h <;> first | (cases h; done) | skip
    · rename_i hu; cases h; exact ⟨_, hu, fun _ => rfl⟩
    · rename_i hu; cases h; exact ⟨_, hu, fun _ => rfl⟩
    · rename_i hu; cases h; exact ⟨_, hu, fun _ => rfl⟩
    · rename_i hu; exact ⟨_, hu, fun e => by simp [isAggD] at e⟩
    · rename_i hu; exact ⟨_, hu, fun e => by simp [isAggD] at e⟩

theorem eqFields_run {D : Nat} {g : TypeId → Option (List Ck)} (IH : ∀ t ks, g t = some ks → (∃ td, P.underlying t = some td ∧ (isAggD td = false → ks.length = 1)) ∧ ∀ us vs b w, valsEq ks us vs = some b → (Op.equalIn D t (valOf P t us) (valOf P t vs)).run P w = .ok b w) {us vs : List Value} :
    ∀ (fs : List Field) (off : Nat) (ks : List Ck), flatFs P g fs off = some ks → ∀ b, valsEq ks (us.drop off) (vs.drop off) = some b → ∀ w, (Op.eqFields D us.toArray vs.toArray fs).run P w = .ok b w
  | [], off, ks, h, b, hv, w => by
    cases h
    have : b = true := by unfold valsEq at hv; split at hv <;> simp_all
    subst this
    simp [Op.eqFields]
  | f :: fs, off, ks, h, b, hv, w => by
    simp only [flatFs, Option.bind_eq_some_iff] at h
    obtain ⟨js, hj, h⟩ := h
    split at h
    · rename_i hc
      simp only [Option.map_eq_some_iff] at h
      obtain ⟨ks', hks, rfl⟩ := h
      have hlen := valsEq_len hv
      obtain ⟨b1, b2, h1, h2, rfl⟩ := valsEq_append hv
      obtain ⟨⟨td, hu, hone⟩, hrun⟩ := IH f.type js hj
      have hlu : off + P.cellsOf f.type ≤ us.length := by have := hlen.1; simp at this; rw [hc.2.2.1]; omega
      have hlv : off + P.cellsOf f.type ≤ vs.length := by have := hlen.2; simp at this; rw [hc.2.2.1]; omega
      have hp1 := part_val hu hlu (fun e => by rw [hc.2.2.1]; exact hone e) w
      have hp2 := part_val hu hlv (fun e => by rw [hc.2.2.1]; exact hone e) w
      rw [hc.2.2.1] at hp1 hp2
      simp only [Op.eqFields, hc.1, ne_eq, not_false_eq_true, if_true, Sem.run_bind, hc.2.1, hp1, hp2, Result.andThen_ok, hrun _ _ _ w h1]
      cases b1 with
      | false => simp
      | true =>
        have := eqFields_run IH fs (off + js.length) ks' hks b2 (by rw [List.drop_drop] at h2; rw [List.drop_drop] at h2; exact h2) w
        simpa using this
    · cases h

theorem eqItems_run {D : Nat} {e : TypeId} {js : List Ck} (hjs : P.cellsOf e = js.length) (hj0 : 0 < js.length) (hu : ∃ td, P.underlying e = some td ∧ (isAggD td = false → js.length = 1))
    (IH : ∀ us vs b w, valsEq js us vs = some b → (Op.equalIn D e (valOf P e us) (valOf P e vs)).run P w = .ok b w) {us vs : List Value} :
    ∀ (n k : Nat) (b : Bool), valsEq (List.replicate n js).flatten (us.drop (k * js.length)) (vs.drop (k * js.length)) = some b → ∀ w, (Op.eqItems D e js.length us.toArray vs.toArray (List.range' k n)).run P w = .ok b w
  | 0, k, b, hv, w => by
    have : b = true := by simp at hv; unfold valsEq at hv; split at hv <;> simp_all
    subst this
    simp [Op.eqItems]
  | n + 1, k, b, hv, w => by
    rw [List.replicate_succ, List.flatten_cons] at hv
    have hlen := valsEq_len hv
    obtain ⟨b1, b2, h1, h2, rfl⟩ := valsEq_append hv
    obtain ⟨td, hu, hone⟩ := hu
    have hlu : k * js.length + P.cellsOf e ≤ us.length := by have := hlen.1; simp at this; rw [hjs]; omega
    have hlv : k * js.length + P.cellsOf e ≤ vs.length := by have := hlen.2; simp at this; rw [hjs]; omega
    have hp1 := part_val hu hlu (fun e => by rw [hjs]; exact hone e) w
    have hp2 := part_val hu hlv (fun e => by rw [hjs]; exact hone e) w
    rw [hjs] at hp1 hp2
    simp only [List.range'_succ, Op.eqItems, Sem.run_bind, hp1, hp2, Result.andThen_ok, IH _ _ _ w h1]
    cases b1 with
    | false => simp
    | true =>
      have := eqItems_run hjs hj0 ⟨td, hu, hone⟩ IH n (k + 1) b2 (by rw [List.drop_drop] at h2; rw [List.drop_drop] at h2; rw [Nat.succ_mul]; exact h2) w
      simpa using this

theorem equal_run : ∀ (d : Nat) (t : TypeId) (ks : List Ck), flatK P d t = some ks → ∀ D, d ≤ D → ∀ us vs b w, valsEq ks us vs = some b → (Op.equalIn D t (valOf P t us) (valOf P t vs)).run P w = .ok b w
  | 0, _, _, h, _, _, _, _, _, _, _ => by cases h
  | d + 1, t, ks, h, 0, hD, _, _, _, _, _ => by omega
  | d + 1, t, ks, h, D + 1, hD, us, vs, b, w, hv => by
    have IH := fun t ks h => equal_run d t ks h D (by omega)
    unfold flatK at h
    split at h <;> first | (cases h; done) | skip
    · rename_i hu
      cases h
      unfold valsEq at hv
      split at hv <;> first | (simp_all; done) | skip
      rename_i e
      cases e
      simp only [Option.map_eq_some_iff] at hv
      obtain ⟨c, hc, rfl⟩ := hv
      have : c = true := by unfold valsEq at hc; split at hc <;> simp_all
      subst this
      simp only [valOf, aggB, hu, isAggD, Bool.false_eq_true, if_false, List.headD_cons, run_equalIn_bool w D t _ _ hu]
      have hb : ∀ a b : Bool, (a == b) = decide (a = b) := by decide
      simp [hb]
    · rename_i k hu
      cases h
      unfold valsEq at hv
      split at hv <;> first | (simp_all; done) | skip
      rename_i e
      cases e
      split at hv
      · simp only [Option.map_eq_some_iff] at hv
        obtain ⟨c, hc, rfl⟩ := hv
        have : c = true := by unfold valsEq at hc; split at hc <;> simp_all
        subst this
        rename_i hk
        obtain ⟨rfl, rfl⟩ := hk
        simp only [valOf, aggB, hu, isAggD, Bool.false_eq_true, if_false, List.headD_cons, run_equalIn_int w D t _ _ _ _ hu, Bool.and_true]
        congr 1
      · cases hv
    · rename_i hu
      cases h
      unfold valsEq at hv
      split at hv <;> first | (simp_all; done) | skip
      rename_i e
      cases e
      simp only [Option.map_eq_some_iff] at hv
      obtain ⟨c, hc, rfl⟩ := hv
      have : c = true := by unfold valsEq at hc; split at hc <;> simp_all
      subst this
      simp only [valOf, aggB, hu, isAggD, Bool.false_eq_true, if_false, List.headD_cons, run_equalIn_string w D t _ _ hu, Bool.and_true, toList_beq]
    · rename_i fs hu
      split at h
      · cases h
      · rename_i hst
        have hfs : P.fieldsOf t = fs := by simp [Program.fieldsOf, hu]
        have := eqFields_run (P := P) (D := D) (g := flatK P d) (fun t ks h => ⟨flatK_under h, IH t ks h⟩) (us := us) (vs := vs) fs.toList 0 ks h b (by simpa using hv) w
        simp only [valOf, aggB, hu, isAggD, if_true]
        rw [run_equalIn_struct w D t us.toArray vs.toArray (by rw [hfs]; exact hu) (by simpa using hst), hfs]
        exact this
    · rename_i n e hu
      simp only [Option.bind_eq_some_iff] at h
      obtain ⟨js, hj, h⟩ := h
      split at h
      · rename_i hc
        cases h
        obtain ⟨td, hue, hone⟩ := flatK_under hj
        obtain ⟨i, hi⟩ := info_of_underlying hue
        have := eqItems_run (P := P) (D := D) hc.1 hc.2 ⟨td, hue, hone⟩ (fun us vs b w h => IH e js hj us vs b w h) (us := us) (vs := vs) n 0 b (by simpa using hv) w
        simp only [valOf, aggB, hu, isAggD, if_true]
        rw [run_equalIn_array w D us.toArray vs.toArray hu hi, hc.1, List.range_eq_range']
        exact this
      · cases h

theorem ex_eqs {F : Fz} {m : Mp} {B d : Nat} {w : World} {a : Act} {ns : List Nat} {neg : Bool} {op : BinOp} (hop : op = if neg then .neq else .eql) {t : TypeId} {td : TypeDesc} (hu : P.underlying t = some td) (hag : isAggD td = true) (hg : P.eqGuardType P.depth t = false) {ks : List Ck}
    (hk : flatK P 64 t = some ks) {x y : Operand} {as : List RA} (ha : ArgsOk F w m ns as ([x, y].map a.eval)) {e : Eff} (he : sem (.eqs neg ks) d as = some e) :
    Good F m B d w e (((do eqGuard op t x y (a.eval x) (a.eval y); binOp op t (a.eval x) (a.eval y)) : Sem Value).run P w) := by
  simp only [sem] at he
  split at he
  · rename_i cs ds
    simp only [Option.map_eq_some_iff] at he
    obtain ⟨r, hr, rfl⟩ := he
    obtain ⟨h1, h2, _⟩ := ha
    obtain ⟨us, hvu, hru, _⟩ := Rep.agg_inv h1
    obtain ⟨vs, hvv, hrv, _⟩ := Rep.agg_inv h2
    have hv := cellsEq_vals hru hrv hr
    have hrun := equal_run (P := P) 64 t ks hk 10000 (by omega) us vs r w hv
    have e1 : valOf P t us = .agg us.toArray := by simp [valOf, aggB, hu, hag]
    have e2 : valOf P t vs = .agg vs.toArray := by simp [valOf, aggB, hu, hag]
    rw [e1, e2] at hrun
    rw [hvu, hvv]
    subst hop
    cases neg
    · exact .pure (v := .bool r) (by simp only [Sem.run_bind, run_eqGuard_agg w _ t x y us.toArray vs.toArray hg, Result.andThen_ok, Bool.false_eq_true, if_false, run_eql_struct, hrun]) rfl (by cases r <;> exact Rep.v _)
    · exact .pure (v := .bool (!r)) (by simp only [Sem.run_bind, run_eqGuard_agg w _ t x y us.toArray vs.toArray hg, Result.andThen_ok, if_true, run_neq_struct, hrun]) rfl (by cases r <;> exact Rep.v _)
  · cases he
end
end Go.Fw
