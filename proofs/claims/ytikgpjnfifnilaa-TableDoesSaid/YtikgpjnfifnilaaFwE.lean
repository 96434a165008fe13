/-
  What the model's operations do, given operands that stand for the abstract ones: those without calls that leave old own memory alone.
-/
import Derived.Test.YtikgpjnfifnilaaFwD
set_option linter.unusedVariables false
set_option linter.unusedSimpArgs false
namespace Go.Fw
open Go.RowKit

theorem info_of_underlying {P : Program} {t : TypeId} {d : TypeDesc} (h : P.underlying t = some d) : ∃ i, P.info? t = some i := by
  unfold Program.underlying at h
  split at h
  · rename_i e; exact ⟨_, e⟩
  · rename_i e; exact ⟨_, e⟩
  · cases h
theorem run_info {P : Program} {t : TypeId} {i : TypeInfo} (h : P.info? t = some i) (w : World) : (typeInfo t).run P w = .ok i w := by
  simp [typeInfo, h]
theorem run_size {P : Program} {t : TypeId} (h : (P.info? t).isSome = true) (w : World) : (sizeOf t).run P w = .ok (P.cellsOf t) w := by
  obtain ⟨i, hi⟩ := Option.isSome_iff_exists.1 h
  simp [sizeOf, run_info hi, Program.cellsOf, hi]
theorem run_isAggD {P : Program} {t : TypeId} {d : TypeDesc} (h : P.underlying t = some d) (w : World) : (isAgg t).run P w = .ok (isAggD d) w := by
  cases d <;> simp [isAgg, run_underlying h, isAggD]

/-- What an operation leaves. -/
def Good (F : Fz) (m : Mp) (B d : Nat) (w : World) (e : Eff) (r : Result Value) : Prop :=
  ∃ v w', r = .ok v w' ∧ ((e.new = none ∧ w' = w ∧ RepT F m e.v v) ∨
    ∃ x obj c, e.new = some x ∧ w' = w.alloc obj ∧ RepT F (upd m d (some w.heap.size, c)) e.v v ∧ OwnOk F (w.alloc obj) B (some w.heap.size, c) x)

section
variable {P : Program} {B nt d : Nat} {w0 : World} {F0 : Fz} {s : St} {a : Act} {w : World} {F : Fz} {m : Mp} {ns : List Nat}

theorem Good.pure {e : Eff} {v : Value} {r : Result Value} (hr : r = .ok v w) (hn : e.new = none) (h : RepT F m e.v v) : Good F m B d w e r := ⟨v, w, hr, .inl ⟨hn, rfl, h⟩⟩

theorem ArgOk.toT {ra : RA} {v : Value} (h : ArgOk F w m ns ra v) : RepT F m ra.toT v := by
  cases ra with
  | p x => exact h
  | nil => exact h
  | own n off cells => obtain ⟨b, ys, hb, rfl, _⟩ := h; exact ⟨b, hb, rfl⟩
  | row n l es xs => obtain ⟨rfl, hn, hl, _⟩ := h; exact ⟨rfl, fun e => by have := hn e; subst this; simpa using hl⟩
  | rp n es i off c => obtain ⟨b, ys, hb, rfl, _⟩ := h; exact ⟨b, hb, rfl⟩
  | mp n kt et es => obtain ⟨b, ents, c, hb, rfl, _⟩ := h; exact ⟨b, hb, rfl⟩

theorem ldv_run {t : TypeId} {td : TypeDesc} (hu : P.underlying t = some td) (hok : (isAggD td || P.cellsOf t == 1) = true) {cells : List PV} {ys : List Value} (hr : RepL F cells ys) (h1 : ∀ y ∈ ys, y.oneCell' = true)
    {b o0 off : Nat} (hc : ∀ (j : Nat) (y : Value), ys[j]? = some y → w.cell? ⟨b, o0 + j, none⟩ = some y) {p : PV} (hp : ldv cells off (P.cellsOf t) (isAggD td) = some p) :
    ∃ v, (loadVar t ⟨b, o0 + off, none⟩).run P w = .ok v w ∧ Rep F p v := by
  obtain ⟨i, hi⟩ := info_of_underlying hu
  have hs := run_size (P := P) (t := t) (by simp [hi]) w
  cases hag : isAggD td with
  | true =>
    rw [hag] at hp
    simp only [ldv] at hp
    split at hp
    · rename_i hle
      cases hp
      have hlen : ((ys.drop off).take (P.cellsOf t)).length = P.cellsOf t := by have := hr.1; simp; omega
      have hl := run_loadCells_list (P := P) w ⟨b, o0 + off, none⟩ ((ys.drop off).take (P.cellsOf t)) (fun j v e => by
        rw [List.getElem?_take] at e
        split at e
        · rw [List.getElem?_drop] at e
          have := hc _ v e
          rw [Addr.add_lit, Nat.add_assoc]; exact this
        · cases e)
      rw [hlen] at hl
      refine ⟨_, by simp [loadVar, run_isAggD hu, hag, hs, hl]; rfl, ?_⟩
      have := ((hr.drop off).take (P.cellsOf t))
      exact Rep.agg _ _ this.1 (fun y hy => h1 y (List.mem_of_mem_drop (List.mem_of_mem_take hy))) this.2
    · cases hp
  | false =>
    rw [hag] at hp
    simp only [ldv] at hp
    obtain ⟨y, hy, hrep⟩ := hr.get hp
    exact ⟨y, by simp [loadVar, run_isAggD hu, hag, hc off y hy], hrep⟩


theorem Rep.v_inv {x v : Value} (h : Rep F (.v x) v) : v = x := by cases h; rfl
theorem Rep.ref_inv {cs : List PV} {off : Nat} {v : Value} (h : Rep F (.ref cs off) v) (hf : FzIn w F) : ∃ b o0 ys, v = .pointer (some ⟨b, o0 + off, none⟩) ∧ RepL F cs ys ∧ (∀ y ∈ ys, y.oneCell' = true) ∧
    (∀ (j : Nat) (y : Value), ys[j]? = some y → F b (o0 + j) = some y) ∧ ∀ (j : Nat) (y : Value), ys[j]? = some y → w.cell? ⟨b, o0 + j, none⟩ = some y := by
  cases h with
  | ref _ _ b o0 ys hl h1 hF hr => exact ⟨b, o0, ys, rfl, ⟨hl, hr⟩, h1, hF, fun j y e => hf _ _ _ (hF j y e)⟩
theorem Rep.agg_inv {cs : List PV} {v : Value} (h : Rep F (.agg cs) v) : ∃ ys, v = .agg ys.toArray ∧ RepL F cs ys ∧ ∀ y ∈ ys, y.oneCell' = true := by
  cases h with
  | agg _ ys hl h1 hr => exact ⟨ys, rfl, ⟨hl, hr⟩, h1⟩
theorem Rep.tup_inv {cs : List PV} {v : Value} (h : Rep F (.tup cs) v) : ∃ ys, v = .tuple ys.toArray ∧ RepL F cs ys := by
  cases h with
  | tup _ ys hl hr => exact ⟨ys, rfl, ⟨hl, hr⟩⟩
theorem Rep.clo_inv {f : FuncId} {cs : List PV} {v : Value} (h : Rep F (.clo f cs) v) : ∃ ys, v = .func (.func f) #[] ys.toArray ∧ RepL F cs ys := by
  cases h with
  | clo _ _ ys hl hr => exact ⟨ys, rfl, ⟨hl, hr⟩⟩
theorem Rep.sl_inv {xs sp : List (List PV)} {v : Value} (h : Rep F (.sl xs sp) v) : ∃ es b off cap o ys, v = .slice o xs.length cap ∧ (∀ x ∈ xs ++ sp, x.length = es) ∧ (xs ++ sp).length ≤ cap ∧ cap ≤ maxLen ∧ (xs ++ sp ≠ [] → o = some ⟨b, off, none⟩) ∧
    RepL F (xs ++ sp).flatten ys ∧ (∀ y ∈ ys, y.oneCell' = true) ∧ ∀ (j : Nat) (y : Value), ys[j]? = some y → F b (off + j) = some y := by
  cases h with
  | sl _ _ es b off cap o ys hw hcap hm ho hl h1 hF hr => exact ⟨es, b, off, cap, o, ys, rfl, hw, hcap, hm, ho, ⟨hl, hr⟩, h1, hF⟩

theorem ex_load (hf : FzIn w F) {t : TypeId} {x : Operand} {k : Kd} {xs : List Operand} (hk : trKd P (.load t x) = some (k, xs)) {as : List RA} (ha : ArgsOk F w m ns as (xs.map a.eval)) {e : Eff} (he : sem k d as = some e) :
    Good F m B d w e ((Instr.loadAt t (a.eval x)).run P w) := by
  simp only [trKd] at hk
  split at hk
  · rename_i td hu
    split at hk
    · rename_i hok
      cases hk
      simp only [sem] at he
      split at he
      · obtain ⟨h, _⟩ := ha
        simp only [Option.map_eq_some_iff] at he
        obtain ⟨p, hp, rfl⟩ := he
        obtain ⟨b, ys, hb, hv, hr, h1, hc, _⟩ := h
        obtain ⟨v, hrun, hrep⟩ := ldv_run (o0 := 0) (b := b) hu hok hr h1 (fun j y e => by rw [Nat.zero_add]; exact hc j y e) hp
        rw [Nat.zero_add] at hrun
        exact .pure (by simp [Instr.loadAt, hv, Instr.sureAddr, hrun]) rfl hrep
      · obtain ⟨h, _⟩ := ha
        simp only [Option.map_eq_some_iff] at he
        obtain ⟨p, hp, rfl⟩ := he
        obtain ⟨b, ys, hb, hv, _, hr, h1, hc⟩ := h
        obtain ⟨v, hrun, hrep⟩ := ldv_run (b := b) hu hok hr h1 hc hp
        exact .pure (by simp [Instr.loadAt, hv, Instr.sureAddr, hrun]) rfl hrep
      · obtain ⟨h, _⟩ := ha
        simp only [Option.map_eq_some_iff] at he
        obtain ⟨p, hp, rfl⟩ := he
        obtain ⟨b, o0, ys, hv, hr, h1, _, hc⟩ := Rep.ref_inv h hf
        obtain ⟨v, hrun, hrep⟩ := ldv_run (b := b) hu hok hr h1 hc hp
        exact .pure (by simp [Instr.loadAt, hv, Instr.sureAddr, hrun]) rfl hrep
      · cases he
    · cases hk
  · cases hk
end
end Go.Fw
