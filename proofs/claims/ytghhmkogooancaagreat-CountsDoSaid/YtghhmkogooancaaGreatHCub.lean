/-
  Counts: the chapter's examples.
-/
import Derived.Test.YtghhmkogooancaaGreatHCq
import Derived.Test.YtghhmkogooancaaGreatIrH
set_option linter.unusedVariables false
set_option linter.unusedSimpArgs false
set_option maxRecDepth 10000
namespace Go.Fw
open Go.Proofs

theorem out_any {F : FuncId} {ps : List PV} {p : House × Int} {e : Int} (c : Ret Tryz.prog F ps (houseOut p)) (he : p.2 = e) : ∃ g : House, Ret Tryz.prog F ps (.tup [.agg g.enc, .v (.int .i64 e)]) := ⟨p.1, by rw [← he]; exact c⟩
theorem out_at {F : FuncId} {ps : List PV} {p : House × Int} {g : House} {e : Int} (c : Ret Tryz.prog F ps (houseOut p)) (he : p = (g, e)) : Ret Tryz.prog F ps (.tup [.agg g.enc, .v (.int .i64 e)]) := by rw [he] at c; exact c
theorem few_small {h : House} (hs : h.small = true) : Few h 400 := by
  simp only [House.small, Bool.and_eq_true, decide_eq_true_eq] at hs
  exact ⟨by omega, by omega, by omega, by omega⟩


/-! ### The chapter's examples -/
def nut : Str := ⟨#[110, 117, 116]⟩
def b21 : Bin := { Bin.zero with code := ⟨#[98]⟩, kind := 1, volume := 8 }
def k21 : Key := ⟨⟨#[98]⟩, nut, ⟨#[]⟩, 1⟩
def h21 : House := { House.zero with items := ⟨[{ Item.zero with code := nut, volume := 1 }], []⟩, bins := ⟨[b21], []⟩, quants := ⟨[⟨⟨#[98]⟩, nut, ⟨#[]⟩, 1, 5, 2⟩], []⟩ }
def s21 : House := { h21 with bins := ⟨[{ b21 with frozen := true }], []⟩ }
def r21 (n : Int) : House := { s21 with counted := ⟨[⟨⟨#[98]⟩, nut, ⟨#[]⟩, 1, n⟩], []⟩ }
def g21 : House := { h21 with quants := ⟨[⟨⟨#[98]⟩, nut, ⟨#[]⟩, 1, 3, 2⟩], []⟩, totals := ⟨[⟨nut, ⟨#[]⟩, 0, 0, 0, -2⟩], []⟩ }
def lost21 : Str := ⟨#[108, 111, 115, 116]⟩
def found21 : Str := ⟨#[102, 111, 117, 110, 100]⟩
theorem e21a : h21.count ⟨#[98]⟩ true = (s21, 0) := by kernel_rfl
theorem e21b : s21.record k21 1 = (r21 1, 0) := by kernel_rfl
theorem e21c : ((r21 1).close ⟨#[98]⟩ lost21).2 = 28 := by kernel_rfl
theorem e21d : s21.record k21 3 = (r21 3, 0) := by kernel_rfl
theorem e21e : (r21 3).close ⟨#[98]⟩ lost21 = (g21, 0) := by kernel_rfl
theorem e21f : s21.record k21 9 = (r21 9, 0) := by kernel_rfl
theorem e21i : ((r21 9).close ⟨#[98]⟩ found21).2 = 26 := by kernel_rfl
theorem e21q : g21.quant? k21 = some ⟨⟨#[98]⟩, nut, ⟨#[]⟩, 1, 3, 2⟩ := by kernel_rfl
theorem nuts28 : Ret Tryz.prog 28 [] (.agg k21.enc) := by
  refine ret28 rfl fun hbd => ?_
  unfold c28
  repeat (first
    | refine r_sem rfl rfl rfl rfl ?_ | refine r_nil ?_ | refine r_storeAll rfl rfl rfl rfl rfl rfl ?_ | refine r_alloc rfl ?_ | refine run_seq ?_ | refine run_reg ?_ | refine run_ret ?_
    | refine fin_seq ?_)
  exact fin_out rfl rfl
set_option maxHeartbeats 4000000 in
theorem small27 : Ret Tryz.prog 27 [] (.agg h21.enc) := by
  refine ret27 rfl fun hbd => ?_
  unfold c27
  repeat (first
    | refine r_call rfl (nuts28) ?_ | refine r_storeF (fs := [9]) rfl rfl rfl rfl rfl rfl (And.intro rfl (Nat.le_of_ble_eq_true rfl)) (by decide) ?_ | refine r_fad rfl rfl ?_
    | refine r_loadB rfl rfl ?_ | refine r_sem rfl rfl rfl rfl ?_ | refine r_nil ?_ | refine r_storeAll rfl rfl rfl rfl rfl rfl ?_ | refine r_alloc rfl ?_
    | refine r_bsl rfl rfl rfl rfl rfl rfl ?_ | refine r_semF rfl rfl rfl rfl ?_ | refine run_seq ?_ | refine run_reg ?_ | refine run_ret ?_ | refine fin_seq ?_)
  exact fin_out rfl rfl
theorem few21 (h : House) (h1 : h.quants.xs.length ≤ 1) (h2 : h.totals.xs.length ≤ 1) (h3 : h.bins.xs.length ≤ 1) (h4 : h.counted.xs.length ≤ 1) : Few h 400 := ⟨by omega, by omega, by omega, by omega⟩
set_option maxHeartbeats 16000000 in
theorem awake10 : Ret Tryz.prog 10 [] (.v (.bool true)) := by
  refine ret10 rfl fun hbd => ?_
  have ca := out_at (count12 h21 ⟨#[98]⟩ (by decide) (by decide)) e21a
  have cb := out_at (record15 s21 k21 1 (by decide)) e21b
  obtain ⟨g3, cc⟩ := out_any (close17 (r21 1) ⟨#[98]⟩ lost21 (few21 _ (Nat.le_refl _) (Nat.zero_le _) (Nat.le_refl _) (Nat.le_refl _))) e21c
  have cd := out_at (record15 s21 k21 3 (by decide)) e21d
  have ce := out_at (close17 (r21 3) ⟨#[98]⟩ lost21 (few21 _ (Nat.le_refl _) (Nat.zero_le _) (Nat.le_refl _) (Nat.le_refl _))) e21e
  have cf := out_at (record15 s21 k21 9 (by decide)) e21f
  obtain ⟨g7, ci⟩ := out_any (close17 (r21 9) ⟨#[98]⟩ found21 (few21 _ (Nat.le_refl _) (Nat.zero_le _) (Nat.le_refl _) (Nat.le_refl _))) e21i
  have cq := findQuant g21 k21
  rw [e21q] at cq
  unfold c10
  repeat (first
    | refine r_call rfl (small27) ?_ | refine r_call rfl (nuts28) ?_ | refine r_call rfl (ca) ?_ | refine r_call rfl (cb) ?_ | refine r_call rfl (cc) ?_ | refine r_call rfl (cd) ?_
    | refine r_call rfl (ce) ?_ | refine r_call rfl (cf) ?_ | refine r_call rfl (ci) ?_ | refine r_call rfl (cq) ?_ | refine r_mv_p rfl ?_ | refine r_doA rfl ?_ | refine r_fad rfl rfl ?_
    | refine r_loadB rfl rfl ?_ | refine r_pickT rfl rfl rfl ?_ | refine r_sem rfl rfl rfl rfl ?_ | refine r_nil ?_ | refine r_storeAll rfl rfl rfl rfl rfl rfl ?_ | refine r_alloc rfl ?_
    | refine run_seq ?_ | refine run_reg ?_ | refine run_regd rfl ?_ | refine run_ret ?_ | refine fin_seq ?_)
  exact fin_out rfl rfl
end Go.Fw
