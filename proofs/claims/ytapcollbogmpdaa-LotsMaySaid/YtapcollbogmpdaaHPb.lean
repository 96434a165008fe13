/-
  The law LotsMay, as it is stated.
-/
import Derived.Test.YtapcollbogmpdaaHPa
set_option linter.unusedVariables false
set_option linter.unusedSimpArgs false
namespace Go.Proofs.Ytapcollbogmpdaa
open Go.ChangeShapes Go.WideShapes Go.ChangeAt Go.RowKit Go.Fw
open Go.ChangeMaps (open_string)

set_option maxRecDepth 100000 in
theorem lotsMay_lifted (os : Os) (started : os.Started) (H : Type) (enc : TypeId × Value → H) :
    ReturnsInHanded {} Try.checked os 5 .any (Rows.lotsMaySpec.pre6 enc Try.prog Try.f5 Rows.lotsMayRow.domain false) (Rows.lotsMaySpec.post enc Try.prog Try.f5 false true false false) := by
  refine returnsInHanded_of_change (C := Try.checked) Try.own started (by kernel_rfl) Try.func5
    (ChangeSpec.witness6 (enc := enc) (C := Try.checked) false ⟨#[], #[zHouse, zLot, .int .i64 0], []⟩ 8 (by kernel_rfl) (by kernel_rfl) (by kernel_rfl) (by kernel_rfl)) ?_
  intro W base args ds gs before hval0 hW hcnd _
  have hval : ∀ (j : Nat) t v, Try.f5.params[j]? = some t → args[j]? = some v → Value.okWide Try.prog W .any base t v := hval0
  have hW' := hW
  have hlt := hW.lt
  obtain ⟨p, q, hA0, hV, rfl, hfz, hnd⟩ := hW
  have hA : DataW.TrodAll enc Try.prog W 0 (fun _ => true) true Try.f5.params.toList args.toList ds p := hA0
  rw [Try.params5] at hA hval
  obtain ⟨v0, v1, v2, d0, d1, d2, p0, p1, p2, rfl, rfl, rfl, h0, h1, h2⟩ := trodAll_three hA
  obtain ⟨rfl, rfl⟩ := trodVars_none hV
  obtain ⟨qs, r0, c0⟩ := open_struct Try.underlying37 flatHouse (hval 0 37 v0 rfl rfl) h0
  obtain ⟨x, rfl, hx⟩ := house_of c0
  obtain ⟨ls, r1, c1⟩ := open_struct Try.underlying54 flatLot (hval 1 54 v1 rfl rfl) h1
  obtain ⟨y, rfl⟩ := lot_of' c1
  obtain ⟨n, hv2, -, -, -⟩ := open_int Try.underlying3 (hval 2 3 v2 rfl rfl) h2
  subst hv2
  clear hA0 hval0
  have hcall := (law_LotsMay x y n).2 W (wF W) [v0, v1, .int .i64 n] (wF_in W) (RepL.cons r0 (RepL.cons r1 (RepL.cons (.v _) RepL.nil)))
  refine hcall.mono fun e W' he => ?_
  obtain ⟨v, F', rfl, hrep, _, _, hb⟩ := he
  obtain rfl := Rep.v_inv hrep
  refine ⟨_, rfl, _, _, _, [], _, [], hW', trodAll_mk1 (shut_bool Try.underlying4 true), trodAll_mk3 (trod_behind (by kernel_rfl) (of_decide_eq_true (by kernel_rfl)) hb h0 hlt ?_) (trod_behind (by kernel_rfl) (of_decide_eq_true (by kernel_rfl)) hb h1 hlt ?_) (trod_behind (by kernel_rfl) (of_decide_eq_true (by kernel_rfl)) hb h2 hlt ?_), rfl, hb.frame _, fun h => by cases h⟩
  all_goals (intro y hy; simp [hy])

theorem lotsMay_closed : joinedFacts Try.prog 5 Try.f5 Rows.lotsMaySpec Rows.lotsMayRow = true := by
  simp only [joinedFacts, Bool.and_eq_true, mayEnterH, liftsH, makeH, heardH, Try.laidOut, rowedH, plainH]
  repeat' apply And.intro
  all_goals first | kernel_rfl | exact True.intro
theorem lotsMay_holds : Rows.LotsMaySaid :=
  OpenClaim.holds_of_wide 5 Try.f5 rfl rfl rfl rfl rfl rfl rfl ⟨rfl, rfl, rfl, rfl, rfl⟩ rfl rfl rfl rfl rfl (by kernel_rfl) Try.func5 lotsMay_closed
    (of_decide_eq_true (by kernel_rfl)) (by unfold Func.isWrapper; first | (rw [if_pos (by decide +kernel)]; kernel_rfl) | (rw [if_neg (by decide +kernel)]; exact ⟨rfl, rfl⟩))
    (fun os started H enc _ => lotsMay_lifted os started H enc)
#print axioms lotsMay_holds

end Go.Proofs.Ytapcollbogmpdaa
