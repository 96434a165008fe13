/-
  The law LayoutBins, as it is stated.
-/
import Derived.Test.YtapcollbogmpdaaHPd
import Derived.Test.YtapcollbogmpdaaHLb
set_option linter.unusedVariables false
set_option linter.unusedSimpArgs false
namespace Go.Proofs.Ytapcollbogmpdaa
open Go.ChangeShapes Go.WideShapes Go.ChangeAt Go.RowKit Go.Fw
open Go.ChangeMaps (open_string)

set_option maxRecDepth 100000 in
theorem layoutBins_lifted (os : Os) (started : os.Started) (H : Type) (enc : TypeId × Value → H) :
    ReturnsInHanded {} Try.checked os 24 .any (Rows.layoutBinsSpec.pre6 enc Try.prog Try.f24 Rows.layoutBinsRow.domain false) (Rows.layoutBinsSpec.post enc Try.prog Try.f24 false true false false) := by
  refine returnsInHanded_of_change (C := Try.checked) Try.own started (by kernel_rfl) Try.func24
    (ChangeSpec.witness6 (enc := enc) (C := Try.checked) false ⟨#[], #[s0, s0], []⟩ 8 (by kernel_rfl) (by kernel_rfl) (by kernel_rfl) (by kernel_rfl)) ?_
  intro W base args ds gs before hval0 hW hcnd _
  have hval : ∀ (j : Nat) t v, Try.f24.params[j]? = some t → args[j]? = some v → Value.okWide Try.prog W .any base t v := hval0
  have hW' := hW
  have hlt := hW.lt
  obtain ⟨p, q, hA0, hV, rfl, hfz, hnd⟩ := hW
  have hA : DataW.TrodAll enc Try.prog W 0 (fun _ => true) true Try.f24.params.toList args.toList ds p := hA0
  rw [Try.params24] at hA hval
  obtain ⟨v0, v1, d0, d1, p0, p1, rfl, rfl, rfl, h0, h1⟩ := trodAll_two hA
  obtain ⟨rfl, rfl⟩ := trodVars_none hV
  obtain ⟨a0, len0, cap0, rfl⟩ := okWide_slice Try.underlying24 (hval 0 24 v0 rfl rfl)
  obtain ⟨rows0, r0, c0⟩ := open_slice (r := .any) (b0 := base) (e := 84) flatZones rfl h0
  obtain ⟨x0, rfl⟩ := rows_of zone_of c0
  obtain ⟨a1, len1, cap1, rfl⟩ := okWide_slice Try.underlying25 (hval 1 25 v1 rfl rfl)
  obtain ⟨rows1, r1, c1⟩ := open_slice (r := .any) (b0 := base) (e := 82) flatBins rfl h1
  obtain ⟨x1, rfl⟩ := rows_of bin_of c1
  clear hA0 hval0
  have hcall := (law_LayoutBins x0 x1 [] []).2 W (wF W) [.slice a0 len0 cap0, .slice a1 len1 cap1] (wF_in W) (RepL.cons r0 (RepL.cons r1 RepL.nil))
  refine hcall.mono fun e W' he => ?_
  obtain ⟨v, F', rfl, hrep, _, _, hb⟩ := he
  obtain rfl := Rep.v_inv hrep
  refine ⟨_, rfl, _, _, _, [], _, [], hW', trodAll_mk1 (shut_bool Try.underlying4 true), trodAll_mk2 (trod_behind (by kernel_rfl) (of_decide_eq_true (by kernel_rfl)) hb h0 hlt ?_) (trod_behind (by kernel_rfl) (of_decide_eq_true (by kernel_rfl)) hb h1 hlt ?_), rfl, hb.frame _, fun h => by cases h⟩
  all_goals (intro y hy; simp [hy])

theorem layoutBins_closed : joinedFacts Try.prog 24 Try.f24 Rows.layoutBinsSpec Rows.layoutBinsRow = true := by
  simp only [joinedFacts, Bool.and_eq_true, mayEnterH, liftsH, makeH, heardH, Try.laidOut, rowedH, plainH]
  repeat' apply And.intro
  all_goals first | kernel_rfl | exact True.intro
theorem layoutBins_holds : Rows.LayoutBinsSaid :=
  OpenClaim.holds_of_wide 24 Try.f24 rfl rfl rfl rfl rfl rfl rfl ⟨rfl, rfl, rfl, rfl, rfl⟩ rfl rfl rfl rfl rfl (by kernel_rfl) Try.func24 layoutBins_closed
    (of_decide_eq_true (by kernel_rfl)) (by unfold Func.isWrapper; first | (rw [if_pos (by decide +kernel)]; kernel_rfl) | (rw [if_neg (by decide +kernel)]; exact ⟨rfl, rfl⟩))
    (fun os started H enc _ => layoutBins_lifted os started H enc)
#print axioms layoutBins_holds

end Go.Proofs.Ytapcollbogmpdaa
