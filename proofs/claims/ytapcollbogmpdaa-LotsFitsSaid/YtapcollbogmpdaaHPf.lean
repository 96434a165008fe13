/-
  The laws LotsAdds and LotsFits, as they are stated.
-/
import Derived.Test.YtapcollbogmpdaaHPa
import Derived.Test.YtapcollbogmpdaaHQ
import Derived.Test.YtapcollbogmpdaaHMa
set_option linter.unusedVariables false
set_option linter.unusedSimpArgs false
namespace Go.Proofs.Ytapcollbogmpdaa
open Go.ChangeShapes Go.WideShapes Go.ChangeAt Go.RowKit Go.Fw
open Go.ChangeMaps (open_string)

set_option maxRecDepth 100000 in
theorem lotsAdds_lifted (os : Os) (started : os.Started) (H : Type) (enc : TypeId × Value → H) :
    ReturnsInHanded {} Try.checked os 11 .any (Rows.lotsAddsSpec.pre6 enc Try.prog Try.f11 Rows.lotsAddsRow.domain false) (Rows.lotsAddsSpec.post enc Try.prog Try.f11 false true false false) := by
  refine returnsInHanded_of_change (C := Try.checked) Try.own started (by kernel_rfl) Try.func11
    (ChangeSpec.witness6 (enc := enc) (C := Try.checked) false ⟨#[], #[zHouse, zLot, .int .i64 0], []⟩ 8 (by kernel_rfl) (by kernel_rfl) (by kernel_rfl) (by kernel_rfl)) ?_
  intro W base args ds gs before hval0 hW hcnd _
  have hval : ∀ (j : Nat) t v, Try.f11.params[j]? = some t → args[j]? = some v → Value.okWide Try.prog W .any base t v := hval0
  have hW' := hW
  have hlt := hW.lt
  obtain ⟨p, q, hA0, hV, rfl, hfz, hnd⟩ := hW
  have hA : DataW.TrodAll enc Try.prog W 0 (fun _ => true) true Try.f11.params.toList args.toList ds p := hA0
  rw [Try.params11] at hA hval
  obtain ⟨v0, v1, v2, d0, d1, d2, p0, p1, p2, rfl, rfl, rfl, h0, h1, h2⟩ := trodAll_three hA
  obtain ⟨rfl, rfl⟩ := trodVars_none hV
  obtain ⟨qs0, r0, c0⟩ := open_struct Try.underlying37 flatHouse (hval 0 37 v0 rfl rfl) h0
  obtain ⟨x0, rfl, hx0⟩ := house_of c0
  obtain ⟨qs1, r1, c1⟩ := open_struct Try.underlying54 flatLot (hval 1 54 v1 rfl rfl) h1
  obtain ⟨x1, rfl⟩ := lot_of' c1
  obtain ⟨x2, hv2, -, -, hr2⟩ := open_int Try.underlying3 (hval 2 3 v2 rfl rfl) h2
  subst hv2
  clear hA0 hval0
  have hcall := (law_LotsAdds x0 hx0 x1 x2).2 W (wF W) [v0, v1, .int .i64 x2] (wF_in W) (RepL.cons r0 (RepL.cons r1 (RepL.cons (.v _) RepL.nil)))
  refine hcall.mono fun e W' he => ?_
  obtain ⟨v, F', rfl, hrep, _, _, hb⟩ := he
  obtain rfl := Rep.v_inv hrep
  refine ⟨_, rfl, _, _, _, [], _, [], hW', trodAll_mk1 (shut_bool Try.underlying4 true), trodAll_mk3 (trod_behind (by kernel_rfl) (of_decide_eq_true (by kernel_rfl)) hb h0 hlt ?_) (trod_behind (by kernel_rfl) (of_decide_eq_true (by kernel_rfl)) hb h1 hlt ?_) (trod_behind (by kernel_rfl) (of_decide_eq_true (by kernel_rfl)) hb h2 hlt ?_), rfl, hb.frame _, fun h => by cases h⟩
  all_goals (intro y hy; simp [hy])

theorem lotsAdds_closed : joinedFacts Try.prog 11 Try.f11 Rows.lotsAddsSpec Rows.lotsAddsRow = true := by
  simp only [joinedFacts, Bool.and_eq_true, mayEnterH, liftsH, makeH, heardH, Try.laidOut, rowedH, plainH]
  repeat' apply And.intro
  all_goals first | kernel_rfl | exact True.intro
theorem lotsAdds_holds : Rows.LotsAddsSaid :=
  OpenClaim.holds_of_wide 11 Try.f11 rfl rfl rfl rfl rfl rfl rfl ⟨rfl, rfl, rfl, rfl, rfl⟩ rfl rfl rfl rfl rfl (by kernel_rfl) Try.func11 lotsAdds_closed
    (of_decide_eq_true (by kernel_rfl)) (by unfold Func.isWrapper; first | (rw [if_pos (by decide +kernel)]; kernel_rfl) | (rw [if_neg (by decide +kernel)]; exact ⟨rfl, rfl⟩))
    (fun os started H enc _ => lotsAdds_lifted os started H enc)
#print axioms lotsAdds_holds

set_option maxRecDepth 100000 in
theorem lotsFits_lifted (os : Os) (started : os.Started) (H : Type) (enc : TypeId × Value → H) :
    ReturnsInHanded {} Try.checked os 12 .any (Rows.lotsFitsSpec.pre6 enc Try.prog Try.f12 Rows.lotsFitsRow.domain false) (Rows.lotsFitsSpec.post enc Try.prog Try.f12 false true false false) := by
  refine returnsInHanded_of_change (C := Try.checked) Try.own started (by kernel_rfl) Try.func12
    (ChangeSpec.witness6 (enc := enc) (C := Try.checked) false ⟨#[], #[zHouse, zLot], []⟩ 8 (by kernel_rfl) (by kernel_rfl) (by kernel_rfl) (by kernel_rfl)) ?_
  intro W base args ds gs before hval0 hW hcnd _
  have hval : ∀ (j : Nat) t v, Try.f12.params[j]? = some t → args[j]? = some v → Value.okWide Try.prog W .any base t v := hval0
  have hW' := hW
  have hlt := hW.lt
  obtain ⟨p, q, hA0, hV, rfl, hfz, hnd⟩ := hW
  have hA : DataW.TrodAll enc Try.prog W 0 (fun _ => true) true Try.f12.params.toList args.toList ds p := hA0
  rw [Try.params12] at hA hval
  obtain ⟨v0, v1, d0, d1, p0, p1, rfl, rfl, rfl, h0, h1⟩ := trodAll_two hA
  obtain ⟨rfl, rfl⟩ := trodVars_none hV
  obtain ⟨qs0, r0, c0⟩ := open_struct Try.underlying37 flatHouse (hval 0 37 v0 rfl rfl) h0
  obtain ⟨x0, rfl, hx0⟩ := house_of c0
  obtain ⟨qs1, r1, c1⟩ := open_struct Try.underlying54 flatLot (hval 1 54 v1 rfl rfl) h1
  obtain ⟨x1, rfl⟩ := lot_of' c1
  clear hA0 hval0
  have hcall := (law_LotsFits x0 x1).2 W (wF W) [v0, v1] (wF_in W) (RepL.cons r0 (RepL.cons r1 RepL.nil))
  refine hcall.mono fun e W' he => ?_
  obtain ⟨v, F', rfl, hrep, _, _, hb⟩ := he
  obtain rfl := Rep.v_inv hrep
  refine ⟨_, rfl, _, _, _, [], _, [], hW', trodAll_mk1 (shut_bool Try.underlying4 true), trodAll_mk2 (trod_behind (by kernel_rfl) (of_decide_eq_true (by kernel_rfl)) hb h0 hlt ?_) (trod_behind (by kernel_rfl) (of_decide_eq_true (by kernel_rfl)) hb h1 hlt ?_), rfl, hb.frame _, fun h => by cases h⟩
  all_goals (intro y hy; simp [hy])

theorem lotsFits_closed : joinedFacts Try.prog 12 Try.f12 Rows.lotsFitsSpec Rows.lotsFitsRow = true := by
  simp only [joinedFacts, Bool.and_eq_true, mayEnterH, liftsH, makeH, heardH, Try.laidOut, rowedH, plainH]
  repeat' apply And.intro
  all_goals first | kernel_rfl | exact True.intro
theorem lotsFits_holds : Rows.LotsFitsSaid :=
  OpenClaim.holds_of_wide 12 Try.f12 rfl rfl rfl rfl rfl rfl rfl ⟨rfl, rfl, rfl, rfl, rfl⟩ rfl rfl rfl rfl rfl (by kernel_rfl) Try.func12 lotsFits_closed
    (of_decide_eq_true (by kernel_rfl)) (by unfold Func.isWrapper; first | (rw [if_pos (by decide +kernel)]; kernel_rfl) | (rw [if_neg (by decide +kernel)]; exact ⟨rfl, rfl⟩))
    (fun os started H enc _ => lotsFits_lifted os started H enc)
#print axioms lotsFits_holds

end Go.Proofs.Ytapcollbogmpdaa
