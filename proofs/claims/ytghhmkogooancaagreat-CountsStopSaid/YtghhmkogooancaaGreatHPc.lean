/-
  The law CountsStop, as it is stated.
-/
import Derived.Test.YtghhmkogooancaaGreatRows
import Derived.Test.YtghhmkogooancaaGreatHPa
import Derived.Test.YtghhmkogooancaaGreatHCv
import Derived.ProofKit
import Derived.Test.YtghhmkogooancaaGreatFwZ
set_option linter.unusedVariables false
set_option linter.unusedSimpArgs false
namespace Go.Proofs.YtghhmkogooancaaGreat
open Go.ChangeShapes Go.WideShapes Go.ChangeAt Go.RowKit Go.Fw
open Go.ChangeMaps (open_string)

set_option maxRecDepth 100000 in
theorem countsStop_lifted (os : Os) (started : os.Started) (H : Type) (enc : TypeId × Value → H) :
    ReturnsInHanded {} Tryz.checked os 5 .any (Rows.countsStopSpec.pre6 enc Tryz.prog Tryz.f5 Rows.countsStopRow.domain false) (Rows.countsStopSpec.post enc Tryz.prog Tryz.f5 false true false false) := by
  refine returnsInHanded_of_change (C := Tryz.checked) Tryz.own started (by kernel_rfl) Tryz.func5
    (ChangeSpec.witness6 (enc := enc) (C := Tryz.checked) false ⟨#[], #[zHouse, zCounted], []⟩ 8 (by kernel_rfl) (by kernel_rfl) (by kernel_rfl) (by kernel_rfl)) ?_
  intro W base args ds gs before hval0 hW hcnd _
  have hval : ∀ (j : Nat) t v, Tryz.f5.params[j]? = some t → args[j]? = some v → Value.okWide Tryz.prog W .any base t v := hval0
  have hW' := hW
  have hlt := hW.lt
  obtain ⟨p, q, hA0, hV, rfl, hfz, hnd⟩ := hW
  have hA : DataW.TrodAll enc Tryz.prog W 0 (fun _ => true) true Tryz.f5.params.toList args.toList ds p := hA0
  rw [Tryz.params5] at hA hval
  obtain ⟨v0, v1, d0, d1, p0, p1, rfl, rfl, rfl, h0, h1⟩ := trodAll_two hA
  obtain ⟨rfl, rfl⟩ := trodVars_none hV
  obtain ⟨qs0, r0, c0⟩ := open_struct Tryz.underlying37 flatHouse (hval 0 37 v0 rfl rfl) h0
  obtain ⟨x0, rfl, hx0⟩ := house_of c0
  obtain ⟨qs1, r1, c1⟩ := open_struct Tryz.underlying41 flatCounted (hval 1 41 v1 rfl rfl) h1
  obtain ⟨x1, rfl⟩ := counted_of' c1
  clear hA0 hval0
  have hcall := (law_CountsStop x0 hx0 x1).2 W (wF W) [v0, v1] (wF_in W) (RepL.cons r0 (RepL.cons r1 RepL.nil))
  refine hcall.mono fun e W' he => ?_
  obtain ⟨v, F', rfl, hrep, _, _, hb⟩ := he
  obtain rfl := Rep.v_inv hrep
  refine ⟨_, rfl, _, _, _, [], _, [], hW', trodAll_mk1 (shut_bool Tryz.underlying4 true), trodAll_mk2 (trod_behind (by kernel_rfl) (of_decide_eq_true (by kernel_rfl)) hb h0 hlt ?_) (trod_behind (by kernel_rfl) (of_decide_eq_true (by kernel_rfl)) hb h1 hlt ?_), rfl, hb.frame _, fun h => by cases h⟩
  all_goals (intro y hy; simp [hy])

theorem countsStop_closed : joinedFacts Tryz.prog 5 Tryz.f5 Rows.countsStopSpec Rows.countsStopRow = true := by
  simp only [joinedFacts, Bool.and_eq_true, mayEnterH, liftsH, makeH, heardH, Tryz.laidOut, rowedH, plainH]
  repeat' apply And.intro
  all_goals first | kernel_rfl | exact True.intro
theorem countsStop_holds : Rows.CountsStopSaid :=
  OpenClaim.holds_of_wide 5 Tryz.f5 rfl rfl rfl rfl rfl rfl rfl ⟨rfl, rfl, rfl, rfl, rfl⟩ rfl rfl rfl rfl rfl (by kernel_rfl) Tryz.func5 countsStop_closed
    (of_decide_eq_true (by kernel_rfl)) (by unfold Func.isWrapper; first | (rw [if_pos (by decide +kernel)]; kernel_rfl) | (rw [if_neg (by decide +kernel)]; exact ⟨rfl, rfl⟩))
    (fun os started H enc _ => countsStop_lifted os started H enc)
#print axioms countsStop_holds

end Go.Proofs.YtghhmkogooancaaGreat
