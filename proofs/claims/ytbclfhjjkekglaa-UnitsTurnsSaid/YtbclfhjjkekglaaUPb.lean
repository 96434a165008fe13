/-
  The laws UnitsSplits and UnitsTurns, as they are stated: what base units are as units.
-/
import Derived.Test.YtbclfhjjkekglaaUPa
import Derived.Test.YtbclfhjjkekglaaUV
set_option linter.unusedVariables false
set_option linter.unusedSimpArgs false
namespace Go.Proofs.Ytbclfhjjkekglaa
open Go.ChangeShapes Go.WideShapes Go.ChangeAt Go.RowKit Go.Fw
open Go.ChangeMaps (open_string)
theorem item_of2 {qs : List PV} (h : PCellsOk (ksItem.map .k) qs) : ∃ x : It, qs = x.enc ∧ Fits x.us := by
  obtain ⟨_, _, rfl, ⟨a1, rfl⟩, k1⟩ := h.inv
  obtain ⟨_, _, rfl, ⟨a2, rfl⟩, k2⟩ := k1.inv
  obtain ⟨_, _, rfl, ⟨a3, rfl, w3⟩, k3⟩ := k2.inv
  obtain ⟨_, _, rfl, ⟨a4, rfl⟩, k4⟩ := k3.inv
  obtain ⟨_, _, rfl, ⟨a5, rfl, w5⟩, k5⟩ := k4.inv
  obtain ⟨_, _, rfl, ⟨a6, rfl⟩, k6⟩ := k5.inv
  obtain ⟨_, _, rfl, ⟨a7, rfl, w7⟩, k7⟩ := k6.inv
  obtain ⟨_, _, rfl, ⟨a8, rfl⟩, k8⟩ := k7.inv
  obtain ⟨_, _, rfl, ⟨a9, rfl, w9⟩, k9⟩ := k8.inv
  obtain ⟨_, _, rfl, ⟨a10, rfl, w10⟩, k10⟩ := k9.inv
  obtain ⟨_, _, rfl, ⟨a11, rfl, w11⟩, k11⟩ := k10.inv
  obtain ⟨_, _, rfl, ⟨a12, rfl⟩, k12⟩ := k11.inv
  obtain ⟨_, _, rfl, ⟨a13, rfl⟩, k13⟩ := k12.inv
  obtain ⟨_, _, rfl, ⟨a14, rfl⟩, k14⟩ := k13.inv
  cases k14
  refine ⟨⟨a1, ⟨a2, a3⟩, ⟨a4, a5⟩, ⟨a6, a7⟩, ⟨a8, a9⟩, a10, a11, a12, a13, a14⟩, rfl, fun u hu => ?_⟩
  simp only [It.us, List.mem_cons, List.not_mem_nil, or_false] at hu
  rcases hu with rfl | rfl | rfl | rfl
  · exact Int.le_trans w3.2 (by decide)
  · exact Int.le_trans w5.2 (by decide)
  · exact Int.le_trans w7.2 (by decide)
  · exact Int.le_trans w9.2 (by decide)
theorem wf_le {n : Int} (h : (Lit.int .i64 n).wf = true) : n ≤ 9223372036854775807 := by
  simp only [Lit.wf, Bool.and_eq_true, decide_eq_true_eq] at h
  exact Int.le_trans h.2 (by decide)
set_option maxRecDepth 100000 in
theorem unitsSplits_lifted (os : Os) (started : os.Started) (H : Type) (enc : TypeId × Value → H) :
    ReturnsInHanded {} Try.checked os 7 .any (Rows.unitsSplitsSpec.pre6 enc Try.prog Try.f7 Rows.unitsSplitsRow.domain false) (Rows.unitsSplitsSpec.post enc Try.prog Try.f7 false true false false) := by
  refine returnsInHanded_of_change (C := Try.checked) Try.own started (by kernel_rfl) Try.func7
    (ChangeSpec.witness6 (enc := enc) (C := Try.checked) false ⟨#[], #[zItem, .int .i64 0], []⟩ 8 (by kernel_rfl) (by kernel_rfl) (by kernel_rfl) (by kernel_rfl)) ?_
  intro W base args ds gs before hval0 hW hcnd _
  have hval : ∀ (j : Nat) t v, Try.f7.params[j]? = some t → args[j]? = some v → Value.okWide Try.prog W .any base t v := hval0
  have hW' := hW
  have hlt := hW.lt
  obtain ⟨p, q, hA0, hV, rfl, hfz, hnd⟩ := hW
  have hA : DataW.TrodAll enc Try.prog W 0 (fun _ => true) true Try.f7.params.toList args.toList ds p := hA0
  rw [Try.params7] at hA hval
  obtain ⟨v0, v1, d0, d1, p0, p1, rfl, rfl, rfl, h0, h1⟩ := trodAll_two hA
  obtain ⟨rfl, rfl⟩ := trodVars_none hV
  obtain ⟨qs0, r0, c0⟩ := open_struct Try.underlying26 flatItem (hval 0 26 v0 rfl rfl) h0
  obtain ⟨x0, rfl, hx0⟩ := item_of2 c0
  obtain ⟨x1, hv1, -, -, hr1⟩ := open_int Try.underlying3 (hval 1 3 v1 rfl rfl) h1
  subst hv1
  clear hA0 hval0
  have hcall := (law_UnitsSplits x0 x1 hx0 (wf_le hr1)).2 W (wF W) [v0, .int .i64 x1] (wF_in W) (RepL.cons r0 (RepL.cons (.v _) RepL.nil))
  refine hcall.mono fun e W' he => ?_
  obtain ⟨v, F', rfl, hrep, _, _, hb⟩ := he
  obtain rfl := Rep.v_inv hrep
  refine ⟨_, rfl, _, _, _, [], _, [], hW', trodAll_mk1 (shut_bool Try.underlying4 true), trodAll_mk2 (trod_behind (by kernel_rfl) (of_decide_eq_true (by kernel_rfl)) hb h0 hlt ?_) (trod_behind (by kernel_rfl) (of_decide_eq_true (by kernel_rfl)) hb h1 hlt ?_), rfl, hb.frame _, fun h => by cases h⟩
  all_goals (intro y hy; simp [hy])

theorem unitsSplits_closed : joinedFacts Try.prog 7 Try.f7 Rows.unitsSplitsSpec Rows.unitsSplitsRow = true := by
  simp only [joinedFacts, Bool.and_eq_true, mayEnterH, liftsH, makeH, heardH, Try.laidOut, rowedH, plainH]
  repeat' apply And.intro
  all_goals first | kernel_rfl | exact True.intro
theorem unitsSplits_holds : Rows.UnitsSplitsSaid :=
  OpenClaim.holds_of_wide 7 Try.f7 rfl rfl rfl rfl rfl rfl rfl ⟨rfl, rfl, rfl, rfl, rfl⟩ rfl rfl rfl rfl rfl (by kernel_rfl) Try.func7 unitsSplits_closed
    (of_decide_eq_true (by kernel_rfl)) (by unfold Func.isWrapper; first | (rw [if_pos (by decide +kernel)]; kernel_rfl) | (rw [if_neg (by decide +kernel)]; exact ⟨rfl, rfl⟩))
    (fun os started H enc _ => unitsSplits_lifted os started H enc)
#print axioms unitsSplits_holds

set_option maxRecDepth 100000 in
theorem unitsTurns_lifted (os : Os) (started : os.Started) (H : Type) (enc : TypeId × Value → H) :
    ReturnsInHanded {} Try.checked os 3 .any (Rows.unitsTurnsSpec.pre6 enc Try.prog Try.f3 Rows.unitsTurnsRow.domain false) (Rows.unitsTurnsSpec.post enc Try.prog Try.f3 false true false false) := by
  refine returnsInHanded_of_change (C := Try.checked) Try.own started (by kernel_rfl) Try.func3
    (ChangeSpec.witness6 (enc := enc) (C := Try.checked) false ⟨#[], #[zItem, zS, .int .i64 0], []⟩ 8 (by kernel_rfl) (by kernel_rfl) (by kernel_rfl) (by kernel_rfl)) ?_
  intro W base args ds gs before hval0 hW hcnd _
  have hval : ∀ (j : Nat) t v, Try.f3.params[j]? = some t → args[j]? = some v → Value.okWide Try.prog W .any base t v := hval0
  have hW' := hW
  have hlt := hW.lt
  obtain ⟨p, q, hA0, hV, rfl, hfz, hnd⟩ := hW
  have hA : DataW.TrodAll enc Try.prog W 0 (fun _ => true) true Try.f3.params.toList args.toList ds p := hA0
  rw [Try.params3] at hA hval
  obtain ⟨v0, v1, v2, d0, d1, d2, p0, p1, p2, rfl, rfl, rfl, h0, h1, h2⟩ := trodAll_three hA
  obtain ⟨rfl, rfl⟩ := trodVars_none hV
  obtain ⟨qs0, r0, c0⟩ := open_struct Try.underlying26 flatItem (hval 0 26 v0 rfl rfl) h0
  obtain ⟨x0, rfl, hx0⟩ := item_of2 c0
  obtain ⟨x1, hv1, -, -, hr1⟩ := open_string Try.underlying9 (hval 1 9 v1 rfl rfl) h1
  subst hv1
  obtain ⟨x2, hv2, -, -, hr2⟩ := open_int Try.underlying3 (hval 2 3 v2 rfl rfl) h2
  subst hv2
  clear hA0 hval0
  have hcall := (law_UnitsTurns x0 x1 x2 hx0 (wf_le hr2)).2 W (wF W) [v0, .string x1, .int .i64 x2] (wF_in W) (RepL.cons r0 (RepL.cons (.v _) (RepL.cons (.v _) RepL.nil)))
  refine hcall.mono fun e W' he => ?_
  obtain ⟨v, F', rfl, hrep, _, _, hb⟩ := he
  obtain rfl := Rep.v_inv hrep
  refine ⟨_, rfl, _, _, _, [], _, [], hW', trodAll_mk1 (shut_bool Try.underlying4 true), trodAll_mk3 (trod_behind (by kernel_rfl) (of_decide_eq_true (by kernel_rfl)) hb h0 hlt ?_) (trod_behind (by kernel_rfl) (of_decide_eq_true (by kernel_rfl)) hb h1 hlt ?_) (trod_behind (by kernel_rfl) (of_decide_eq_true (by kernel_rfl)) hb h2 hlt ?_), rfl, hb.frame _, fun h => by cases h⟩
  all_goals (intro y hy; simp [hy])

theorem unitsTurns_closed : joinedFacts Try.prog 3 Try.f3 Rows.unitsTurnsSpec Rows.unitsTurnsRow = true := by
  simp only [joinedFacts, Bool.and_eq_true, mayEnterH, liftsH, makeH, heardH, Try.laidOut, rowedH, plainH]
  repeat' apply And.intro
  all_goals first | kernel_rfl | exact True.intro
theorem unitsTurns_holds : Rows.UnitsTurnsSaid :=
  OpenClaim.holds_of_wide 3 Try.f3 rfl rfl rfl rfl rfl rfl rfl ⟨rfl, rfl, rfl, rfl, rfl⟩ rfl rfl rfl rfl rfl (by kernel_rfl) Try.func3 unitsTurns_closed
    (of_decide_eq_true (by kernel_rfl)) (by unfold Func.isWrapper; first | (rw [if_pos (by decide +kernel)]; kernel_rfl) | (rw [if_neg (by decide +kernel)]; exact ⟨rfl, rfl⟩))
    (fun os started H enc _ => unitsTurns_lifted os started H enc)
#print axioms unitsTurns_holds

end Go.Proofs.Ytbclfhjjkekglaa
