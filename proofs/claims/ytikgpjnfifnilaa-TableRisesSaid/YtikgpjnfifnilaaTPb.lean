/-
  The law TableRises, as it is stated.
-/
import Derived.Test.YtikgpjnfifnilaaTPa
import Derived.Test.YtikgpjnfifnilaaTI
set_option linter.unusedVariables false
set_option linter.unusedSimpArgs false
namespace Go.Proofs.Ytikgpjnfifnilaa
open Go.ChangeShapes Go.WideShapes Go.ChangeAt Go.RowKit Go.Fw
set_option maxRecDepth 100000 in
theorem tableRises_lifted (os : Os) (started : os.Started) (H : Type) (enc : TypeId × Value → H) :
    ReturnsInHanded {} Try.checked os 4 .any (Rows.tableRisesSpec.pre6 enc Try.prog Try.f4 Rows.tableRisesRow.domain false) (Rows.tableRisesSpec.post enc Try.prog Try.f4 false true false false) := by
  refine returnsInHanded_of_change_sized (C := Try.checked) Try.own started (by kernel_rfl) Try.func4
    (ChangeSpec.witness6 (enc := enc) (C := Try.checked) false ⟨#[], #[s0], []⟩ 8 (by kernel_rfl) (by kernel_rfl) (by kernel_rfl) (by kernel_rfl)) ?_
  intro W base args ds gs before hval0 hW hcnd hsz0 _
  have hsz : (DataW.weightsEach Try.prog (Try.f4.params.toList ++ Rows.tableRisesSpec.plain.varTypes Try.prog) (ds ++ gs)).all (· ≤ reachBytes) = true := hsz0
  clear hsz0
  have hval : ∀ (j : Nat) t v, Try.f4.params[j]? = some t → args[j]? = some v → Value.okWide Try.prog W .any base t v := hval0
  have hW' := hW
  have hlt := hW.lt
  obtain ⟨p, q, hA0, hV, rfl, hfz, hnd⟩ := hW
  have hA : DataW.TrodAll enc Try.prog W 0 (fun _ => true) true Try.f4.params.toList args.toList ds p := hA0
  rw [Try.params4] at hA hval hsz
  obtain ⟨v0, d0, rfl, rfl, h0⟩ := trodAll_one hA
  obtain ⟨rfl, rfl⟩ := trodVars_none hV
  obtain ⟨a0, len, cap, rfl⟩ := okWide_slice Try.underlying22 (hval 0 22 v0 rfl rfl)
  obtain ⟨rows, r0, c0⟩ := open_slice (r := .any) (b0 := base) (e := 24) flatPairs rfl h0
  obtain ⟨l, rfl⟩ := rows_of pair_of c0
  have hb := slice_reach Try.underlying22 h0 r0 hsz (j := 0) rfl rfl
  rw [Try.bytes24, List.length_map] at hb
  have hb0 : l.length * 24 ≤ 140737488355328 := Nat.le_trans hb (by decide)
  have hb1 : (l.length + 1) * 24 ≤ 140737488355328 := by
    rw [Nat.succ_mul]
    exact Nat.le_trans (Nat.add_le_add_right hb 24) (by decide)
  clear hA0 hval0
  have hcall := (law_TableRises l []).2 W (wF W) [.slice a0 len cap] (wF_in W) (RepL.cons r0 RepL.nil)
  refine hcall.mono fun e W' he => ?_
  obtain ⟨v, F', rfl, hrep, _, _, hb⟩ := he
  obtain rfl := Rep.v_inv hrep
  refine ⟨_, rfl, _, _, _, [], _, [], hW', trodAll_mk1 (shut_bool Try.underlying4 true), trodAll_mk1 (trod_behind (by kernel_rfl) (of_decide_eq_true (by kernel_rfl)) hb h0 hlt ?_), rfl, hb.frame _, fun h => by cases h⟩
  all_goals (intro y hy; simp [hy])

theorem tableRises_closed : joinedFacts Try.prog 4 Try.f4 Rows.tableRisesSpec Rows.tableRisesRow = true := by
  simp only [joinedFacts, Bool.and_eq_true, mayEnterH, liftsH, makeH, heardH, Try.laidOut, rowedH, plainH]
  repeat' apply And.intro
  all_goals first | kernel_rfl | exact True.intro
theorem tableRises_holds : Rows.TableRisesSaid :=
  OpenClaim.holds_of_wide 4 Try.f4 rfl rfl rfl rfl rfl rfl rfl ⟨rfl, rfl, rfl, rfl, rfl⟩ rfl rfl rfl rfl rfl (by kernel_rfl) Try.func4 tableRises_closed
    (of_decide_eq_true (by kernel_rfl)) (by unfold Func.isWrapper; first | (rw [if_pos (by decide +kernel)]; kernel_rfl) | (rw [if_neg (by decide +kernel)]; exact ⟨rfl, rfl⟩))
    (fun os started H enc _ => tableRises_lifted os started H enc)
#print axioms tableRises_holds

end Go.Proofs.Ytikgpjnfifnilaa
