/-
  The law TableSorts, as it is stated.
-/
import Derived.Test.YtikgpjnfifnilaaTPa
import Derived.Test.YtikgpjnfifnilaaTJ
set_option linter.unusedVariables false
set_option linter.unusedSimpArgs false
namespace Go.Proofs.Ytikgpjnfifnilaa
open Go.ChangeShapes Go.WideShapes Go.ChangeAt Go.RowKit Go.Fw
theorem flatInts : flatT Try.prog 8 39 = some [.sl [.i .i64]] := by kernel_rfl
theorem int_of (row : List PV) (h : PRowOk [.i .i64] row) : ∃ x : Int, row = encI x := by
  obtain ⟨_, _, rfl, ⟨a1, rfl⟩, k1⟩ := h.inv
  cases k1
  exact ⟨a1, rfl⟩
set_option maxRecDepth 100000 in
theorem tableSorts_lifted (os : Os) (started : os.Started) (H : Type) (enc : TypeId × Value → H) :
    ReturnsInHanded {} Try.checked os 5 .any (Rows.tableSortsSpec.pre6 enc Try.prog Try.f5 Rows.tableSortsRow.domain false) (Rows.tableSortsSpec.post enc Try.prog Try.f5 false true false false) := by
  refine returnsInHanded_of_change_sized (C := Try.checked) Try.own started (by kernel_rfl) Try.func5
    (ChangeSpec.witness6 (enc := enc) (C := Try.checked) false ⟨#[], #[s0, s0], []⟩ 8 (by kernel_rfl) (by kernel_rfl) (by kernel_rfl) (by kernel_rfl)) ?_
  intro W base args ds gs before hval0 hW hcnd hsz0 _
  have hsz : (DataW.weightsEach Try.prog (Try.f5.params.toList ++ Rows.tableSortsSpec.plain.varTypes Try.prog) (ds ++ gs)).all (· ≤ reachBytes) = true := hsz0
  clear hsz0
  have hval : ∀ (j : Nat) t v, Try.f5.params[j]? = some t → args[j]? = some v → Value.okWide Try.prog W .any base t v := hval0
  have hW' := hW
  have hlt := hW.lt
  obtain ⟨p, q, hA0, hV, rfl, hfz, hnd⟩ := hW
  have hA : DataW.TrodAll enc Try.prog W 0 (fun _ => true) true Try.f5.params.toList args.toList ds p := hA0
  rw [Try.params5] at hA hval hsz
  obtain ⟨v0, v1, d0, d1, p0, p1, rfl, rfl, rfl, h0, h1⟩ := trodAll_two hA
  obtain ⟨rfl, rfl⟩ := trodVars_none hV
  obtain ⟨a0, len, cap, rfl⟩ := okWide_slice Try.underlying22 (hval 0 22 v0 rfl rfl)
  obtain ⟨rows, r0, c0⟩ := open_slice (r := .any) (b0 := base) (e := 24) flatPairs rfl h0
  obtain ⟨l, rfl⟩ := rows_of pair_of c0
  have hb := slice_reach Try.underlying22 h0 r0 hsz (j := 0) rfl rfl
  rw [Try.bytes24, List.length_map] at hb
  have hb0 : l.length * 24 ≤ 140737488355328 := Nat.le_trans hb (by decide)
  have hb1 : (l.length + 1) * 24 ≤ 140737488355328 := by
    rw [Nat.succ_mul]
    exact Nat.le_trans (Nat.add_le_add_right hb 24) (by decide)
  obtain ⟨a1, len1, cap1, rfl⟩ := okWide_slice Try.underlying39 (hval 1 39 v1 rfl rfl)
  obtain ⟨rows1, r1, c1⟩ := open_slice (r := .any) (b0 := base) (e := 3) flatInts rfl h1
  obtain ⟨os', rfl⟩ := rows_of int_of c1
  clear hA0 hval0
  have hcall := (law_TableSorts l [] os' []).2 W (wF W) [.slice a0 len cap, .slice a1 len1 cap1] (wF_in W) (RepL.cons r0 (RepL.cons r1 RepL.nil))
  refine hcall.mono fun e W' he => ?_
  obtain ⟨v, F', rfl, hrep, _, _, hb⟩ := he
  obtain rfl := Rep.v_inv hrep
  refine ⟨_, rfl, _, _, _, [], _, [], hW', trodAll_mk1 (shut_bool Try.underlying4 true), trodAll_mk2 (trod_behind (by kernel_rfl) (of_decide_eq_true (by kernel_rfl)) hb h0 hlt ?_) (trod_behind (by kernel_rfl) (of_decide_eq_true (by kernel_rfl)) hb h1 hlt ?_), rfl, hb.frame _, fun h => by cases h⟩
  all_goals (intro y hy; simp [hy])

theorem tableSorts_closed : joinedFacts Try.prog 5 Try.f5 Rows.tableSortsSpec Rows.tableSortsRow = true := by
  simp only [joinedFacts, Bool.and_eq_true, mayEnterH, liftsH, makeH, heardH, Try.laidOut, rowedH, plainH]
  repeat' apply And.intro
  all_goals first | kernel_rfl | exact True.intro
theorem tableSorts_holds : Rows.TableSortsSaid :=
  OpenClaim.holds_of_wide 5 Try.f5 rfl rfl rfl rfl rfl rfl rfl ⟨rfl, rfl, rfl, rfl, rfl⟩ rfl rfl rfl rfl rfl (by kernel_rfl) Try.func5 tableSorts_closed
    (of_decide_eq_true (by kernel_rfl)) (by unfold Func.isWrapper; first | (rw [if_pos (by decide +kernel)]; kernel_rfl) | (rw [if_neg (by decide +kernel)]; exact ⟨rfl, rfl⟩))
    (fun os started H enc _ => tableSorts_lifted os started H enc)
#print axioms tableSorts_holds

end Go.Proofs.Ytikgpjnfifnilaa
