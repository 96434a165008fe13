/-
  The laws of units, as they are stated: how many base units so many of a unit are; both together; there and back.
-/
import Derived.Test.YtbclfhjjkekglaaRows
import Derived.Test.YtbclfhjjkekglaaUE
import Derived.Test.YtbclfhjjkekglaaFwY
import Derived.Test.YtbclfhjjkekglaaFwZ
import Derived.ProofKit
set_option linter.unusedVariables false
set_option linter.unusedSimpArgs false
namespace Go.Fw
open Go.RowKit Go.Proofs
/-- An array argument. -/
theorem open_array {H : Type} {enc : TypeId × Value → H} {P : Program} {w : World} {r : Reach} {b0 n m : Nat} {sp : Nat → Bool} {held : Bool} {t e : TypeId} {v : Value} {d : DataW H} {ps : List MemPlace} {cts : List CT}
    (hu : P.underlying t = some (.array m e)) (hc : flatT P n t = some cts) (hval : Value.okWide P w r b0 t v) (h : DataW.Trod enc P w 0 sp held t v d ps) : ∃ qs, Rep (wF w) (.agg qs) v ∧ PCellsOk cts qs := by
  unfold Value.okWide at hval
  rw [hu] at hval
  obtain ⟨cs, rfl, _, _⟩ := hval
  obtain ⟨fuel, hf⟩ := h
  have h1 := trod_flat n hc hf
  obtain ⟨⟨qs, h2, h3⟩, h4⟩ := cells_rep h1
  have := Rep.agg (F := wF w) qs cs.toList h2.1 (by simpa [Value.cells] using h4) (by simpa [Value.cells] using h2.2)
  exact ⟨qs, by simpa using this, h3⟩
end Go.Fw
namespace Go.Proofs.Ytbclfhjjkekglaa
open Go.ChangeShapes Go.WideShapes Go.ChangeAt Go.RowKit Go.Fw
open Go.ChangeMaps (open_string)

theorem Try.own : ownKnob Try.prog.godebug = none := by kernel_rfl
theorem Try.laidOut : laidOutB Try.prog = true := by kernel_rfl
def zS : Value := .string ⟨#[]⟩
def zN : Value := .int .i64 0
def zItem : Value := .agg #[zS, zS, zN, zS, zN, zS, zN, zS, zN, zN, zN, .bool false, .bool false, .bool false]
def zPair : Value := .agg #[zN, zN]
def kI : Ck := .i .i64
def ksItem : List Ck := [.s, .s, kI, .s, kI, .s, kI, .s, kI, kI, kI, .b, .b, .b]
theorem flatItem : flatT Try.prog 8 26 = some (ksItem.map .k) := by kernel_rfl
theorem flatPair : flatT Try.prog 8 38 = some ([kI, kI].map .k) := by kernel_rfl
theorem item_of' {qs : List PV} (h : PCellsOk (ksItem.map .k) qs) : ∃ x : It, qs = x.enc := by
  obtain ⟨_, _, rfl, ⟨a1, rfl⟩, k1⟩ := h.inv
  obtain ⟨_, _, rfl, ⟨a2, rfl⟩, k2⟩ := k1.inv
  obtain ⟨_, _, rfl, ⟨a3, rfl, w3⟩, k3⟩ := k2.inv
  obtain ⟨_, _, rfl, ⟨a4, rfl⟩, k4⟩ := k3.inv
  obtain ⟨_, _, rfl, ⟨a5, rfl, w5⟩, k5⟩ := k4.inv
  obtain ⟨_, _, rfl, ⟨a6, rfl⟩, k6⟩ := k5.inv
  obtain ⟨_, _, rfl, ⟨a7, rfl, w7⟩, k7⟩ := k6.inv
  obtain ⟨_, _, rfl, ⟨a8, rfl⟩, k8⟩ := k7.inv
  obtain ⟨_, _, rfl, ⟨a9, rfl, w9⟩, k9⟩ := k8.inv
  obtain ⟨_, _, rfl, ⟨a10, rfl, w10⟩, k10⟩ := k9.inv
  obtain ⟨_, _, rfl, ⟨a11, rfl, w11⟩, k11⟩ := k10.inv
  obtain ⟨_, _, rfl, ⟨a12, rfl⟩, k12⟩ := k11.inv
  obtain ⟨_, _, rfl, ⟨a13, rfl⟩, k13⟩ := k12.inv
  obtain ⟨_, _, rfl, ⟨a14, rfl⟩, k14⟩ := k13.inv
  cases k14
  exact ⟨⟨a1, ⟨a2, a3⟩, ⟨a4, a5⟩, ⟨a6, a7⟩, ⟨a8, a9⟩, a10, a11, a12, a13, a14⟩, rfl⟩
theorem pair_of' {qs : List PV} (h : PCellsOk ([kI, kI].map .k) qs) : ∃ x : Int × Int, qs = [.v (.int .i64 x.1), .v (.int .i64 x.2)] := by
  obtain ⟨_, _, rfl, ⟨a1, rfl, _⟩, k1⟩ := h.inv
  obtain ⟨_, _, rfl, ⟨a2, rfl, _⟩, k2⟩ := k1.inv
  cases k2
  exact ⟨(a1, a2), rfl⟩

/-- What a reading of an argument says, holds behind the call too. -/
theorem trod_behind {H : Type} {enc : TypeId × Value → H} {t : TypeId} (hr : Try.prog.readableRec t = true) (hrow : t < Try.prog.types.size) {W W' : World} {v : Value} {d : DataW H} {p ps : List MemPlace} (hb : Below W.heap.size W W')
    (h : DataW.Trod enc Try.prog W 0 (fun _ => true) true t v d p) (hlt : ∀ x ∈ ps, x.block < W.heap.size) (hp : ∀ x ∈ p, x ∈ ps) : DataW.Trod enc Try.prog W' 0 (fun b => decide (b < W.heap.size)) true t v d p :=
  Below.trod Try.laidOut hr hrow h hb fun x hx => hlt x (hp x hx)

/-! ### The closed facts -/
def wordNs : List (List Nat) := [[104, 97, 114, 110, 101, 115, 115], [49, 51, 101, 52, 49, 50, 55, 50, 53, 50, 101, 55, 54, 49, 49, 55, 51, 54, 54, 97, 102, 49, 56, 50, 98, 97, 55, 55, 98, 52, 48, 56, 100, 51, 99, 98, 50, 57, 50, 53, 55, 102, 51, 50, 50, 49, 51, 101, 102, 55, 56, 98, 49, 54, 50, 50, 102, 53, 97, 52, 102, 48, 52, 50], [99, 117, 116], [97, 116], [115, 116, 101, 118, 101, 100, 111, 114, 101, 47, 115, 116, 101, 118, 101, 100, 111, 114, 101, 108, 97, 119, 48, 56, 46, 85, 110, 105, 116, 115, 84, 117, 114, 110, 115], [115, 116, 101, 118, 101, 100, 111, 114, 101, 47, 115, 116, 101, 118, 101, 100, 111, 114, 101, 108, 97, 119, 48, 56, 46, 85, 110, 105, 116, 115, 66, 97, 99, 107], [115, 116, 101, 118, 101, 100, 111, 114, 101, 47, 115, 116, 101, 118, 101, 100, 111, 114, 101, 108, 97, 119, 48, 56, 46, 85, 110, 105, 116, 115, 65, 100, 100, 115], [115, 116, 101, 118, 101, 100, 111, 114, 101, 47, 115, 116, 101, 118, 101, 100, 111, 114, 101, 108, 97, 119, 48, 56, 46, 85, 110, 105, 116, 115, 66, 97, 115, 101, 115], [115, 116, 101, 118, 101, 100, 111, 114, 101, 47, 115, 116, 101, 118, 101, 100, 111, 114, 101, 108, 97, 119, 48, 56, 46, 85, 110, 105, 116, 115, 83, 112, 108, 105, 116, 115]]
theorem initOf : Try.prog.initOrder = String.ofList (joinW wordNs) := by kernel_rfl
theorem wordsOf : wordsSigns Try.prog.initOrder.toList = wordNs.map (·.map Char.ofNat) := words_of initOf (by simp [wordNs]) (by kernel_rfl)
theorem behindW : behindMainWord (wordNs.map (·.map Char.ofNat)) = [99, 117, 116].map Char.ofNat :: (wordNs.drop 3).map (·.map Char.ofNat) := by kernel_rfl
theorem mayEnterH : Try.prog.mayEnter = true := mayEnter_of wordsOf behindW (by kernel_rfl) (by kernel_rfl) (by kernel_rfl) (by kernel_rfl) (by kernel_rfl)
theorem liftsH : Try.prog.liftsFinal = false := liftsFinal_of wordsOf (by kernel_rfl) (by kernel_rfl)
theorem makeH : Try.prog.make = some .cut := make_of wordsOf behindW (by kernel_rfl) (by kernel_rfl)
theorem heardH : Try.prog.stopsHeard = true := by kernel_rfl
theorem plainH : Try.prog.plainKeys = true := by kernel_rfl
theorem rowedH : mapsRowed Try.prog = true := by kernel_rfl

set_option maxRecDepth 100000 in
theorem unitsBases_lifted (os : Os) (started : os.Started) (H : Type) (enc : TypeId × Value → H) :
    ReturnsInHanded {} Try.checked os 6 .any (Rows.unitsBasesSpec.pre6 enc Try.prog Try.f6 Rows.unitsBasesRow.domain false) (Rows.unitsBasesSpec.post enc Try.prog Try.f6 false true false false) := by
  refine returnsInHanded_of_change (C := Try.checked) Try.own started (by kernel_rfl) Try.func6
    (ChangeSpec.witness6 (enc := enc) (C := Try.checked) false ⟨#[], #[zItem, zS, .int .i64 0], []⟩ 8 (by kernel_rfl) (by kernel_rfl) (by kernel_rfl) (by kernel_rfl)) ?_
  intro W base args ds gs before hval0 hW hcnd _
  have hval : ∀ (j : Nat) t v, Try.f6.params[j]? = some t → args[j]? = some v → Value.okWide Try.prog W .any base t v := hval0
  have hW' := hW
  have hlt := hW.lt
  obtain ⟨p, q, hA0, hV, rfl, hfz, hnd⟩ := hW
  have hA : DataW.TrodAll enc Try.prog W 0 (fun _ => true) true Try.f6.params.toList args.toList ds p := hA0
  rw [Try.params6] at hA hval
  obtain ⟨v0, v1, v2, d0, d1, d2, p0, p1, p2, rfl, rfl, rfl, h0, h1, h2⟩ := trodAll_three hA
  obtain ⟨rfl, rfl⟩ := trodVars_none hV
  obtain ⟨qs0, r0, c0⟩ := open_struct Try.underlying26 flatItem (hval 0 26 v0 rfl rfl) h0
  obtain ⟨x0, rfl⟩ := item_of' c0
  obtain ⟨x1, hv1, -, -, hr1⟩ := open_string Try.underlying9 (hval 1 9 v1 rfl rfl) h1
  subst hv1
  obtain ⟨x2, hv2, -, -, hr2⟩ := open_int Try.underlying3 (hval 2 3 v2 rfl rfl) h2
  subst hv2
  clear hA0 hval0
  have hcall := (law_UnitsBases x0 x1 x2).2 W (wF W) [v0, .string x1, .int .i64 x2] (wF_in W) (RepL.cons r0 (RepL.cons (.v _) (RepL.cons (.v _) RepL.nil)))
  refine hcall.mono fun e W' he => ?_
  obtain ⟨v, F', rfl, hrep, _, _, hb⟩ := he
  obtain rfl := Rep.v_inv hrep
  refine ⟨_, rfl, _, _, _, [], _, [], hW', trodAll_mk1 (shut_bool Try.underlying4 true), trodAll_mk3 (trod_behind (by kernel_rfl) (of_decide_eq_true (by kernel_rfl)) hb h0 hlt ?_) (trod_behind (by kernel_rfl) (of_decide_eq_true (by kernel_rfl)) hb h1 hlt ?_) (trod_behind (by kernel_rfl) (of_decide_eq_true (by kernel_rfl)) hb h2 hlt ?_), rfl, hb.frame _, fun h => by cases h⟩
  all_goals (intro y hy; simp [hy])

theorem unitsBases_closed : joinedFacts Try.prog 6 Try.f6 Rows.unitsBasesSpec Rows.unitsBasesRow = true := by
  simp only [joinedFacts, Bool.and_eq_true, mayEnterH, liftsH, makeH, heardH, Try.laidOut, rowedH, plainH]
  repeat' apply And.intro
  all_goals first | kernel_rfl | exact True.intro
theorem unitsBases_holds : Rows.UnitsBasesSaid :=
  OpenClaim.holds_of_wide 6 Try.f6 rfl rfl rfl rfl rfl rfl rfl ⟨rfl, rfl, rfl, rfl, rfl⟩ rfl rfl rfl rfl rfl (by kernel_rfl) Try.func6 unitsBases_closed
    (of_decide_eq_true (by kernel_rfl)) (by unfold Func.isWrapper; first | (rw [if_pos (by decide +kernel)]; kernel_rfl) | (rw [if_neg (by decide +kernel)]; exact ⟨rfl, rfl⟩))
    (fun os started H enc _ => unitsBases_lifted os started H enc)
#print axioms unitsBases_holds

set_option maxRecDepth 100000 in
theorem unitsAdds_lifted (os : Os) (started : os.Started) (H : Type) (enc : TypeId × Value → H) :
    ReturnsInHanded {} Try.checked os 5 .any (Rows.unitsAddsSpec.pre6 enc Try.prog Try.f5 Rows.unitsAddsRow.domain false) (Rows.unitsAddsSpec.post enc Try.prog Try.f5 false true false false) := by
  refine returnsInHanded_of_change (C := Try.checked) Try.own started (by kernel_rfl) Try.func5
    (ChangeSpec.witness6 (enc := enc) (C := Try.checked) false ⟨#[], #[zItem, zS, zPair], []⟩ 8 (by kernel_rfl) (by kernel_rfl) (by kernel_rfl) (by kernel_rfl)) ?_
  intro W base args ds gs before hval0 hW hcnd _
  have hval : ∀ (j : Nat) t v, Try.f5.params[j]? = some t → args[j]? = some v → Value.okWide Try.prog W .any base t v := hval0
  have hW' := hW
  have hlt := hW.lt
  obtain ⟨p, q, hA0, hV, rfl, hfz, hnd⟩ := hW
  have hA : DataW.TrodAll enc Try.prog W 0 (fun _ => true) true Try.f5.params.toList args.toList ds p := hA0
  rw [Try.params5] at hA hval
  obtain ⟨v0, v1, v2, d0, d1, d2, p0, p1, p2, rfl, rfl, rfl, h0, h1, h2⟩ := trodAll_three hA
  obtain ⟨rfl, rfl⟩ := trodVars_none hV
  obtain ⟨qs0, r0, c0⟩ := open_struct Try.underlying26 flatItem (hval 0 26 v0 rfl rfl) h0
  obtain ⟨x0, rfl⟩ := item_of' c0
  obtain ⟨x1, hv1, -, -, hr1⟩ := open_string Try.underlying9 (hval 1 9 v1 rfl rfl) h1
  subst hv1
  obtain ⟨qs2, r2, c2⟩ := open_array Try.underlying38 flatPair (hval 2 38 v2 rfl rfl) h2
  obtain ⟨x2, rfl⟩ := pair_of' c2
  clear hA0 hval0
  have hcall := (law_UnitsAdds x0 x1 x2.1 x2.2).2 W (wF W) [v0, .string x1, v2] (wF_in W) (RepL.cons r0 (RepL.cons (.v _) (RepL.cons r2 RepL.nil)))
  refine hcall.mono fun e W' he => ?_
  obtain ⟨v, F', rfl, hrep, _, _, hb⟩ := he
  obtain rfl := Rep.v_inv hrep
  refine ⟨_, rfl, _, _, _, [], _, [], hW', trodAll_mk1 (shut_bool Try.underlying4 true), trodAll_mk3 (trod_behind (by kernel_rfl) (of_decide_eq_true (by kernel_rfl)) hb h0 hlt ?_) (trod_behind (by kernel_rfl) (of_decide_eq_true (by kernel_rfl)) hb h1 hlt ?_) (trod_behind (by kernel_rfl) (of_decide_eq_true (by kernel_rfl)) hb h2 hlt ?_), rfl, hb.frame _, fun h => by cases h⟩
  all_goals (intro y hy; simp [hy])

theorem unitsAdds_closed : joinedFacts Try.prog 5 Try.f5 Rows.unitsAddsSpec Rows.unitsAddsRow = true := by
  simp only [joinedFacts, Bool.and_eq_true, mayEnterH, liftsH, makeH, heardH, Try.laidOut, rowedH, plainH]
  repeat' apply And.intro
  all_goals first | kernel_rfl | exact True.intro
theorem unitsAdds_holds : Rows.UnitsAddsSaid :=
  OpenClaim.holds_of_wide 5 Try.f5 rfl rfl rfl rfl rfl rfl rfl ⟨rfl, rfl, rfl, rfl, rfl⟩ rfl rfl rfl rfl rfl (by kernel_rfl) Try.func5 unitsAdds_closed
    (of_decide_eq_true (by kernel_rfl)) (by unfold Func.isWrapper; first | (rw [if_pos (by decide +kernel)]; kernel_rfl) | (rw [if_neg (by decide +kernel)]; exact ⟨rfl, rfl⟩))
    (fun os started H enc _ => unitsAdds_lifted os started H enc)
#print axioms unitsAdds_holds

set_option maxRecDepth 100000 in
theorem unitsBack_lifted (os : Os) (started : os.Started) (H : Type) (enc : TypeId × Value → H) :
    ReturnsInHanded {} Try.checked os 4 .any (Rows.unitsBackSpec.pre6 enc Try.prog Try.f4 Rows.unitsBackRow.domain false) (Rows.unitsBackSpec.post enc Try.prog Try.f4 false true false false) := by
  refine returnsInHanded_of_change (C := Try.checked) Try.own started (by kernel_rfl) Try.func4
    (ChangeSpec.witness6 (enc := enc) (C := Try.checked) false ⟨#[], #[zItem, .int .i64 0], []⟩ 8 (by kernel_rfl) (by kernel_rfl) (by kernel_rfl) (by kernel_rfl)) ?_
  intro W base args ds gs before hval0 hW hcnd _
  have hval : ∀ (j : Nat) t v, Try.f4.params[j]? = some t → args[j]? = some v → Value.okWide Try.prog W .any base t v := hval0
  have hW' := hW
  have hlt := hW.lt
  obtain ⟨p, q, hA0, hV, rfl, hfz, hnd⟩ := hW
  have hA : DataW.TrodAll enc Try.prog W 0 (fun _ => true) true Try.f4.params.toList args.toList ds p := hA0
  rw [Try.params4] at hA hval
  obtain ⟨v0, v1, d0, d1, p0, p1, rfl, rfl, rfl, h0, h1⟩ := trodAll_two hA
  obtain ⟨rfl, rfl⟩ := trodVars_none hV
  obtain ⟨qs0, r0, c0⟩ := open_struct Try.underlying26 flatItem (hval 0 26 v0 rfl rfl) h0
  obtain ⟨x0, rfl⟩ := item_of' c0
  obtain ⟨x1, hv1, -, -, hr1⟩ := open_int Try.underlying3 (hval 1 3 v1 rfl rfl) h1
  subst hv1
  clear hA0 hval0
  have hcall := (law_UnitsBack x0 x1).2 W (wF W) [v0, .int .i64 x1] (wF_in W) (RepL.cons r0 (RepL.cons (.v _) RepL.nil))
  refine hcall.mono fun e W' he => ?_
  obtain ⟨v, F', rfl, hrep, _, _, hb⟩ := he
  obtain rfl := Rep.v_inv hrep
  refine ⟨_, rfl, _, _, _, [], _, [], hW', trodAll_mk1 (shut_bool Try.underlying4 true), trodAll_mk2 (trod_behind (by kernel_rfl) (of_decide_eq_true (by kernel_rfl)) hb h0 hlt ?_) (trod_behind (by kernel_rfl) (of_decide_eq_true (by kernel_rfl)) hb h1 hlt ?_), rfl, hb.frame _, fun h => by cases h⟩
  all_goals (intro y hy; simp [hy])

theorem unitsBack_closed : joinedFacts Try.prog 4 Try.f4 Rows.unitsBackSpec Rows.unitsBackRow = true := by
  simp only [joinedFacts, Bool.and_eq_true, mayEnterH, liftsH, makeH, heardH, Try.laidOut, rowedH, plainH]
  repeat' apply And.intro
  all_goals first | kernel_rfl | exact True.intro
theorem unitsBack_holds : Rows.UnitsBackSaid :=
  OpenClaim.holds_of_wide 4 Try.f4 rfl rfl rfl rfl rfl rfl rfl ⟨rfl, rfl, rfl, rfl, rfl⟩ rfl rfl rfl rfl rfl (by kernel_rfl) Try.func4 unitsBack_closed
    (of_decide_eq_true (by kernel_rfl)) (by unfold Func.isWrapper; first | (rw [if_pos (by decide +kernel)]; kernel_rfl) | (rw [if_neg (by decide +kernel)]; exact ⟨rfl, rfl⟩))
    (fun os started H enc _ => unitsBack_lifted os started H enc)
#print axioms unitsBack_holds

end Go.Proofs.Ytbclfhjjkekglaa
