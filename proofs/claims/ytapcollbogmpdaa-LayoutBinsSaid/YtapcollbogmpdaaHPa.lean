/-
  The laws of lots, as they are stated.
-/
import Derived.Test.YtapcollbogmpdaaRows
import Derived.Test.YtapcollbogmpdaaHG
import Derived.ProofKit
import Derived.Test.YtapcollbogmpdaaFwZ
set_option linter.unusedVariables false
set_option linter.unusedSimpArgs false
namespace Go.Proofs.Ytapcollbogmpdaa
open Go.ChangeShapes Go.WideShapes Go.ChangeAt Go.RowKit Go.Fw
open Go.ChangeMaps (open_string)

theorem Try.own : ownKnob Try.prog.godebug = none := by kernel_rfl
theorem Try.laidOut : laidOutB Try.prog = true := by kernel_rfl
def s0 : Value := .slice none 0 0
def zHouse : Value := .agg #[s0, s0, s0, s0, s0, s0, s0, s0, s0, s0, s0, s0, s0, s0, .int .i64 0]
def zS : Value := .string ⟨#[]⟩
def zLot : Value := .agg #[zS, zS, .int .i64 0]

/-- What a reading of an argument says, holds behind the call too. -/
theorem trod_behind {H : Type} {enc : TypeId × Value → H} {t : TypeId} (hr : Try.prog.readableRec t = true) (hrow : t < Try.prog.types.size) {W W' : World} {v : Value} {d : DataW H} {p ps : List MemPlace} (hb : Below W.heap.size W W')
    (h : DataW.Trod enc Try.prog W 0 (fun _ => true) true t v d p) (hlt : ∀ x ∈ ps, x.block < W.heap.size) (hp : ∀ x ∈ p, x ∈ ps) : DataW.Trod enc Try.prog W' 0 (fun b => decide (b < W.heap.size)) true t v d p :=
  Below.trod Try.laidOut hr hrow h hb fun x hx => hlt x (hp x hx)

set_option maxRecDepth 100000 in
theorem lotsDays_lifted (os : Os) (started : os.Started) (H : Type) (enc : TypeId × Value → H) :
    ReturnsInHanded {} Try.checked os 4 .any (Rows.lotsDaysSpec.pre6 enc Try.prog Try.f4 Rows.lotsDaysRow.domain false) (Rows.lotsDaysSpec.post enc Try.prog Try.f4 false true false false) := by
  refine returnsInHanded_of_change (C := Try.checked) Try.own started (by kernel_rfl) Try.func4
    (ChangeSpec.witness6 (enc := enc) (C := Try.checked) false ⟨#[], #[zHouse, zS, zS], []⟩ 8 (by kernel_rfl) (by kernel_rfl) (by kernel_rfl) (by kernel_rfl)) ?_
  intro W base args ds gs before hval0 hW hcnd _
  have hval : ∀ (j : Nat) t v, Try.f4.params[j]? = some t → args[j]? = some v → Value.okWide Try.prog W .any base t v := hval0
  have hW' := hW
  have hlt := hW.lt
  obtain ⟨p, q, hA0, hV, rfl, hfz, hnd⟩ := hW
  have hA : DataW.TrodAll enc Try.prog W 0 (fun _ => true) true Try.f4.params.toList args.toList ds p := hA0
  rw [Try.params4] at hA hval
  obtain ⟨v0, v1, v2, d0, d1, d2, p0, p1, p2, rfl, rfl, rfl, h0, h1, h2⟩ := trodAll_three hA
  obtain ⟨rfl, rfl⟩ := trodVars_none hV
  obtain ⟨qs, r0, c0⟩ := open_struct Try.underlying37 flatHouse (hval 0 37 v0 rfl rfl) h0
  obtain ⟨x, rfl, hx⟩ := house_of c0
  obtain ⟨i, hv1, -, -, -⟩ := open_string Try.underlying9 (hval 1 9 v1 rfl rfl) h1
  obtain ⟨c, hv2, -, -, -⟩ := open_string Try.underlying9 (hval 2 9 v2 rfl rfl) h2
  subst hv1; subst hv2
  clear hA0 hval0
  have hcall := (law_LotsDays x i c).2 W (wF W) [v0, .string i, .string c] (wF_in W) (RepL.cons r0 (RepL.cons (.v _) (RepL.cons (.v _) RepL.nil)))
  refine hcall.mono fun e W' he => ?_
  obtain ⟨v, F', rfl, hrep, _, _, hb⟩ := he
  obtain rfl := Rep.v_inv hrep
  refine ⟨_, rfl, _, _, _, [], _, [], hW', trodAll_mk1 (shut_bool Try.underlying4 true), trodAll_mk3 (trod_behind (by kernel_rfl) (of_decide_eq_true (by kernel_rfl)) hb h0 hlt ?_) (trod_behind (by kernel_rfl) (of_decide_eq_true (by kernel_rfl)) hb h1 hlt ?_) (trod_behind (by kernel_rfl) (of_decide_eq_true (by kernel_rfl)) hb h2 hlt ?_), rfl, hb.frame _, fun h => by cases h⟩
  all_goals (intro y hy; simp [hy])

/-! ### The closed facts -/
def wordNs : List (List Nat) := [[104, 97, 114, 110, 101, 115, 115], [48, 100, 50, 52, 101, 51, 49, 51, 53, 57, 51, 52, 98, 54, 100, 51, 51, 101, 52, 56, 50, 54, 101, 99, 53, 52, 99, 99, 55, 101, 48, 48, 51, 56, 98, 56, 51, 54, 48, 49, 48, 99, 48, 97, 99, 49, 102, 51, 98, 100, 50, 53, 53, 57, 51, 50, 54, 98, 56, 52, 99, 52, 57, 56], [99, 117, 116], [97, 116], [115, 116, 101, 118, 101, 100, 111, 114, 101, 47, 115, 116, 101, 118, 101, 100, 111, 114, 101, 108, 97, 119, 48, 57, 46, 76, 111, 116, 115, 83, 101, 114, 105, 97, 108], [115, 116, 101, 118, 101, 100, 111, 114, 101, 47, 115, 116, 101, 118, 101, 100, 111, 114, 101, 108, 97, 119, 48, 57, 46, 76, 111, 116, 115, 68, 97, 121, 115], [115, 116, 101, 118, 101, 100, 111, 114, 101, 47, 115, 116, 101, 118, 101, 100, 111, 114, 101, 108, 97, 119, 48, 57, 46, 76, 111, 116, 115, 77, 97, 121], [115, 116, 101, 118, 101, 100, 111, 114, 101, 47, 115, 116, 101, 118, 101, 100, 111, 114, 101, 108, 97, 119, 48, 55, 46, 73, 116, 101, 109, 115, 65, 100, 100, 115], [115, 116, 101, 118, 101, 100, 111, 114, 101, 47, 115, 116, 101, 118, 101, 100, 111, 114, 101, 108, 97, 119, 48, 55, 46, 73, 116, 101, 109, 115, 70, 105, 110, 100, 115], [115, 116, 101, 118, 101, 100, 111, 114, 101, 47, 115, 116, 101, 118, 101, 100, 111, 114, 101, 108, 97, 119, 48, 55, 46, 73, 116, 101, 109, 115, 67, 104, 101, 99, 107, 115], [115, 116, 101, 118, 101, 100, 111, 114, 101, 47, 115, 116, 101, 118, 101, 100, 111, 114, 101, 108, 97, 119, 48, 55, 46, 73, 116, 101, 109, 115, 73, 115], [115, 116, 101, 118, 101, 100, 111, 114, 101, 47, 115, 116, 101, 118, 101, 100, 111, 114, 101, 108, 97, 119, 48, 55, 46, 73, 116, 101, 109, 115, 76, 111, 111, 107, 115], [115, 116, 101, 118, 101, 100, 111, 114, 101, 47, 115, 116, 101, 118, 101, 100, 111, 114, 101, 108, 97, 119, 48, 57, 46, 76, 111, 116, 115, 65, 100, 100, 115], [115, 116, 101, 118, 101, 100, 111, 114, 101, 47, 115, 116, 101, 118, 101, 100, 111, 114, 101, 108, 97, 119, 48, 57, 46, 76, 111, 116, 115, 70, 105, 116, 115], [115, 116, 101, 118, 101, 100, 111, 114, 101, 47, 115, 116, 101, 118, 101, 100, 111, 114, 101, 108, 97, 119, 49, 49, 46, 82, 111, 111, 109, 76, 111, 97, 100, 115], [115, 116, 101, 118, 101, 100, 111, 114, 101, 47, 115, 116, 101, 118, 101, 100, 111, 114, 101, 108, 97, 119, 49, 49, 46, 82, 111, 111, 109, 84, 117, 114, 110, 115], [115, 116, 101, 118, 101, 100, 111, 114, 101, 47, 115, 116, 101, 118, 101, 100, 111, 114, 101, 108, 97, 119, 49, 49, 46, 82, 111, 111, 109, 72, 111, 108, 100, 115], [115, 116, 101, 118, 101, 100, 111, 114, 101, 47, 115, 116, 101, 118, 101, 100, 111, 114, 101, 108, 97, 119, 49, 49, 46, 82, 111, 111, 109, 65, 100, 100, 115], [115, 116, 101, 118, 101, 100, 111, 114, 101, 47, 115, 116, 101, 118, 101, 100, 111, 114, 101, 108, 97, 119, 49, 49, 46, 82, 111, 111, 109, 82, 101, 115, 105, 122, 101], [115, 116, 101, 118, 101, 100, 111, 114, 101, 47, 115, 116, 101, 118, 101, 100, 111, 114, 101, 108, 97, 119, 49, 49, 46, 82, 111, 111, 109, 76, 105, 109, 105, 116], [115, 116, 101, 118, 101, 100, 111, 114, 101, 47, 115, 116, 101, 118, 101, 100, 111, 114, 101, 108, 97, 119, 49, 49, 46, 82, 111, 111, 109, 70, 105, 116, 115], [115, 116, 101, 118, 101, 100, 111, 114, 101, 47, 115, 116, 101, 118, 101, 100, 111, 114, 101, 108, 97, 119, 49, 49, 46, 82, 111, 111, 109, 79, 118, 101, 114], [115, 116, 101, 118, 101, 100, 111, 114, 101, 47, 115, 116, 101, 118, 101, 100, 111, 114, 101, 108, 97, 119, 49, 48, 46, 76, 97, 121, 111, 117, 116, 65, 100, 100, 115], [115, 116, 101, 118, 101, 100, 111, 114, 101, 47, 115, 116, 101, 118, 101, 100, 111, 114, 101, 108, 97, 119, 49, 48, 46, 76, 97, 121, 111, 117, 116, 70, 105, 110, 100, 115], [115, 116, 101, 118, 101, 100, 111, 114, 101, 47, 115, 116, 101, 118, 101, 100, 111, 114, 101, 108, 97, 119, 49, 48, 46, 76, 97, 121, 111, 117, 116, 83, 116, 97, 110, 100, 115], [115, 116, 101, 118, 101, 100, 111, 114, 101, 47, 115, 116, 101, 118, 101, 100, 111, 114, 101, 108, 97, 119, 49, 48, 46, 76, 97, 121, 111, 117, 116, 66, 105, 110, 115], [115, 116, 101, 118, 101, 100, 111, 114, 101, 47, 115, 116, 101, 118, 101, 100, 111, 114, 101, 108, 97, 119, 49, 48, 46, 76, 97, 121, 111, 117, 116, 90, 111, 110, 101, 115], [115, 116, 101, 118, 101, 100, 111, 114, 101, 47, 115, 116, 101, 118, 101, 100, 111, 114, 101, 108, 97, 119, 49, 48, 46, 76, 97, 121, 111, 117, 116, 70, 114, 101, 101, 122, 101], [115, 116, 101, 118, 101, 100, 111, 114, 101, 47, 115, 116, 101, 118, 101, 100, 111, 114, 101, 108, 97, 119, 49, 48, 46, 76, 97, 121, 111, 117, 116, 83, 105, 116, 101, 115]]
theorem initOf : Try.prog.initOrder = String.ofList (joinW wordNs) := by kernel_rfl
theorem wordsOf : wordsSigns Try.prog.initOrder.toList = wordNs.map (·.map Char.ofNat) := words_of initOf (by simp [wordNs]) (by kernel_rfl)
theorem behindW : behindMainWord (wordNs.map (·.map Char.ofNat)) = [99, 117, 116].map Char.ofNat :: (wordNs.drop 3).map (·.map Char.ofNat) := by kernel_rfl
theorem mayEnterH : Try.prog.mayEnter = true := mayEnter_of wordsOf behindW (by kernel_rfl) (by kernel_rfl) (by kernel_rfl) (by kernel_rfl) (by kernel_rfl)
theorem liftsH : Try.prog.liftsFinal = false := liftsFinal_of wordsOf (by kernel_rfl) (by kernel_rfl)
theorem makeH : Try.prog.make = some .cut := make_of wordsOf behindW (by kernel_rfl) (by kernel_rfl)
theorem heardH : Try.prog.stopsHeard = true := by kernel_rfl
theorem plainH : Try.prog.plainKeys = true := by kernel_rfl
theorem rowedH : mapsRowed Try.prog = true := by kernel_rfl

theorem lotsDays_closed : joinedFacts Try.prog 4 Try.f4 Rows.lotsDaysSpec Rows.lotsDaysRow = true := by
  simp only [joinedFacts, Bool.and_eq_true, mayEnterH, liftsH, makeH, heardH, Try.laidOut, rowedH, plainH]
  repeat' apply And.intro
  all_goals first | kernel_rfl | exact True.intro
theorem lotsDays_holds : Rows.LotsDaysSaid :=
  OpenClaim.holds_of_wide 4 Try.f4 rfl rfl rfl rfl rfl rfl rfl ⟨rfl, rfl, rfl, rfl, rfl⟩ rfl rfl rfl rfl rfl (by kernel_rfl) Try.func4 lotsDays_closed
    (of_decide_eq_true (by kernel_rfl)) (by unfold Func.isWrapper; first | (rw [if_pos (by decide +kernel)]; kernel_rfl) | (rw [if_neg (by decide +kernel)]; exact ⟨rfl, rfl⟩))
    (fun os started H enc _ => lotsDays_lifted os started H enc)
#print axioms lotsDays_holds

end Go.Proofs.Ytapcollbogmpdaa
