/-
  The law RoomAdds, as it is stated.
-/
import Derived.Test.YtdmackpiohkanaaRows
import Derived.Test.YtdmackpiohkanaaHG
import Derived.Test.YtdmackpiohkanaaHRb
import Derived.ProofKit
import Derived.Test.YtdmackpiohkanaaFwZ
set_option linter.unusedVariables false
set_option linter.unusedSimpArgs false
namespace Go.Proofs.Ytdmackpiohkanaa
open Go.ChangeShapes Go.WideShapes Go.ChangeAt Go.RowKit Go.Fw
open Go.ChangeMaps (open_string)

theorem Try.own : ownKnob Try.prog.godebug = none := by kernel_rfl
theorem Try.laidOut : laidOutB Try.prog = true := by kernel_rfl
def s0 : Value := .slice none 0 0
def zHouse : Value := .agg #[s0, s0, s0, s0, s0, s0, s0, s0, s0, s0, s0, s0, s0, s0, .int .i64 0]
def zS : Value := .string ⟨#[]⟩
def zLot : Value := .agg #[zS, zS, .int .i64 0]

/-- What a reading of an argument says, holds behind the call too. -/
theorem trod_behind {H : Type} {enc : TypeId × Value → H} {t : TypeId} (hr : Try.prog.readableRec t = true) (hrow : t < Try.prog.types.size) {W W' : World} {v : Value} {d : DataW H} {p ps : List MemPlace} (hb : Below W.heap.size W W')
    (h : DataW.Trod enc Try.prog W 0 (fun _ => true) true t v d p) (hlt : ∀ x ∈ ps, x.block < W.heap.size) (hp : ∀ x ∈ p, x ∈ ps) : DataW.Trod enc Try.prog W' 0 (fun b => decide (b < W.heap.size)) true t v d p :=
  Below.trod Try.laidOut hr hrow h hb fun x hx => hlt x (hp x hx)

def zAsk : Value := .agg #[zS, zS, .int .i64 0, .int .i64 0, .int .i64 0]
def ksAsk : List Ck := [.s, .s, .i .i64, .i .i64, .i .i64]
theorem flatAsk : flatT Try.prog 8 71 = some (ksAsk.map .k) := by kernel_rfl
theorem flatAsks : flatT Try.prog 8 79 = some [.sl ksAsk] := by kernel_rfl
theorem ask_of' {qs : List PV} (h : PCellsOk (ksAsk.map .k) qs) : ∃ x : Go.Fw.Ask, qs = x.enc := by
  obtain ⟨_, _, rfl, ⟨a1, rfl⟩, k1⟩ := h.inv
  obtain ⟨_, _, rfl, ⟨a2, rfl⟩, k2⟩ := k1.inv
  obtain ⟨_, _, rfl, ⟨a3, rfl, -⟩, k3⟩ := k2.inv
  obtain ⟨_, _, rfl, ⟨a4, rfl, -⟩, k4⟩ := k3.inv
  obtain ⟨_, _, rfl, ⟨a5, rfl, -⟩, k5⟩ := k4.inv
  cases k5
  exact ⟨⟨a1, a2, a3, a4, a5⟩, rfl⟩
theorem ask_of (row : List PV) (h : PRowOk ksAsk row) : ∃ x : Go.Fw.Ask, row = x.enc := by
  obtain ⟨_, _, rfl, ⟨a1, rfl⟩, k1⟩ := h.inv
  obtain ⟨_, _, rfl, ⟨a2, rfl⟩, k2⟩ := k1.inv
  obtain ⟨_, _, rfl, ⟨a3, rfl, -⟩, k3⟩ := k2.inv
  obtain ⟨_, _, rfl, ⟨a4, rfl, -⟩, k4⟩ := k3.inv
  obtain ⟨_, _, rfl, ⟨a5, rfl, -⟩, k5⟩ := k4.inv
  cases k5
  exact ⟨⟨a1, a2, a3, a4, a5⟩, rfl⟩
/-! ### The closed facts -/
def wordNs : List (List Nat) := [[104, 97, 114, 110, 101, 115, 115], [48, 100, 50, 52, 101, 51, 49, 51, 53, 57, 51, 52, 98, 54, 100, 51, 51, 101, 52, 56, 50, 54, 101, 99, 53, 52, 99, 99, 55, 101, 48, 48, 51, 56, 98, 56, 51, 54, 48, 49, 48, 99, 48, 97, 99, 49, 102, 51, 98, 100, 50, 53, 53, 57, 51, 50, 54, 98, 56, 52, 99, 52, 57, 56], [99, 117, 116], [97, 116], [115, 116, 101, 118, 101, 100, 111, 114, 101, 47, 115, 116, 101, 118, 101, 100, 111, 114, 101, 108, 97, 119, 48, 57, 46, 76, 111, 116, 115, 83, 101, 114, 105, 97, 108], [115, 116, 101, 118, 101, 100, 111, 114, 101, 47, 115, 116, 101, 118, 101, 100, 111, 114, 101, 108, 97, 119, 48, 57, 46, 76, 111, 116, 115, 68, 97, 121, 115], [115, 116, 101, 118, 101, 100, 111, 114, 101, 47, 115, 116, 101, 118, 101, 100, 111, 114, 101, 108, 97, 119, 48, 57, 46, 76, 111, 116, 115, 77, 97, 121], [115, 116, 101, 118, 101, 100, 111, 114, 101, 47, 115, 116, 101, 118, 101, 100, 111, 114, 101, 108, 97, 119, 48, 55, 46, 73, 116, 101, 109, 115, 65, 100, 100, 115], [115, 116, 101, 118, 101, 100, 111, 114, 101, 47, 115, 116, 101, 118, 101, 100, 111, 114, 101, 108, 97, 119, 48, 55, 46, 73, 116, 101, 109, 115, 70, 105, 110, 100, 115], [115, 116, 101, 118, 101, 100, 111, 114, 101, 47, 115, 116, 101, 118, 101, 100, 111, 114, 101, 108, 97, 119, 48, 55, 46, 73, 116, 101, 109, 115, 67, 104, 101, 99, 107, 115], [115, 116, 101, 118, 101, 100, 111, 114, 101, 47, 115, 116, 101, 118, 101, 100, 111, 114, 101, 108, 97, 119, 48, 55, 46, 73, 116, 101, 109, 115, 73, 115], [115, 116, 101, 118, 101, 100, 111, 114, 101, 47, 115, 116, 101, 118, 101, 100, 111, 114, 101, 108, 97, 119, 48, 55, 46, 73, 116, 101, 109, 115, 76, 111, 111, 107, 115], [115, 116, 101, 118, 101, 100, 111, 114, 101, 47, 115, 116, 101, 118, 101, 100, 111, 114, 101, 108, 97, 119, 48, 57, 46, 76, 111, 116, 115, 65, 100, 100, 115], [115, 116, 101, 118, 101, 100, 111, 114, 101, 47, 115, 116, 101, 118, 101, 100, 111, 114, 101, 108, 97, 119, 48, 57, 46, 76, 111, 116, 115, 70, 105, 116, 115], [115, 116, 101, 118, 101, 100, 111, 114, 101, 47, 115, 116, 101, 118, 101, 100, 111, 114, 101, 108, 97, 119, 49, 49, 46, 82, 111, 111, 109, 76, 111, 97, 100, 115], [115, 116, 101, 118, 101, 100, 111, 114, 101, 47, 115, 116, 101, 118, 101, 100, 111, 114, 101, 108, 97, 119, 49, 49, 46, 82, 111, 111, 109, 84, 117, 114, 110, 115], [115, 116, 101, 118, 101, 100, 111, 114, 101, 47, 115, 116, 101, 118, 101, 100, 111, 114, 101, 108, 97, 119, 49, 49, 46, 82, 111, 111, 109, 72, 111, 108, 100, 115], [115, 116, 101, 118, 101, 100, 111, 114, 101, 47, 115, 116, 101, 118, 101, 100, 111, 114, 101, 108, 97, 119, 49, 49, 46, 82, 111, 111, 109, 65, 100, 100, 115], [115, 116, 101, 118, 101, 100, 111, 114, 101, 47, 115, 116, 101, 118, 101, 100, 111, 114, 101, 108, 97, 119, 49, 49, 46, 82, 111, 111, 109, 82, 101, 115, 105, 122, 101], [115, 116, 101, 118, 101, 100, 111, 114, 101, 47, 115, 116, 101, 118, 101, 100, 111, 114, 101, 108, 97, 119, 49, 49, 46, 82, 111, 111, 109, 76, 105, 109, 105, 116], [115, 116, 101, 118, 101, 100, 111, 114, 101, 47, 115, 116, 101, 118, 101, 100, 111, 114, 101, 108, 97, 119, 49, 49, 46, 82, 111, 111, 109, 70, 105, 116, 115], [115, 116, 101, 118, 101, 100, 111, 114, 101, 47, 115, 116, 101, 118, 101, 100, 111, 114, 101, 108, 97, 119, 49, 49, 46, 82, 111, 111, 109, 79, 118, 101, 114], [115, 116, 101, 118, 101, 100, 111, 114, 101, 47, 115, 116, 101, 118, 101, 100, 111, 114, 101, 108, 97, 119, 49, 48, 46, 76, 97, 121, 111, 117, 116, 65, 100, 100, 115], [115, 116, 101, 118, 101, 100, 111, 114, 101, 47, 115, 116, 101, 118, 101, 100, 111, 114, 101, 108, 97, 119, 49, 48, 46, 76, 97, 121, 111, 117, 116, 70, 105, 110, 100, 115], [115, 116, 101, 118, 101, 100, 111, 114, 101, 47, 115, 116, 101, 118, 101, 100, 111, 114, 101, 108, 97, 119, 49, 48, 46, 76, 97, 121, 111, 117, 116, 83, 116, 97, 110, 100, 115], [115, 116, 101, 118, 101, 100, 111, 114, 101, 47, 115, 116, 101, 118, 101, 100, 111, 114, 101, 108, 97, 119, 49, 48, 46, 76, 97, 121, 111, 117, 116, 66, 105, 110, 115], [115, 116, 101, 118, 101, 100, 111, 114, 101, 47, 115, 116, 101, 118, 101, 100, 111, 114, 101, 108, 97, 119, 49, 48, 46, 76, 97, 121, 111, 117, 116, 90, 111, 110, 101, 115], [115, 116, 101, 118, 101, 100, 111, 114, 101, 47, 115, 116, 101, 118, 101, 100, 111, 114, 101, 108, 97, 119, 49, 48, 46, 76, 97, 121, 111, 117, 116, 70, 114, 101, 101, 122, 101], [115, 116, 101, 118, 101, 100, 111, 114, 101, 47, 115, 116, 101, 118, 101, 100, 111, 114, 101, 108, 97, 119, 49, 48, 46, 76, 97, 121, 111, 117, 116, 83, 105, 116, 101, 115]]
theorem initOf : Try.prog.initOrder = String.ofList (joinW wordNs) := by kernel_rfl
theorem wordsOf : wordsSigns Try.prog.initOrder.toList = wordNs.map (·.map Char.ofNat) := words_of initOf (by simp [wordNs]) (by kernel_rfl)
theorem behindW : behindMainWord (wordNs.map (·.map Char.ofNat)) = [99, 117, 116].map Char.ofNat :: (wordNs.drop 3).map (·.map Char.ofNat) := by kernel_rfl
theorem mayEnterH : Try.prog.mayEnter = true := mayEnter_of wordsOf behindW (by kernel_rfl) (by kernel_rfl) (by kernel_rfl) (by kernel_rfl) (by kernel_rfl)
theorem liftsH : Try.prog.liftsFinal = false := liftsFinal_of wordsOf (by kernel_rfl) (by kernel_rfl)
theorem makeH : Try.prog.make = some .cut := make_of wordsOf behindW (by kernel_rfl) (by kernel_rfl)
theorem heardH : Try.prog.stopsHeard = true := by kernel_rfl
theorem plainH : Try.prog.plainKeys = true := by kernel_rfl
theorem rowedH : mapsRowed Try.prog = true := by kernel_rfl

set_option maxRecDepth 100000 in
theorem roomAdds_lifted (os : Os) (started : os.Started) (H : Type) (enc : TypeId × Value → H) :
    ReturnsInHanded {} Try.checked os 16 .any (Rows.roomAddsSpec.pre6 enc Try.prog Try.f16 Rows.roomAddsRow.domain false) (Rows.roomAddsSpec.post enc Try.prog Try.f16 false true false false) := by
  refine returnsInHanded_of_change (C := Try.checked) Try.own started (by kernel_rfl) Try.func16
    (ChangeSpec.witness6 (enc := enc) (C := Try.checked) false ⟨#[], #[zHouse, zAsk], []⟩ 8 (by kernel_rfl) (by kernel_rfl) (by kernel_rfl) (by kernel_rfl)) ?_
  intro W base args ds gs before hval0 hW hcnd _
  have hval : ∀ (j : Nat) t v, Try.f16.params[j]? = some t → args[j]? = some v → Value.okWide Try.prog W .any base t v := hval0
  have hW' := hW
  have hlt := hW.lt
  obtain ⟨p, q, hA0, hV, rfl, hfz, hnd⟩ := hW
  have hA : DataW.TrodAll enc Try.prog W 0 (fun _ => true) true Try.f16.params.toList args.toList ds p := hA0
  rw [Try.params16] at hA hval
  obtain ⟨v0, v1, d0, d1, p0, p1, rfl, rfl, rfl, h0, h1⟩ := trodAll_two hA
  obtain ⟨rfl, rfl⟩ := trodVars_none hV
  obtain ⟨qs0, r0, c0⟩ := open_struct Try.underlying37 flatHouse (hval 0 37 v0 rfl rfl) h0
  obtain ⟨x0, rfl, hx0⟩ := house_of c0
  obtain ⟨qs1, r1, c1⟩ := open_struct Try.underlying71 flatAsk (hval 1 71 v1 rfl rfl) h1
  obtain ⟨x1, rfl⟩ := ask_of' c1
  clear hA0 hval0
  have hcall := (law_RoomAdds x0 x1).2 W (wF W) [v0, v1] (wF_in W) (RepL.cons r0 (RepL.cons r1 RepL.nil))
  refine hcall.mono fun e W' he => ?_
  obtain ⟨v, F', rfl, hrep, _, _, hb⟩ := he
  obtain rfl := Rep.v_inv hrep
  refine ⟨_, rfl, _, _, _, [], _, [], hW', trodAll_mk1 (shut_bool Try.underlying4 true), trodAll_mk2 (trod_behind (by kernel_rfl) (of_decide_eq_true (by kernel_rfl)) hb h0 hlt ?_) (trod_behind (by kernel_rfl) (of_decide_eq_true (by kernel_rfl)) hb h1 hlt ?_), rfl, hb.frame _, fun h => by cases h⟩
  all_goals (intro y hy; simp [hy])

theorem roomAdds_closed : joinedFacts Try.prog 16 Try.f16 Rows.roomAddsSpec Rows.roomAddsRow = true := by
  simp only [joinedFacts, Bool.and_eq_true, mayEnterH, liftsH, makeH, heardH, Try.laidOut, rowedH, plainH]
  repeat' apply And.intro
  all_goals first | kernel_rfl | exact True.intro
theorem roomAdds_holds : Rows.RoomAddsSaid :=
  OpenClaim.holds_of_wide 16 Try.f16 rfl rfl rfl rfl rfl rfl rfl ⟨rfl, rfl, rfl, rfl, rfl⟩ rfl rfl rfl rfl rfl (by kernel_rfl) Try.func16 roomAdds_closed
    (of_decide_eq_true (by kernel_rfl)) (by unfold Func.isWrapper; first | (rw [if_pos (by decide +kernel)]; kernel_rfl) | (rw [if_neg (by decide +kernel)]; exact ⟨rfl, rfl⟩))
    (fun os started H enc _ => roomAdds_lifted os started H enc)
#print axioms roomAdds_holds

end Go.Proofs.Ytdmackpiohkanaa
