/-
  What the statements of counts have in common.
-/
import Derived.Test.YtghhmkogooancaaGreatRows
import Derived.Test.YtghhmkogooancaaGreatHG
import Derived.ProofKit
import Derived.Test.YtghhmkogooancaaGreatFwZ
set_option linter.unusedVariables false
set_option linter.unusedSimpArgs false
namespace Go.Proofs.YtghhmkogooancaaGreat
open Go.ChangeShapes Go.WideShapes Go.ChangeAt Go.RowKit Go.Fw
open Go.ChangeMaps (open_string)

theorem Tryz.own : ownKnob Tryz.prog.godebug = none := by kernel_rfl
theorem Tryz.laidOut : laidOutB Tryz.prog = true := by kernel_rfl
def s0 : Value := .slice none 0 0
def zHouse : Value := .agg #[s0, s0, s0, s0, s0, s0, s0, s0, s0, s0, s0, s0, s0, s0, .int .i64 0]
def zS : Value := .string ⟨#[]⟩
def zLot : Value := .agg #[zS, zS, .int .i64 0]

/-- What a reading of an argument says, holds behind the call too. -/
theorem trod_behind {H : Type} {enc : TypeId × Value → H} {t : TypeId} (hr : Tryz.prog.readableRec t = true) (hrow : t < Tryz.prog.types.size) {W W' : World} {v : Value} {d : DataW H} {p ps : List MemPlace} (hb : Below W.heap.size W W')
    (h : DataW.Trod enc Tryz.prog W 0 (fun _ => true) true t v d p) (hlt : ∀ x ∈ ps, x.block < W.heap.size) (hp : ∀ x ∈ p, x ∈ ps) : DataW.Trod enc Tryz.prog W' 0 (fun b => decide (b < W.heap.size)) true t v d p :=
  Below.trod Tryz.laidOut hr hrow h hb fun x hx => hlt x (hp x hx)

def zCounted : Value := .agg #[zS, zS, zS, .int .i64 0, .int .i64 0]
theorem flatCounted : flatT Tryz.prog 8 41 = some (ksCounted.map .k) := by kernel_rfl
theorem counted_of' {qs : List PV} (h : PCellsOk (ksCounted.map .k) qs) : ∃ x : Go.Fw.Counted, qs = x.enc := by
  obtain ⟨_, _, rfl, ⟨a1, rfl⟩, k1⟩ := h.inv
  obtain ⟨_, _, rfl, ⟨a2, rfl⟩, k2⟩ := k1.inv
  obtain ⟨_, _, rfl, ⟨a3, rfl⟩, k3⟩ := k2.inv
  obtain ⟨_, _, rfl, ⟨a4, rfl, -⟩, k4⟩ := k3.inv
  obtain ⟨_, _, rfl, ⟨a5, rfl, -⟩, k5⟩ := k4.inv
  cases k5
  exact ⟨⟨a1, a2, a3, a4, a5⟩, rfl⟩

/-! ### The closed facts -/
def wordNs : List (List Nat) := [[104, 97, 114, 110, 101, 115, 115], [52, 48, 102, 50, 56, 50, 102, 99, 52, 54, 97, 50, 52, 98, 52, 53, 97, 49, 101, 57, 97, 102, 49, 56, 100, 50, 100, 56, 98, 50, 54, 57, 52, 54, 55, 52, 49, 53, 50, 100, 98, 52, 101, 48, 53, 101, 51, 99, 49, 57, 54, 100, 57, 98, 101, 97, 100, 48, 100, 54, 97, 102, 51, 51], [99, 117, 116], [97, 116], [115, 116, 101, 118, 101, 100, 111, 114, 101, 47, 115, 116, 101, 118, 101, 100, 111, 114, 101, 108, 97, 119, 50, 49, 46, 67, 111, 117, 110, 116, 115, 68, 111], [115, 116, 101, 118, 101, 100, 111, 114, 101, 47, 115, 116, 101, 118, 101, 100, 111, 114, 101, 108, 97, 119, 50, 49, 46, 67, 111, 117, 110, 116, 115, 84, 114, 117, 101], [115, 116, 101, 118, 101, 100, 111, 114, 101, 47, 115, 116, 101, 118, 101, 100, 111, 114, 101, 108, 97, 119, 50, 49, 46, 67, 111, 117, 110, 116, 115, 83, 116, 111, 112], [115, 116, 101, 118, 101, 100, 111, 114, 101, 47, 115, 116, 101, 118, 101, 100, 111, 114, 101, 108, 97, 119, 50, 49, 46, 67, 111, 117, 110, 116, 115, 83, 116, 97, 114, 116, 115], [115, 116, 101, 118, 101, 100, 111, 114, 101, 47, 115, 116, 101, 118, 101, 100, 111, 114, 101, 108, 97, 119, 50, 49, 46, 67, 111, 117, 110, 116, 115, 78, 111, 116, 101, 115], [115, 116, 101, 118, 101, 100, 111, 114, 101, 47, 115, 116, 101, 118, 101, 100, 111, 114, 101, 108, 97, 119, 50, 49, 46, 67, 111, 117, 110, 116, 115, 67, 108, 111, 115, 101, 115]]
theorem initOf : Tryz.prog.initOrder = String.ofList (joinW wordNs) := by kernel_rfl
theorem wordsOf : wordsSigns Tryz.prog.initOrder.toList = wordNs.map (·.map Char.ofNat) := words_of initOf (by simp [wordNs]) (by kernel_rfl)
theorem behindW : behindMainWord (wordNs.map (·.map Char.ofNat)) = [99, 117, 116].map Char.ofNat :: (wordNs.drop 3).map (·.map Char.ofNat) := by kernel_rfl
theorem mayEnterH : Tryz.prog.mayEnter = true := mayEnter_of wordsOf behindW (by kernel_rfl) (by kernel_rfl) (by kernel_rfl) (by kernel_rfl) (by kernel_rfl)
theorem liftsH : Tryz.prog.liftsFinal = false := liftsFinal_of wordsOf (by kernel_rfl) (by kernel_rfl)
theorem makeH : Tryz.prog.make = some .cut := make_of wordsOf behindW (by kernel_rfl) (by kernel_rfl)
theorem heardH : Tryz.prog.stopsHeard = true := by kernel_rfl
theorem plainH : Tryz.prog.plainKeys = true := by kernel_rfl
theorem rowedH : mapsRowed Tryz.prog = true := by kernel_rfl

end Go.Proofs.YtghhmkogooancaaGreat
