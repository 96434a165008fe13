/-
  No cell of these rows narrows 'for every input' (looked for: loops, veiled, ifaces, maps, wideKeys, modest, calm, conditions, laid).
  DERIVED. THE GIVEN ROWS OF THIS SEAT. 25 by the template 'for every input the law returns true; each argument reads behind the call as it read before'; 0 by the template 'total and deterministic' (their statements: YtdmackpiohkanaaTotals.lean).
  GIVEN WITH THE SEED: the statements are not yours to turn. If you find one false, say at which input.
  Laid BY PROGRAM, IN A SANDBOX (cutbox-rows.mjs): the forced cells as the released guide's own fill.sh prints them over the translation 2f23c96ce2fdbb43… (all of the seat's roots in one cut). By AI agents, Wed Nov 11 2026. No macro, syntax, notation, axiom, sorry.
-/
import Derived.Test.YtdmackpiohkanaaChecked
import GoSem.Claim
import GoSem.ClaimJoined
import GoSem.ClaimMapViews
import Derived.JoinedTies
import Derived.KernelRfl
namespace Go.Proofs.Ytdmackpiohkanaa
/- THE CELL 'sum', in the pinned program and in every row, IS THE sha256 OF THE DUMP (.gsa) THAT YtdmackpiohkanaaProg.lean LOADS. Nothing in Lean hashes anything: it is a label: what it is worth is what the hold of that sum in a sandbox is worth. -/
noncomputable def Try.pinned : Pinned := { name := "ytdmackpiohkanaa", sum := "2f23c96ce2fdbb430a721ad62f02da0029d122e23eebb41ad25f947f7f3cc3af", checked := Try.checked }
namespace Rows
def none {H : Type} : Left H := { results := [], args := [] }

/-- 'stevedorelaw09.LotsSerial': WHATEVER THE INPUT: true; the input reads as it did. -/
def lotsSerialSpec : ChangeSpec := { name := "lotsSerial", fn := fun _ => fun
  | [d1, d2, d3] => { results := [.lit (.bool true)], args := [d1, d2, d3] }
  | _ => none }
def lotsSerialRow : OpenClaim := { program := "ytdmackpiohkanaa", sum := "2f23c96ce2fdbb430a721ad62f02da0029d122e23eebb41ad25f947f7f3cc3af", func := "stevedore/stevedorelaw09.LotsSerial", spec := "lotsSerial", unfollowed := true, recurses := true, apart := false }
def LotsSerialSaid : Prop := lotsSerialRow.holds Try.pinned (OpenSpec.ofChange lotsSerialSpec)

/-- ITS FALSE NEIGHBOUR: 'it returns false'. Refute it at one input. -/
def lotsSerialWrong : ChangeSpec := { name := "lotsSerial", fn := fun _ => fun
  | [d1, d2, d3] => { results := [.lit (.bool false)], args := [d1, d2, d3] }
  | _ => none }
def LotsSerialWrongFalsely : Prop := lotsSerialRow.holds Try.pinned (OpenSpec.ofChange lotsSerialWrong)

/-- 'stevedorelaw09.LotsDays': WHATEVER THE INPUT: true; the input reads as it did. -/
def lotsDaysSpec : ChangeSpec := { name := "lotsDays", fn := fun _ => fun
  | [d1, d2, d3] => { results := [.lit (.bool true)], args := [d1, d2, d3] }
  | _ => none }
def lotsDaysRow : OpenClaim := { program := "ytdmackpiohkanaa", sum := "2f23c96ce2fdbb430a721ad62f02da0029d122e23eebb41ad25f947f7f3cc3af", func := "stevedore/stevedorelaw09.LotsDays", spec := "lotsDays", unfollowed := true, recurses := true, apart := false }
def LotsDaysSaid : Prop := lotsDaysRow.holds Try.pinned (OpenSpec.ofChange lotsDaysSpec)

/-- ITS FALSE NEIGHBOUR: 'it returns false'. Refute it at one input. -/
def lotsDaysWrong : ChangeSpec := { name := "lotsDays", fn := fun _ => fun
  | [d1, d2, d3] => { results := [.lit (.bool false)], args := [d1, d2, d3] }
  | _ => none }
def LotsDaysWrongFalsely : Prop := lotsDaysRow.holds Try.pinned (OpenSpec.ofChange lotsDaysWrong)

/-- 'stevedorelaw09.LotsMay': WHATEVER THE INPUT: true; the input reads as it did. -/
def lotsMaySpec : ChangeSpec := { name := "lotsMay", fn := fun _ => fun
  | [d1, d2, d3] => { results := [.lit (.bool true)], args := [d1, d2, d3] }
  | _ => none }
def lotsMayRow : OpenClaim := { program := "ytdmackpiohkanaa", sum := "2f23c96ce2fdbb430a721ad62f02da0029d122e23eebb41ad25f947f7f3cc3af", func := "stevedore/stevedorelaw09.LotsMay", spec := "lotsMay", unfollowed := true, recurses := true, apart := false }
def LotsMaySaid : Prop := lotsMayRow.holds Try.pinned (OpenSpec.ofChange lotsMaySpec)

/-- ITS FALSE NEIGHBOUR: 'it returns false'. Refute it at one input. -/
def lotsMayWrong : ChangeSpec := { name := "lotsMay", fn := fun _ => fun
  | [d1, d2, d3] => { results := [.lit (.bool false)], args := [d1, d2, d3] }
  | _ => none }
def LotsMayWrongFalsely : Prop := lotsMayRow.holds Try.pinned (OpenSpec.ofChange lotsMayWrong)

/-- 'stevedorelaw07.ItemsAdds': WHATEVER THE INPUT: true; the input reads as it did. -/
def itemsAddsSpec : ChangeSpec := { name := "itemsAdds", fn := fun _ => fun
  | [d1, d2, d3] => { results := [.lit (.bool true)], args := [d1, d2, d3] }
  | _ => none }
def itemsAddsRow : OpenClaim := { program := "ytdmackpiohkanaa", sum := "2f23c96ce2fdbb430a721ad62f02da0029d122e23eebb41ad25f947f7f3cc3af", func := "stevedore/stevedorelaw07.ItemsAdds", spec := "itemsAdds", inPlace := ["slices.overlaps[stevedore/api.Item]"], unfollowed := true, recurses := true, apart := false }
def ItemsAddsSaid : Prop := itemsAddsRow.holds Try.pinned (OpenSpec.ofChange itemsAddsSpec)

/-- ITS FALSE NEIGHBOUR: 'it returns false'. Refute it at one input. -/
def itemsAddsWrong : ChangeSpec := { name := "itemsAdds", fn := fun _ => fun
  | [d1, d2, d3] => { results := [.lit (.bool false)], args := [d1, d2, d3] }
  | _ => none }
def ItemsAddsWrongFalsely : Prop := itemsAddsRow.holds Try.pinned (OpenSpec.ofChange itemsAddsWrong)

/-- 'stevedorelaw07.ItemsFinds': WHATEVER THE INPUT: true; the input reads as it did. -/
def itemsFindsSpec : ChangeSpec := { name := "itemsFinds", fn := fun _ => fun
  | [d] => { results := [.lit (.bool true)], args := [d] }
  | _ => none }
def itemsFindsRow : OpenClaim := { program := "ytdmackpiohkanaa", sum := "2f23c96ce2fdbb430a721ad62f02da0029d122e23eebb41ad25f947f7f3cc3af", func := "stevedore/stevedorelaw07.ItemsFinds", spec := "itemsFinds", inPlace := ["slices.overlaps[stevedore/api.Item]"], unfollowed := true, recurses := true, apart := false }
def ItemsFindsSaid : Prop := itemsFindsRow.holds Try.pinned (OpenSpec.ofChange itemsFindsSpec)

/-- ITS FALSE NEIGHBOUR: 'it returns false'. Refute it at one input. -/
def itemsFindsWrong : ChangeSpec := { name := "itemsFinds", fn := fun _ => fun
  | [d] => { results := [.lit (.bool false)], args := [d] }
  | _ => none }
def ItemsFindsWrongFalsely : Prop := itemsFindsRow.holds Try.pinned (OpenSpec.ofChange itemsFindsWrong)

/-- 'stevedorelaw07.ItemsChecks': WHATEVER THE INPUT: true; the input reads as it did. -/
def itemsChecksSpec : ChangeSpec := { name := "itemsChecks", fn := fun _ => fun
  | [d] => { results := [.lit (.bool true)], args := [d] }
  | _ => none }
def itemsChecksRow : OpenClaim := { program := "ytdmackpiohkanaa", sum := "2f23c96ce2fdbb430a721ad62f02da0029d122e23eebb41ad25f947f7f3cc3af", func := "stevedore/stevedorelaw07.ItemsChecks", spec := "itemsChecks", inPlace := ["slices.overlaps[stevedore/api.Item]"], unfollowed := true, recurses := true, apart := false }
def ItemsChecksSaid : Prop := itemsChecksRow.holds Try.pinned (OpenSpec.ofChange itemsChecksSpec)

/-- ITS FALSE NEIGHBOUR: 'it returns false'. Refute it at one input. -/
def itemsChecksWrong : ChangeSpec := { name := "itemsChecks", fn := fun _ => fun
  | [d] => { results := [.lit (.bool false)], args := [d] }
  | _ => none }
def ItemsChecksWrongFalsely : Prop := itemsChecksRow.holds Try.pinned (OpenSpec.ofChange itemsChecksWrong)

/-- 'stevedorelaw07.ItemsIs': WHATEVER THE INPUT: true; the input reads as it did. -/
def itemsIsSpec : ChangeSpec := { name := "itemsIs", fn := fun _ => fun
  | [d] => { results := [.lit (.bool true)], args := [d] }
  | _ => none }
def itemsIsRow : OpenClaim := { program := "ytdmackpiohkanaa", sum := "2f23c96ce2fdbb430a721ad62f02da0029d122e23eebb41ad25f947f7f3cc3af", func := "stevedore/stevedorelaw07.ItemsIs", spec := "itemsIs", inPlace := ["slices.overlaps[stevedore/api.Item]"], unfollowed := true, recurses := true, apart := false }
def ItemsIsSaid : Prop := itemsIsRow.holds Try.pinned (OpenSpec.ofChange itemsIsSpec)

/-- ITS FALSE NEIGHBOUR: 'it returns false'. Refute it at one input. -/
def itemsIsWrong : ChangeSpec := { name := "itemsIs", fn := fun _ => fun
  | [d] => { results := [.lit (.bool false)], args := [d] }
  | _ => none }
def ItemsIsWrongFalsely : Prop := itemsIsRow.holds Try.pinned (OpenSpec.ofChange itemsIsWrong)

/-- 'stevedorelaw07.ItemsLooks': WHATEVER THE INPUT: true; the input reads as it did. -/
def itemsLooksSpec : ChangeSpec := { name := "itemsLooks", fn := fun _ => fun
  | [d1, d2] => { results := [.lit (.bool true)], args := [d1, d2] }
  | _ => none }
def itemsLooksRow : OpenClaim := { program := "ytdmackpiohkanaa", sum := "2f23c96ce2fdbb430a721ad62f02da0029d122e23eebb41ad25f947f7f3cc3af", func := "stevedore/stevedorelaw07.ItemsLooks", spec := "itemsLooks", inPlace := ["slices.overlaps[stevedore/api.Item]"], unfollowed := true, recurses := true, apart := false }
def ItemsLooksSaid : Prop := itemsLooksRow.holds Try.pinned (OpenSpec.ofChange itemsLooksSpec)

/-- ITS FALSE NEIGHBOUR: 'it returns false'. Refute it at one input. -/
def itemsLooksWrong : ChangeSpec := { name := "itemsLooks", fn := fun _ => fun
  | [d1, d2] => { results := [.lit (.bool false)], args := [d1, d2] }
  | _ => none }
def ItemsLooksWrongFalsely : Prop := itemsLooksRow.holds Try.pinned (OpenSpec.ofChange itemsLooksWrong)

/-- 'stevedorelaw09.LotsAdds': WHATEVER THE INPUT: true; the input reads as it did. -/
def lotsAddsSpec : ChangeSpec := { name := "lotsAdds", fn := fun _ => fun
  | [d1, d2, d3] => { results := [.lit (.bool true)], args := [d1, d2, d3] }
  | _ => none }
def lotsAddsRow : OpenClaim := { program := "ytdmackpiohkanaa", sum := "2f23c96ce2fdbb430a721ad62f02da0029d122e23eebb41ad25f947f7f3cc3af", func := "stevedore/stevedorelaw09.LotsAdds", spec := "lotsAdds", inPlace := ["slices.overlaps[stevedore/api.Lot]"], unfollowed := true, recurses := true, apart := false }
def LotsAddsSaid : Prop := lotsAddsRow.holds Try.pinned (OpenSpec.ofChange lotsAddsSpec)

/-- ITS FALSE NEIGHBOUR: 'it returns false'. Refute it at one input. -/
def lotsAddsWrong : ChangeSpec := { name := "lotsAdds", fn := fun _ => fun
  | [d1, d2, d3] => { results := [.lit (.bool false)], args := [d1, d2, d3] }
  | _ => none }
def LotsAddsWrongFalsely : Prop := lotsAddsRow.holds Try.pinned (OpenSpec.ofChange lotsAddsWrong)

/-- 'stevedorelaw09.LotsFits': WHATEVER THE INPUT: true; the input reads as it did. -/
def lotsFitsSpec : ChangeSpec := { name := "lotsFits", fn := fun _ => fun
  | [d1, d2] => { results := [.lit (.bool true)], args := [d1, d2] }
  | _ => none }
def lotsFitsRow : OpenClaim := { program := "ytdmackpiohkanaa", sum := "2f23c96ce2fdbb430a721ad62f02da0029d122e23eebb41ad25f947f7f3cc3af", func := "stevedore/stevedorelaw09.LotsFits", spec := "lotsFits", inPlace := ["slices.overlaps[stevedore/api.Lot]"], unfollowed := true, recurses := true, apart := false }
def LotsFitsSaid : Prop := lotsFitsRow.holds Try.pinned (OpenSpec.ofChange lotsFitsSpec)

/-- ITS FALSE NEIGHBOUR: 'it returns false'. Refute it at one input. -/
def lotsFitsWrong : ChangeSpec := { name := "lotsFits", fn := fun _ => fun
  | [d1, d2] => { results := [.lit (.bool false)], args := [d1, d2] }
  | _ => none }
def LotsFitsWrongFalsely : Prop := lotsFitsRow.holds Try.pinned (OpenSpec.ofChange lotsFitsWrong)

/-- 'stevedorelaw11.RoomLoads': WHATEVER THE INPUT: true; the input reads as it did. -/
def roomLoadsSpec : ChangeSpec := { name := "roomLoads", fn := fun _ => fun
  | [d1, d2] => { results := [.lit (.bool true)], args := [d1, d2] }
  | _ => none }
def roomLoadsRow : OpenClaim := { program := "ytdmackpiohkanaa", sum := "2f23c96ce2fdbb430a721ad62f02da0029d122e23eebb41ad25f947f7f3cc3af", func := "stevedore/stevedorelaw11.RoomLoads", spec := "roomLoads", inPlace := ["slices.overlaps[stevedore/api.Item]", "slices.overlaps[stevedore/api.Bin]"], unfollowed := true, recurses := true, apart := false }
def RoomLoadsSaid : Prop := roomLoadsRow.holds Try.pinned (OpenSpec.ofChange roomLoadsSpec)

/-- ITS FALSE NEIGHBOUR: 'it returns false'. Refute it at one input. -/
def roomLoadsWrong : ChangeSpec := { name := "roomLoads", fn := fun _ => fun
  | [d1, d2] => { results := [.lit (.bool false)], args := [d1, d2] }
  | _ => none }
def RoomLoadsWrongFalsely : Prop := roomLoadsRow.holds Try.pinned (OpenSpec.ofChange roomLoadsWrong)

/-- 'stevedorelaw11.RoomTurns': WHATEVER THE INPUT: true; the input reads as it did. -/
def roomTurnsSpec : ChangeSpec := { name := "roomTurns", fn := fun _ => fun
  | [d1, d2] => { results := [.lit (.bool true)], args := [d1, d2] }
  | _ => none }
def roomTurnsRow : OpenClaim := { program := "ytdmackpiohkanaa", sum := "2f23c96ce2fdbb430a721ad62f02da0029d122e23eebb41ad25f947f7f3cc3af", func := "stevedore/stevedorelaw11.RoomTurns", spec := "roomTurns", inPlace := ["slices.overlaps[stevedore/api.Item]", "slices.overlaps[stevedore/api.Bin]"], unfollowed := true, recurses := true, apart := false }
def RoomTurnsSaid : Prop := roomTurnsRow.holds Try.pinned (OpenSpec.ofChange roomTurnsSpec)

/-- ITS FALSE NEIGHBOUR: 'it returns false'. Refute it at one input. -/
def roomTurnsWrong : ChangeSpec := { name := "roomTurns", fn := fun _ => fun
  | [d1, d2] => { results := [.lit (.bool false)], args := [d1, d2] }
  | _ => none }
def RoomTurnsWrongFalsely : Prop := roomTurnsRow.holds Try.pinned (OpenSpec.ofChange roomTurnsWrong)

/-- 'stevedorelaw11.RoomHolds': WHATEVER THE INPUT: true; the input reads as it did. -/
def roomHoldsSpec : ChangeSpec := { name := "roomHolds", fn := fun _ => fun
  | [d1, d2] => { results := [.lit (.bool true)], args := [d1, d2] }
  | _ => none }
def roomHoldsRow : OpenClaim := { program := "ytdmackpiohkanaa", sum := "2f23c96ce2fdbb430a721ad62f02da0029d122e23eebb41ad25f947f7f3cc3af", func := "stevedore/stevedorelaw11.RoomHolds", spec := "roomHolds", inPlace := ["slices.overlaps[stevedore/api.Item]", "slices.overlaps[stevedore/api.Bin]"], unfollowed := true, recurses := true, apart := false }
def RoomHoldsSaid : Prop := roomHoldsRow.holds Try.pinned (OpenSpec.ofChange roomHoldsSpec)

/-- ITS FALSE NEIGHBOUR: 'it returns false'. Refute it at one input. -/
def roomHoldsWrong : ChangeSpec := { name := "roomHolds", fn := fun _ => fun
  | [d1, d2] => { results := [.lit (.bool false)], args := [d1, d2] }
  | _ => none }
def RoomHoldsWrongFalsely : Prop := roomHoldsRow.holds Try.pinned (OpenSpec.ofChange roomHoldsWrong)

/-- 'stevedorelaw11.RoomAdds': WHATEVER THE INPUT: true; the input reads as it did. -/
def roomAddsSpec : ChangeSpec := { name := "roomAdds", fn := fun _ => fun
  | [d1, d2] => { results := [.lit (.bool true)], args := [d1, d2] }
  | _ => none }
def roomAddsRow : OpenClaim := { program := "ytdmackpiohkanaa", sum := "2f23c96ce2fdbb430a721ad62f02da0029d122e23eebb41ad25f947f7f3cc3af", func := "stevedore/stevedorelaw11.RoomAdds", spec := "roomAdds", inPlace := ["slices.overlaps[stevedore/api.Item]", "slices.overlaps[stevedore/api.Bin]"], unfollowed := true, recurses := true, apart := false }
def RoomAddsSaid : Prop := roomAddsRow.holds Try.pinned (OpenSpec.ofChange roomAddsSpec)

/-- ITS FALSE NEIGHBOUR: 'it returns false'. Refute it at one input. -/
def roomAddsWrong : ChangeSpec := { name := "roomAdds", fn := fun _ => fun
  | [d1, d2] => { results := [.lit (.bool false)], args := [d1, d2] }
  | _ => none }
def RoomAddsWrongFalsely : Prop := roomAddsRow.holds Try.pinned (OpenSpec.ofChange roomAddsWrong)

/-- 'stevedorelaw11.RoomResize': WHATEVER THE INPUT: true; the input reads as it did. -/
def roomResizeSpec : ChangeSpec := { name := "roomResize", fn := fun _ => fun
  | [d1, d2] => { results := [.lit (.bool true)], args := [d1, d2] }
  | _ => none }
def roomResizeRow : OpenClaim := { program := "ytdmackpiohkanaa", sum := "2f23c96ce2fdbb430a721ad62f02da0029d122e23eebb41ad25f947f7f3cc3af", func := "stevedore/stevedorelaw11.RoomResize", spec := "roomResize", inPlace := ["slices.overlaps[stevedore/api.Item]", "slices.overlaps[stevedore/api.Bin]"], unfollowed := true, recurses := true, apart := false }
def RoomResizeSaid : Prop := roomResizeRow.holds Try.pinned (OpenSpec.ofChange roomResizeSpec)

/-- ITS FALSE NEIGHBOUR: 'it returns false'. Refute it at one input. -/
def roomResizeWrong : ChangeSpec := { name := "roomResize", fn := fun _ => fun
  | [d1, d2] => { results := [.lit (.bool false)], args := [d1, d2] }
  | _ => none }
def RoomResizeWrongFalsely : Prop := roomResizeRow.holds Try.pinned (OpenSpec.ofChange roomResizeWrong)

/-- 'stevedorelaw11.RoomLimit': WHATEVER THE INPUT: true; the input reads as it did. -/
def roomLimitSpec : ChangeSpec := { name := "roomLimit", fn := fun _ => fun
  | [d1, d2] => { results := [.lit (.bool true)], args := [d1, d2] }
  | _ => none }
def roomLimitRow : OpenClaim := { program := "ytdmackpiohkanaa", sum := "2f23c96ce2fdbb430a721ad62f02da0029d122e23eebb41ad25f947f7f3cc3af", func := "stevedore/stevedorelaw11.RoomLimit", spec := "roomLimit", inPlace := ["slices.overlaps[stevedore/api.Item]", "slices.overlaps[stevedore/api.Bin]"], unfollowed := true, recurses := true, apart := false }
def RoomLimitSaid : Prop := roomLimitRow.holds Try.pinned (OpenSpec.ofChange roomLimitSpec)

/-- ITS FALSE NEIGHBOUR: 'it returns false'. Refute it at one input. -/
def roomLimitWrong : ChangeSpec := { name := "roomLimit", fn := fun _ => fun
  | [d1, d2] => { results := [.lit (.bool false)], args := [d1, d2] }
  | _ => none }
def RoomLimitWrongFalsely : Prop := roomLimitRow.holds Try.pinned (OpenSpec.ofChange roomLimitWrong)

/-- 'stevedorelaw11.RoomFits': WHATEVER THE INPUT: true; the input reads as it did. -/
def roomFitsSpec : ChangeSpec := { name := "roomFits", fn := fun _ => fun
  | [d1, d2] => { results := [.lit (.bool true)], args := [d1, d2] }
  | _ => none }
def roomFitsRow : OpenClaim := { program := "ytdmackpiohkanaa", sum := "2f23c96ce2fdbb430a721ad62f02da0029d122e23eebb41ad25f947f7f3cc3af", func := "stevedore/stevedorelaw11.RoomFits", spec := "roomFits", inPlace := ["slices.overlaps[stevedore/api.Item]", "slices.overlaps[stevedore/api.Bin]"], unfollowed := true, recurses := true, apart := false }
def RoomFitsSaid : Prop := roomFitsRow.holds Try.pinned (OpenSpec.ofChange roomFitsSpec)

/-- ITS FALSE NEIGHBOUR: 'it returns false'. Refute it at one input. -/
def roomFitsWrong : ChangeSpec := { name := "roomFits", fn := fun _ => fun
  | [d1, d2] => { results := [.lit (.bool false)], args := [d1, d2] }
  | _ => none }
def RoomFitsWrongFalsely : Prop := roomFitsRow.holds Try.pinned (OpenSpec.ofChange roomFitsWrong)

/-- 'stevedorelaw11.RoomOver': WHATEVER THE INPUT: true; the input reads as it did. -/
def roomOverSpec : ChangeSpec := { name := "roomOver", fn := fun _ => fun
  | [d] => { results := [.lit (.bool true)], args := [d] }
  | _ => none }
def roomOverRow : OpenClaim := { program := "ytdmackpiohkanaa", sum := "2f23c96ce2fdbb430a721ad62f02da0029d122e23eebb41ad25f947f7f3cc3af", func := "stevedore/stevedorelaw11.RoomOver", spec := "roomOver", inPlace := ["slices.overlaps[stevedore/api.Item]", "slices.overlaps[stevedore/api.Bin]"], unfollowed := true, recurses := true, apart := false }
def RoomOverSaid : Prop := roomOverRow.holds Try.pinned (OpenSpec.ofChange roomOverSpec)

/-- ITS FALSE NEIGHBOUR: 'it returns false'. Refute it at one input. -/
def roomOverWrong : ChangeSpec := { name := "roomOver", fn := fun _ => fun
  | [d] => { results := [.lit (.bool false)], args := [d] }
  | _ => none }
def RoomOverWrongFalsely : Prop := roomOverRow.holds Try.pinned (OpenSpec.ofChange roomOverWrong)

/-- 'stevedorelaw10.LayoutAdds': WHATEVER THE INPUT: true; the input reads as it did. -/
def layoutAddsSpec : ChangeSpec := { name := "layoutAdds", fn := fun _ => fun
  | [d1, d2, d3] => { results := [.lit (.bool true)], args := [d1, d2, d3] }
  | _ => none }
def layoutAddsRow : OpenClaim := { program := "ytdmackpiohkanaa", sum := "2f23c96ce2fdbb430a721ad62f02da0029d122e23eebb41ad25f947f7f3cc3af", func := "stevedore/stevedorelaw10.LayoutAdds", spec := "layoutAdds", inPlace := ["slices.overlaps[stevedore/api.Zone]", "slices.overlaps[stevedore/api.Bin]"], unfollowed := true, recurses := true, apart := false }
def LayoutAddsSaid : Prop := layoutAddsRow.holds Try.pinned (OpenSpec.ofChange layoutAddsSpec)

/-- ITS FALSE NEIGHBOUR: 'it returns false'. Refute it at one input. -/
def layoutAddsWrong : ChangeSpec := { name := "layoutAdds", fn := fun _ => fun
  | [d1, d2, d3] => { results := [.lit (.bool false)], args := [d1, d2, d3] }
  | _ => none }
def LayoutAddsWrongFalsely : Prop := layoutAddsRow.holds Try.pinned (OpenSpec.ofChange layoutAddsWrong)

/-- 'stevedorelaw10.LayoutFinds': WHATEVER THE INPUT: true; the input reads as it did. -/
def layoutFindsSpec : ChangeSpec := { name := "layoutFinds", fn := fun _ => fun
  | [d1, d2, d3] => { results := [.lit (.bool true)], args := [d1, d2, d3] }
  | _ => none }
def layoutFindsRow : OpenClaim := { program := "ytdmackpiohkanaa", sum := "2f23c96ce2fdbb430a721ad62f02da0029d122e23eebb41ad25f947f7f3cc3af", func := "stevedore/stevedorelaw10.LayoutFinds", spec := "layoutFinds", inPlace := ["slices.overlaps[stevedore/api.Zone]", "slices.overlaps[stevedore/api.Bin]"], unfollowed := true, recurses := true, apart := false }
def LayoutFindsSaid : Prop := layoutFindsRow.holds Try.pinned (OpenSpec.ofChange layoutFindsSpec)

/-- ITS FALSE NEIGHBOUR: 'it returns false'. Refute it at one input. -/
def layoutFindsWrong : ChangeSpec := { name := "layoutFinds", fn := fun _ => fun
  | [d1, d2, d3] => { results := [.lit (.bool false)], args := [d1, d2, d3] }
  | _ => none }
def LayoutFindsWrongFalsely : Prop := layoutFindsRow.holds Try.pinned (OpenSpec.ofChange layoutFindsWrong)

/-- 'stevedorelaw10.LayoutStands': WHATEVER THE INPUT: true; the input reads as it did. -/
def layoutStandsSpec : ChangeSpec := { name := "layoutStands", fn := fun _ => fun
  | [d1, d2] => { results := [.lit (.bool true)], args := [d1, d2] }
  | _ => none }
def layoutStandsRow : OpenClaim := { program := "ytdmackpiohkanaa", sum := "2f23c96ce2fdbb430a721ad62f02da0029d122e23eebb41ad25f947f7f3cc3af", func := "stevedore/stevedorelaw10.LayoutStands", spec := "layoutStands", inPlace := ["slices.overlaps[stevedore/api.Zone]", "slices.overlaps[stevedore/api.Bin]"], unfollowed := true, recurses := true, apart := false }
def LayoutStandsSaid : Prop := layoutStandsRow.holds Try.pinned (OpenSpec.ofChange layoutStandsSpec)

/-- ITS FALSE NEIGHBOUR: 'it returns false'. Refute it at one input. -/
def layoutStandsWrong : ChangeSpec := { name := "layoutStands", fn := fun _ => fun
  | [d1, d2] => { results := [.lit (.bool false)], args := [d1, d2] }
  | _ => none }
def LayoutStandsWrongFalsely : Prop := layoutStandsRow.holds Try.pinned (OpenSpec.ofChange layoutStandsWrong)

/-- 'stevedorelaw10.LayoutBins': WHATEVER THE INPUT: true; the input reads as it did. -/
def layoutBinsSpec : ChangeSpec := { name := "layoutBins", fn := fun _ => fun
  | [d1, d2] => { results := [.lit (.bool true)], args := [d1, d2] }
  | _ => none }
def layoutBinsRow : OpenClaim := { program := "ytdmackpiohkanaa", sum := "2f23c96ce2fdbb430a721ad62f02da0029d122e23eebb41ad25f947f7f3cc3af", func := "stevedore/stevedorelaw10.LayoutBins", spec := "layoutBins", inPlace := ["slices.overlaps[stevedore/api.Zone]", "slices.overlaps[stevedore/api.Bin]"], unfollowed := true, recurses := true, apart := false }
def LayoutBinsSaid : Prop := layoutBinsRow.holds Try.pinned (OpenSpec.ofChange layoutBinsSpec)

/-- ITS FALSE NEIGHBOUR: 'it returns false'. Refute it at one input. -/
def layoutBinsWrong : ChangeSpec := { name := "layoutBins", fn := fun _ => fun
  | [d1, d2] => { results := [.lit (.bool false)], args := [d1, d2] }
  | _ => none }
def LayoutBinsWrongFalsely : Prop := layoutBinsRow.holds Try.pinned (OpenSpec.ofChange layoutBinsWrong)

/-- 'stevedorelaw10.LayoutZones': WHATEVER THE INPUT: true; the input reads as it did. -/
def layoutZonesSpec : ChangeSpec := { name := "layoutZones", fn := fun _ => fun
  | [d1, d2] => { results := [.lit (.bool true)], args := [d1, d2] }
  | _ => none }
def layoutZonesRow : OpenClaim := { program := "ytdmackpiohkanaa", sum := "2f23c96ce2fdbb430a721ad62f02da0029d122e23eebb41ad25f947f7f3cc3af", func := "stevedore/stevedorelaw10.LayoutZones", spec := "layoutZones", inPlace := ["slices.overlaps[stevedore/api.Zone]", "slices.overlaps[stevedore/api.Bin]"], unfollowed := true, recurses := true, apart := false }
def LayoutZonesSaid : Prop := layoutZonesRow.holds Try.pinned (OpenSpec.ofChange layoutZonesSpec)

/-- ITS FALSE NEIGHBOUR: 'it returns false'. Refute it at one input. -/
def layoutZonesWrong : ChangeSpec := { name := "layoutZones", fn := fun _ => fun
  | [d1, d2] => { results := [.lit (.bool false)], args := [d1, d2] }
  | _ => none }
def LayoutZonesWrongFalsely : Prop := layoutZonesRow.holds Try.pinned (OpenSpec.ofChange layoutZonesWrong)

/-- 'stevedorelaw10.LayoutFreeze': WHATEVER THE INPUT: true; the input reads as it did. -/
def layoutFreezeSpec : ChangeSpec := { name := "layoutFreeze", fn := fun _ => fun
  | [d1, d2, d3] => { results := [.lit (.bool true)], args := [d1, d2, d3] }
  | _ => none }
def layoutFreezeRow : OpenClaim := { program := "ytdmackpiohkanaa", sum := "2f23c96ce2fdbb430a721ad62f02da0029d122e23eebb41ad25f947f7f3cc3af", func := "stevedore/stevedorelaw10.LayoutFreeze", spec := "layoutFreeze", inPlace := ["slices.overlaps[stevedore/api.Zone]", "slices.overlaps[stevedore/api.Bin]"], unfollowed := true, recurses := true, apart := false }
def LayoutFreezeSaid : Prop := layoutFreezeRow.holds Try.pinned (OpenSpec.ofChange layoutFreezeSpec)

/-- ITS FALSE NEIGHBOUR: 'it returns false'. Refute it at one input. -/
def layoutFreezeWrong : ChangeSpec := { name := "layoutFreeze", fn := fun _ => fun
  | [d1, d2, d3] => { results := [.lit (.bool false)], args := [d1, d2, d3] }
  | _ => none }
def LayoutFreezeWrongFalsely : Prop := layoutFreezeRow.holds Try.pinned (OpenSpec.ofChange layoutFreezeWrong)

/-- 'stevedorelaw10.LayoutSites': WHATEVER THE INPUT: true; the input reads as it did. -/
def layoutSitesSpec : ChangeSpec := { name := "layoutSites", fn := fun _ => fun
  | [d1, d2] => { results := [.lit (.bool true)], args := [d1, d2] }
  | _ => none }
def layoutSitesRow : OpenClaim := { program := "ytdmackpiohkanaa", sum := "2f23c96ce2fdbb430a721ad62f02da0029d122e23eebb41ad25f947f7f3cc3af", func := "stevedore/stevedorelaw10.LayoutSites", spec := "layoutSites", inPlace := ["slices.overlaps[stevedore/api.Zone]", "slices.overlaps[stevedore/api.Bin]"], unfollowed := true, recurses := true, apart := false }
def LayoutSitesSaid : Prop := layoutSitesRow.holds Try.pinned (OpenSpec.ofChange layoutSitesSpec)

/-- ITS FALSE NEIGHBOUR: 'it returns false'. Refute it at one input. -/
def layoutSitesWrong : ChangeSpec := { name := "layoutSites", fn := fun _ => fun
  | [d1, d2] => { results := [.lit (.bool false)], args := [d1, d2] }
  | _ => none }
def LayoutSitesWrongFalsely : Prop := layoutSitesRow.holds Try.pinned (OpenSpec.ofChange layoutSitesWrong)

/- THE SECOND FORM. 'bulk': how many values and letters a reading holds, each counted each time it is reached (what is shared counts as often as it is met; a slice's spare places count too). A statement '..UptoSaid' is the law's where the arguments, and the package variables that the reading takes, are together of bulk at most 1048576: NARROWER than '..Said'. Prove '..Said' where nothing that the law and all that it calls make is longer than what came in: it says more and counts as full. Else prove '..UptoSaid'. A law counts once. -/
mutual
def uptoBulk {H : Type} : DataW H → Nat
  | .lit (.string bytes) => bytes.length + 1
  | .lit _ => 1
  | .nil => 1
  | .ptr d => uptoBulk d + 1
  | .slice elems spare => uptoBulkAll elems + uptoBulkAll spare + 1
  | .agg parts => uptoBulkAll parts + 1
  | .iface _ d => uptoBulk d + 1
  | .map entries => uptoBulkEntries entries + 1
  | .held _ => 1
def uptoBulkAll {H : Type} : List (DataW H) → Nat
  | [] => 0
  | d :: r => uptoBulk d + uptoBulkAll r
def uptoBulkEntries {H : Type} : List (Lit × DataW H) → Nat
  | [] => 0
  | x :: r => uptoBulkEntry x + uptoBulkEntries r
def uptoBulkEntry {H : Type} : Lit × DataW H → Nat
  | (.string bytes, d) => bytes.length + uptoBulk d + 1
  | (_, d) => uptoBulk d + 1
 end
def uptoSmall : (H : Type) → List (DataW H) → Bool := fun _ ds => decide (uptoBulkAll ds ≤ 1048576)
def OpenSpec.upto (s : _root_.Go.ChangeSpec) : _root_.Go.OpenSpec := { _root_.Go.OpenSpec.ofChange s with cond := some uptoSmall }

/-- 'stevedorelaw09.LotsSerial', WHERE WHAT IT READS IS OF BULK AT MOST 1048576: true; the input reads as it did. -/
def lotsSerialUptoRow : OpenClaim := { program := "ytdmackpiohkanaa", sum := "2f23c96ce2fdbb430a721ad62f02da0029d122e23eebb41ad25f947f7f3cc3af", func := "stevedore/stevedorelaw09.LotsSerial", spec := "lotsSerial", unfollowed := true, recurses := true, apart := false, narrowed := true }
def LotsSerialUptoSaid : Prop := lotsSerialUptoRow.holds Try.pinned (OpenSpec.upto lotsSerialSpec)

/-- 'stevedorelaw09.LotsDays', WHERE WHAT IT READS IS OF BULK AT MOST 1048576: true; the input reads as it did. -/
def lotsDaysUptoRow : OpenClaim := { program := "ytdmackpiohkanaa", sum := "2f23c96ce2fdbb430a721ad62f02da0029d122e23eebb41ad25f947f7f3cc3af", func := "stevedore/stevedorelaw09.LotsDays", spec := "lotsDays", unfollowed := true, recurses := true, apart := false, narrowed := true }
def LotsDaysUptoSaid : Prop := lotsDaysUptoRow.holds Try.pinned (OpenSpec.upto lotsDaysSpec)

/-- 'stevedorelaw09.LotsMay', WHERE WHAT IT READS IS OF BULK AT MOST 1048576: true; the input reads as it did. -/
def lotsMayUptoRow : OpenClaim := { program := "ytdmackpiohkanaa", sum := "2f23c96ce2fdbb430a721ad62f02da0029d122e23eebb41ad25f947f7f3cc3af", func := "stevedore/stevedorelaw09.LotsMay", spec := "lotsMay", unfollowed := true, recurses := true, apart := false, narrowed := true }
def LotsMayUptoSaid : Prop := lotsMayUptoRow.holds Try.pinned (OpenSpec.upto lotsMaySpec)

/-- 'stevedorelaw07.ItemsAdds', WHERE WHAT IT READS IS OF BULK AT MOST 1048576: true; the input reads as it did. -/
def itemsAddsUptoRow : OpenClaim := { program := "ytdmackpiohkanaa", sum := "2f23c96ce2fdbb430a721ad62f02da0029d122e23eebb41ad25f947f7f3cc3af", func := "stevedore/stevedorelaw07.ItemsAdds", spec := "itemsAdds", inPlace := ["slices.overlaps[stevedore/api.Item]"], unfollowed := true, recurses := true, apart := false, narrowed := true }
def ItemsAddsUptoSaid : Prop := itemsAddsUptoRow.holds Try.pinned (OpenSpec.upto itemsAddsSpec)

/-- 'stevedorelaw07.ItemsFinds', WHERE WHAT IT READS IS OF BULK AT MOST 1048576: true; the input reads as it did. -/
def itemsFindsUptoRow : OpenClaim := { program := "ytdmackpiohkanaa", sum := "2f23c96ce2fdbb430a721ad62f02da0029d122e23eebb41ad25f947f7f3cc3af", func := "stevedore/stevedorelaw07.ItemsFinds", spec := "itemsFinds", inPlace := ["slices.overlaps[stevedore/api.Item]"], unfollowed := true, recurses := true, apart := false, narrowed := true }
def ItemsFindsUptoSaid : Prop := itemsFindsUptoRow.holds Try.pinned (OpenSpec.upto itemsFindsSpec)

/-- 'stevedorelaw07.ItemsChecks', WHERE WHAT IT READS IS OF BULK AT MOST 1048576: true; the input reads as it did. -/
def itemsChecksUptoRow : OpenClaim := { program := "ytdmackpiohkanaa", sum := "2f23c96ce2fdbb430a721ad62f02da0029d122e23eebb41ad25f947f7f3cc3af", func := "stevedore/stevedorelaw07.ItemsChecks", spec := "itemsChecks", inPlace := ["slices.overlaps[stevedore/api.Item]"], unfollowed := true, recurses := true, apart := false, narrowed := true }
def ItemsChecksUptoSaid : Prop := itemsChecksUptoRow.holds Try.pinned (OpenSpec.upto itemsChecksSpec)

/-- 'stevedorelaw07.ItemsIs', WHERE WHAT IT READS IS OF BULK AT MOST 1048576: true; the input reads as it did. -/
def itemsIsUptoRow : OpenClaim := { program := "ytdmackpiohkanaa", sum := "2f23c96ce2fdbb430a721ad62f02da0029d122e23eebb41ad25f947f7f3cc3af", func := "stevedore/stevedorelaw07.ItemsIs", spec := "itemsIs", inPlace := ["slices.overlaps[stevedore/api.Item]"], unfollowed := true, recurses := true, apart := false, narrowed := true }
def ItemsIsUptoSaid : Prop := itemsIsUptoRow.holds Try.pinned (OpenSpec.upto itemsIsSpec)

/-- 'stevedorelaw07.ItemsLooks', WHERE WHAT IT READS IS OF BULK AT MOST 1048576: true; the input reads as it did. -/
def itemsLooksUptoRow : OpenClaim := { program := "ytdmackpiohkanaa", sum := "2f23c96ce2fdbb430a721ad62f02da0029d122e23eebb41ad25f947f7f3cc3af", func := "stevedore/stevedorelaw07.ItemsLooks", spec := "itemsLooks", inPlace := ["slices.overlaps[stevedore/api.Item]"], unfollowed := true, recurses := true, apart := false, narrowed := true }
def ItemsLooksUptoSaid : Prop := itemsLooksUptoRow.holds Try.pinned (OpenSpec.upto itemsLooksSpec)

/-- 'stevedorelaw09.LotsAdds', WHERE WHAT IT READS IS OF BULK AT MOST 1048576: true; the input reads as it did. -/
def lotsAddsUptoRow : OpenClaim := { program := "ytdmackpiohkanaa", sum := "2f23c96ce2fdbb430a721ad62f02da0029d122e23eebb41ad25f947f7f3cc3af", func := "stevedore/stevedorelaw09.LotsAdds", spec := "lotsAdds", inPlace := ["slices.overlaps[stevedore/api.Lot]"], unfollowed := true, recurses := true, apart := false, narrowed := true }
def LotsAddsUptoSaid : Prop := lotsAddsUptoRow.holds Try.pinned (OpenSpec.upto lotsAddsSpec)

/-- 'stevedorelaw09.LotsFits', WHERE WHAT IT READS IS OF BULK AT MOST 1048576: true; the input reads as it did. -/
def lotsFitsUptoRow : OpenClaim := { program := "ytdmackpiohkanaa", sum := "2f23c96ce2fdbb430a721ad62f02da0029d122e23eebb41ad25f947f7f3cc3af", func := "stevedore/stevedorelaw09.LotsFits", spec := "lotsFits", inPlace := ["slices.overlaps[stevedore/api.Lot]"], unfollowed := true, recurses := true, apart := false, narrowed := true }
def LotsFitsUptoSaid : Prop := lotsFitsUptoRow.holds Try.pinned (OpenSpec.upto lotsFitsSpec)

/-- 'stevedorelaw11.RoomLoads', WHERE WHAT IT READS IS OF BULK AT MOST 1048576: true; the input reads as it did. -/
def roomLoadsUptoRow : OpenClaim := { program := "ytdmackpiohkanaa", sum := "2f23c96ce2fdbb430a721ad62f02da0029d122e23eebb41ad25f947f7f3cc3af", func := "stevedore/stevedorelaw11.RoomLoads", spec := "roomLoads", inPlace := ["slices.overlaps[stevedore/api.Item]", "slices.overlaps[stevedore/api.Bin]"], unfollowed := true, recurses := true, apart := false, narrowed := true }
def RoomLoadsUptoSaid : Prop := roomLoadsUptoRow.holds Try.pinned (OpenSpec.upto roomLoadsSpec)

/-- 'stevedorelaw11.RoomTurns', WHERE WHAT IT READS IS OF BULK AT MOST 1048576: true; the input reads as it did. -/
def roomTurnsUptoRow : OpenClaim := { program := "ytdmackpiohkanaa", sum := "2f23c96ce2fdbb430a721ad62f02da0029d122e23eebb41ad25f947f7f3cc3af", func := "stevedore/stevedorelaw11.RoomTurns", spec := "roomTurns", inPlace := ["slices.overlaps[stevedore/api.Item]", "slices.overlaps[stevedore/api.Bin]"], unfollowed := true, recurses := true, apart := false, narrowed := true }
def RoomTurnsUptoSaid : Prop := roomTurnsUptoRow.holds Try.pinned (OpenSpec.upto roomTurnsSpec)

/-- 'stevedorelaw11.RoomHolds', WHERE WHAT IT READS IS OF BULK AT MOST 1048576: true; the input reads as it did. -/
def roomHoldsUptoRow : OpenClaim := { program := "ytdmackpiohkanaa", sum := "2f23c96ce2fdbb430a721ad62f02da0029d122e23eebb41ad25f947f7f3cc3af", func := "stevedore/stevedorelaw11.RoomHolds", spec := "roomHolds", inPlace := ["slices.overlaps[stevedore/api.Item]", "slices.overlaps[stevedore/api.Bin]"], unfollowed := true, recurses := true, apart := false, narrowed := true }
def RoomHoldsUptoSaid : Prop := roomHoldsUptoRow.holds Try.pinned (OpenSpec.upto roomHoldsSpec)

/-- 'stevedorelaw11.RoomAdds', WHERE WHAT IT READS IS OF BULK AT MOST 1048576: true; the input reads as it did. -/
def roomAddsUptoRow : OpenClaim := { program := "ytdmackpiohkanaa", sum := "2f23c96ce2fdbb430a721ad62f02da0029d122e23eebb41ad25f947f7f3cc3af", func := "stevedore/stevedorelaw11.RoomAdds", spec := "roomAdds", inPlace := ["slices.overlaps[stevedore/api.Item]", "slices.overlaps[stevedore/api.Bin]"], unfollowed := true, recurses := true, apart := false, narrowed := true }
def RoomAddsUptoSaid : Prop := roomAddsUptoRow.holds Try.pinned (OpenSpec.upto roomAddsSpec)

/-- 'stevedorelaw11.RoomResize', WHERE WHAT IT READS IS OF BULK AT MOST 1048576: true; the input reads as it did. -/
def roomResizeUptoRow : OpenClaim := { program := "ytdmackpiohkanaa", sum := "2f23c96ce2fdbb430a721ad62f02da0029d122e23eebb41ad25f947f7f3cc3af", func := "stevedore/stevedorelaw11.RoomResize", spec := "roomResize", inPlace := ["slices.overlaps[stevedore/api.Item]", "slices.overlaps[stevedore/api.Bin]"], unfollowed := true, recurses := true, apart := false, narrowed := true }
def RoomResizeUptoSaid : Prop := roomResizeUptoRow.holds Try.pinned (OpenSpec.upto roomResizeSpec)

/-- 'stevedorelaw11.RoomLimit', WHERE WHAT IT READS IS OF BULK AT MOST 1048576: true; the input reads as it did. -/
def roomLimitUptoRow : OpenClaim := { program := "ytdmackpiohkanaa", sum := "2f23c96ce2fdbb430a721ad62f02da0029d122e23eebb41ad25f947f7f3cc3af", func := "stevedore/stevedorelaw11.RoomLimit", spec := "roomLimit", inPlace := ["slices.overlaps[stevedore/api.Item]", "slices.overlaps[stevedore/api.Bin]"], unfollowed := true, recurses := true, apart := false, narrowed := true }
def RoomLimitUptoSaid : Prop := roomLimitUptoRow.holds Try.pinned (OpenSpec.upto roomLimitSpec)

/-- 'stevedorelaw11.RoomFits', WHERE WHAT IT READS IS OF BULK AT MOST 1048576: true; the input reads as it did. -/
def roomFitsUptoRow : OpenClaim := { program := "ytdmackpiohkanaa", sum := "2f23c96ce2fdbb430a721ad62f02da0029d122e23eebb41ad25f947f7f3cc3af", func := "stevedore/stevedorelaw11.RoomFits", spec := "roomFits", inPlace := ["slices.overlaps[stevedore/api.Item]", "slices.overlaps[stevedore/api.Bin]"], unfollowed := true, recurses := true, apart := false, narrowed := true }
def RoomFitsUptoSaid : Prop := roomFitsUptoRow.holds Try.pinned (OpenSpec.upto roomFitsSpec)

/-- 'stevedorelaw11.RoomOver', WHERE WHAT IT READS IS OF BULK AT MOST 1048576: true; the input reads as it did. -/
def roomOverUptoRow : OpenClaim := { program := "ytdmackpiohkanaa", sum := "2f23c96ce2fdbb430a721ad62f02da0029d122e23eebb41ad25f947f7f3cc3af", func := "stevedore/stevedorelaw11.RoomOver", spec := "roomOver", inPlace := ["slices.overlaps[stevedore/api.Item]", "slices.overlaps[stevedore/api.Bin]"], unfollowed := true, recurses := true, apart := false, narrowed := true }
def RoomOverUptoSaid : Prop := roomOverUptoRow.holds Try.pinned (OpenSpec.upto roomOverSpec)

/-- 'stevedorelaw10.LayoutAdds', WHERE WHAT IT READS IS OF BULK AT MOST 1048576: true; the input reads as it did. -/
def layoutAddsUptoRow : OpenClaim := { program := "ytdmackpiohkanaa", sum := "2f23c96ce2fdbb430a721ad62f02da0029d122e23eebb41ad25f947f7f3cc3af", func := "stevedore/stevedorelaw10.LayoutAdds", spec := "layoutAdds", inPlace := ["slices.overlaps[stevedore/api.Zone]", "slices.overlaps[stevedore/api.Bin]"], unfollowed := true, recurses := true, apart := false, narrowed := true }
def LayoutAddsUptoSaid : Prop := layoutAddsUptoRow.holds Try.pinned (OpenSpec.upto layoutAddsSpec)

/-- 'stevedorelaw10.LayoutFinds', WHERE WHAT IT READS IS OF BULK AT MOST 1048576: true; the input reads as it did. -/
def layoutFindsUptoRow : OpenClaim := { program := "ytdmackpiohkanaa", sum := "2f23c96ce2fdbb430a721ad62f02da0029d122e23eebb41ad25f947f7f3cc3af", func := "stevedore/stevedorelaw10.LayoutFinds", spec := "layoutFinds", inPlace := ["slices.overlaps[stevedore/api.Zone]", "slices.overlaps[stevedore/api.Bin]"], unfollowed := true, recurses := true, apart := false, narrowed := true }
def LayoutFindsUptoSaid : Prop := layoutFindsUptoRow.holds Try.pinned (OpenSpec.upto layoutFindsSpec)

/-- 'stevedorelaw10.LayoutStands', WHERE WHAT IT READS IS OF BULK AT MOST 1048576: true; the input reads as it did. -/
def layoutStandsUptoRow : OpenClaim := { program := "ytdmackpiohkanaa", sum := "2f23c96ce2fdbb430a721ad62f02da0029d122e23eebb41ad25f947f7f3cc3af", func := "stevedore/stevedorelaw10.LayoutStands", spec := "layoutStands", inPlace := ["slices.overlaps[stevedore/api.Zone]", "slices.overlaps[stevedore/api.Bin]"], unfollowed := true, recurses := true, apart := false, narrowed := true }
def LayoutStandsUptoSaid : Prop := layoutStandsUptoRow.holds Try.pinned (OpenSpec.upto layoutStandsSpec)

/-- 'stevedorelaw10.LayoutBins', WHERE WHAT IT READS IS OF BULK AT MOST 1048576: true; the input reads as it did. -/
def layoutBinsUptoRow : OpenClaim := { program := "ytdmackpiohkanaa", sum := "2f23c96ce2fdbb430a721ad62f02da0029d122e23eebb41ad25f947f7f3cc3af", func := "stevedore/stevedorelaw10.LayoutBins", spec := "layoutBins", inPlace := ["slices.overlaps[stevedore/api.Zone]", "slices.overlaps[stevedore/api.Bin]"], unfollowed := true, recurses := true, apart := false, narrowed := true }
def LayoutBinsUptoSaid : Prop := layoutBinsUptoRow.holds Try.pinned (OpenSpec.upto layoutBinsSpec)

/-- 'stevedorelaw10.LayoutZones', WHERE WHAT IT READS IS OF BULK AT MOST 1048576: true; the input reads as it did. -/
def layoutZonesUptoRow : OpenClaim := { program := "ytdmackpiohkanaa", sum := "2f23c96ce2fdbb430a721ad62f02da0029d122e23eebb41ad25f947f7f3cc3af", func := "stevedore/stevedorelaw10.LayoutZones", spec := "layoutZones", inPlace := ["slices.overlaps[stevedore/api.Zone]", "slices.overlaps[stevedore/api.Bin]"], unfollowed := true, recurses := true, apart := false, narrowed := true }
def LayoutZonesUptoSaid : Prop := layoutZonesUptoRow.holds Try.pinned (OpenSpec.upto layoutZonesSpec)

/-- 'stevedorelaw10.LayoutFreeze', WHERE WHAT IT READS IS OF BULK AT MOST 1048576: true; the input reads as it did. -/
def layoutFreezeUptoRow : OpenClaim := { program := "ytdmackpiohkanaa", sum := "2f23c96ce2fdbb430a721ad62f02da0029d122e23eebb41ad25f947f7f3cc3af", func := "stevedore/stevedorelaw10.LayoutFreeze", spec := "layoutFreeze", inPlace := ["slices.overlaps[stevedore/api.Zone]", "slices.overlaps[stevedore/api.Bin]"], unfollowed := true, recurses := true, apart := false, narrowed := true }
def LayoutFreezeUptoSaid : Prop := layoutFreezeUptoRow.holds Try.pinned (OpenSpec.upto layoutFreezeSpec)

/-- 'stevedorelaw10.LayoutSites', WHERE WHAT IT READS IS OF BULK AT MOST 1048576: true; the input reads as it did. -/
def layoutSitesUptoRow : OpenClaim := { program := "ytdmackpiohkanaa", sum := "2f23c96ce2fdbb430a721ad62f02da0029d122e23eebb41ad25f947f7f3cc3af", func := "stevedore/stevedorelaw10.LayoutSites", spec := "layoutSites", inPlace := ["slices.overlaps[stevedore/api.Zone]", "slices.overlaps[stevedore/api.Bin]"], unfollowed := true, recurses := true, apart := false, narrowed := true }
def LayoutSitesUptoSaid : Prop := layoutSitesUptoRow.holds Try.pinned (OpenSpec.upto layoutSitesSpec)

end Rows
end Go.Proofs.Ytdmackpiohkanaa
