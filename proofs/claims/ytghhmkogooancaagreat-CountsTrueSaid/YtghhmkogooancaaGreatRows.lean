/-
  No cell of these rows narrows 'for every input' (looked for: loops, veiled, ifaces, maps, wideKeys, modest, calm, conditions, laid).
  DERIVED. THE GIVEN ROWS OF THIS SEAT. 6 by the template 'for every input the law returns true; each argument reads behind the call as it read before'; 0 by the template 'total and deterministic' (their statements: YtghhmkogooancaaGreatTotals.lean).
  GIVEN WITH THE SEED: the statements are not yours to turn. If you find one false, say at which input.
  Laid BY PROGRAM, IN A SANDBOX (cutbox-rows.mjs): the forced cells as the released guide's own fill.sh prints them over the translation a6720aa084e9f4be… (all of the seat's roots in one cut). By AI agents, Wed Nov 11 2026. No macro, syntax, notation, axiom, sorry.
-/
import Derived.Test.YtghhmkogooancaaGreatChecked
import GoSem.Claim
import GoSem.ClaimJoined
import GoSem.ClaimMapViews
import Derived.JoinedTies
import Derived.KernelRfl
namespace Go.Proofs.YtghhmkogooancaaGreat
/- THE CELL 'sum', in the pinned program and in every row, IS THE sha256 OF THE DUMP (.gsa) THAT YtghhmkogooancaaGreatProg.lean LOADS. Nothing in Lean hashes anything: it is a label: what it is worth is what the hold of that sum in a sandbox is worth. -/
noncomputable def Tryz.pinned : Pinned := { name := "ytghhmkogooancaagreat", sum := "a6720aa084e9f4be642667581123a8e4c1e9c96b175e1af89b1093d7636a58ed", checked := Tryz.checked }
namespace Rows
def none {H : Type} : Left H := { results := [], args := [] }

/-- 'stevedorelaw21.CountsDo': WHATEVER THE INPUT: true; the input reads as it did. -/
def countsDoSpec : ChangeSpec := { name := "countsDo", fn := fun _ => fun
  | [d1, d2, d3] => { results := [.lit (.bool true)], args := [d1, d2, d3] }
  | _ => none }
def countsDoRow : OpenClaim := { program := "ytghhmkogooancaagreat", sum := "a6720aa084e9f4be642667581123a8e4c1e9c96b175e1af89b1093d7636a58ed", func := "stevedore/stevedorelaw21.CountsDo", spec := "countsDo", inPlace := ["slices.overlaps[stevedore/api.Bin]", "slices.overlaps[stevedore/api.Counted]", "slices.overlaps[stevedore/api.Quant]", "slices.overlaps[stevedore/api.Total]"], unfollowed := true, recurses := true, apart := false }
def CountsDoSaid : Prop := countsDoRow.holds Tryz.pinned (OpenSpec.ofChange countsDoSpec)

/-- ITS FALSE NEIGHBOUR: 'it returns false'. Refute it at one input. -/
def countsDoWrong : ChangeSpec := { name := "countsDo", fn := fun _ => fun
  | [d1, d2, d3] => { results := [.lit (.bool false)], args := [d1, d2, d3] }
  | _ => none }
def CountsDoWrongFalsely : Prop := countsDoRow.holds Tryz.pinned (OpenSpec.ofChange countsDoWrong)

/-- 'stevedorelaw21.CountsTrue': WHATEVER THE INPUT: true; the input reads as it did. -/
def countsTrueSpec : ChangeSpec := { name := "countsTrue", fn := fun _ => fun
  | [d1, d2, d3] => { results := [.lit (.bool true)], args := [d1, d2, d3] }
  | _ => none }
def countsTrueRow : OpenClaim := { program := "ytghhmkogooancaagreat", sum := "a6720aa084e9f4be642667581123a8e4c1e9c96b175e1af89b1093d7636a58ed", func := "stevedore/stevedorelaw21.CountsTrue", spec := "countsTrue", inPlace := ["slices.overlaps[stevedore/api.Bin]", "slices.overlaps[stevedore/api.Counted]", "slices.overlaps[stevedore/api.Quant]", "slices.overlaps[stevedore/api.Total]"], unfollowed := true, recurses := true, apart := false }
def CountsTrueSaid : Prop := countsTrueRow.holds Tryz.pinned (OpenSpec.ofChange countsTrueSpec)

/-- ITS FALSE NEIGHBOUR: 'it returns false'. Refute it at one input. -/
def countsTrueWrong : ChangeSpec := { name := "countsTrue", fn := fun _ => fun
  | [d1, d2, d3] => { results := [.lit (.bool false)], args := [d1, d2, d3] }
  | _ => none }
def CountsTrueWrongFalsely : Prop := countsTrueRow.holds Tryz.pinned (OpenSpec.ofChange countsTrueWrong)

/-- 'stevedorelaw21.CountsStop': WHATEVER THE INPUT: true; the input reads as it did. -/
def countsStopSpec : ChangeSpec := { name := "countsStop", fn := fun _ => fun
  | [d1, d2] => { results := [.lit (.bool true)], args := [d1, d2] }
  | _ => none }
def countsStopRow : OpenClaim := { program := "ytghhmkogooancaagreat", sum := "a6720aa084e9f4be642667581123a8e4c1e9c96b175e1af89b1093d7636a58ed", func := "stevedore/stevedorelaw21.CountsStop", spec := "countsStop", inPlace := ["slices.overlaps[stevedore/api.Bin]", "slices.overlaps[stevedore/api.Counted]", "slices.overlaps[stevedore/api.Quant]", "slices.overlaps[stevedore/api.Total]"], unfollowed := true, recurses := true, apart := false }
def CountsStopSaid : Prop := countsStopRow.holds Tryz.pinned (OpenSpec.ofChange countsStopSpec)

/-- ITS FALSE NEIGHBOUR: 'it returns false'. Refute it at one input. -/
def countsStopWrong : ChangeSpec := { name := "countsStop", fn := fun _ => fun
  | [d1, d2] => { results := [.lit (.bool false)], args := [d1, d2] }
  | _ => none }
def CountsStopWrongFalsely : Prop := countsStopRow.holds Tryz.pinned (OpenSpec.ofChange countsStopWrong)

/-- 'stevedorelaw21.CountsStarts': WHATEVER THE INPUT: true; the input reads as it did. -/
def countsStartsSpec : ChangeSpec := { name := "countsStarts", fn := fun _ => fun
  | [d1, d2] => { results := [.lit (.bool true)], args := [d1, d2] }
  | _ => none }
def countsStartsRow : OpenClaim := { program := "ytghhmkogooancaagreat", sum := "a6720aa084e9f4be642667581123a8e4c1e9c96b175e1af89b1093d7636a58ed", func := "stevedore/stevedorelaw21.CountsStarts", spec := "countsStarts", inPlace := ["slices.overlaps[stevedore/api.Bin]", "slices.overlaps[stevedore/api.Counted]", "slices.overlaps[stevedore/api.Quant]", "slices.overlaps[stevedore/api.Total]"], unfollowed := true, recurses := true, apart := false }
def CountsStartsSaid : Prop := countsStartsRow.holds Tryz.pinned (OpenSpec.ofChange countsStartsSpec)

/-- ITS FALSE NEIGHBOUR: 'it returns false'. Refute it at one input. -/
def countsStartsWrong : ChangeSpec := { name := "countsStarts", fn := fun _ => fun
  | [d1, d2] => { results := [.lit (.bool false)], args := [d1, d2] }
  | _ => none }
def CountsStartsWrongFalsely : Prop := countsStartsRow.holds Tryz.pinned (OpenSpec.ofChange countsStartsWrong)

/-- 'stevedorelaw21.CountsNotes': WHATEVER THE INPUT: true; the input reads as it did. -/
def countsNotesSpec : ChangeSpec := { name := "countsNotes", fn := fun _ => fun
  | [d1, d2] => { results := [.lit (.bool true)], args := [d1, d2] }
  | _ => none }
def countsNotesRow : OpenClaim := { program := "ytghhmkogooancaagreat", sum := "a6720aa084e9f4be642667581123a8e4c1e9c96b175e1af89b1093d7636a58ed", func := "stevedore/stevedorelaw21.CountsNotes", spec := "countsNotes", inPlace := ["slices.overlaps[stevedore/api.Bin]", "slices.overlaps[stevedore/api.Counted]", "slices.overlaps[stevedore/api.Quant]", "slices.overlaps[stevedore/api.Total]"], unfollowed := true, recurses := true, apart := false }
def CountsNotesSaid : Prop := countsNotesRow.holds Tryz.pinned (OpenSpec.ofChange countsNotesSpec)

/-- ITS FALSE NEIGHBOUR: 'it returns false'. Refute it at one input. -/
def countsNotesWrong : ChangeSpec := { name := "countsNotes", fn := fun _ => fun
  | [d1, d2] => { results := [.lit (.bool false)], args := [d1, d2] }
  | _ => none }
def CountsNotesWrongFalsely : Prop := countsNotesRow.holds Tryz.pinned (OpenSpec.ofChange countsNotesWrong)

/-- 'stevedorelaw21.CountsCloses': WHATEVER THE INPUT: true; the input reads as it did. -/
def countsClosesSpec : ChangeSpec := { name := "countsCloses", fn := fun _ => fun
  | [d1, d2, d3] => { results := [.lit (.bool true)], args := [d1, d2, d3] }
  | _ => none }
def countsClosesRow : OpenClaim := { program := "ytghhmkogooancaagreat", sum := "a6720aa084e9f4be642667581123a8e4c1e9c96b175e1af89b1093d7636a58ed", func := "stevedore/stevedorelaw21.CountsCloses", spec := "countsCloses", inPlace := ["slices.overlaps[stevedore/api.Bin]", "slices.overlaps[stevedore/api.Counted]", "slices.overlaps[stevedore/api.Quant]", "slices.overlaps[stevedore/api.Total]"], unfollowed := true, recurses := true, apart := false }
def CountsClosesSaid : Prop := countsClosesRow.holds Tryz.pinned (OpenSpec.ofChange countsClosesSpec)

/-- ITS FALSE NEIGHBOUR: 'it returns false'. Refute it at one input. -/
def countsClosesWrong : ChangeSpec := { name := "countsCloses", fn := fun _ => fun
  | [d1, d2, d3] => { results := [.lit (.bool false)], args := [d1, d2, d3] }
  | _ => none }
def CountsClosesWrongFalsely : Prop := countsClosesRow.holds Tryz.pinned (OpenSpec.ofChange countsClosesWrong)

/- THE SECOND FORM. 'bulk': how many values and letters a reading holds, each counted each time it is reached (what is shared counts as often as it is met; a slice's spare places count too). A statement '..UptoSaid' is the law's where the arguments, and the package variables that the reading takes, are together of bulk at most 1048576: NARROWER than '..Said'. Prove '..Said' where nothing that the law and all that it calls make is longer than what came in: it says more and counts as full. Else prove '..UptoSaid'. A law counts once. -/
mutual
def uptoBulk {H : Type} : DataW H → Nat
  | .lit (.string bytes) => bytes.length + 1
  | .lit _ => 1
  | .nil => 1
  | .ptr d => uptoBulk d + 1
  | .slice elems spare => uptoBulkAll elems + uptoBulkAll spare + 1
  | .agg parts => uptoBulkAll parts + 1
  | .iface _ d => uptoBulk d + 1
  | .map entries => uptoBulkEntries entries + 1
  | .held _ => 1
def uptoBulkAll {H : Type} : List (DataW H) → Nat
  | [] => 0
  | d :: r => uptoBulk d + uptoBulkAll r
def uptoBulkEntries {H : Type} : List (Lit × DataW H) → Nat
  | [] => 0
  | x :: r => uptoBulkEntry x + uptoBulkEntries r
def uptoBulkEntry {H : Type} : Lit × DataW H → Nat
  | (.string bytes, d) => bytes.length + uptoBulk d + 1
  | (_, d) => uptoBulk d + 1
 end
def uptoSmall : (H : Type) → List (DataW H) → Bool := fun _ ds => decide (uptoBulkAll ds ≤ 1048576)
def OpenSpec.upto (s : _root_.Go.ChangeSpec) : _root_.Go.OpenSpec := { _root_.Go.OpenSpec.ofChange s with cond := some uptoSmall }

/-- 'stevedorelaw21.CountsDo', WHERE WHAT IT READS IS OF BULK AT MOST 1048576: true; the input reads as it did. -/
def countsDoUptoRow : OpenClaim := { program := "ytghhmkogooancaagreat", sum := "a6720aa084e9f4be642667581123a8e4c1e9c96b175e1af89b1093d7636a58ed", func := "stevedore/stevedorelaw21.CountsDo", spec := "countsDo", inPlace := ["slices.overlaps[stevedore/api.Bin]", "slices.overlaps[stevedore/api.Counted]", "slices.overlaps[stevedore/api.Quant]", "slices.overlaps[stevedore/api.Total]"], unfollowed := true, recurses := true, apart := false, narrowed := true }
def CountsDoUptoSaid : Prop := countsDoUptoRow.holds Tryz.pinned (OpenSpec.upto countsDoSpec)

/-- 'stevedorelaw21.CountsTrue', WHERE WHAT IT READS IS OF BULK AT MOST 1048576: true; the input reads as it did. -/
def countsTrueUptoRow : OpenClaim := { program := "ytghhmkogooancaagreat", sum := "a6720aa084e9f4be642667581123a8e4c1e9c96b175e1af89b1093d7636a58ed", func := "stevedore/stevedorelaw21.CountsTrue", spec := "countsTrue", inPlace := ["slices.overlaps[stevedore/api.Bin]", "slices.overlaps[stevedore/api.Counted]", "slices.overlaps[stevedore/api.Quant]", "slices.overlaps[stevedore/api.Total]"], unfollowed := true, recurses := true, apart := false, narrowed := true }
def CountsTrueUptoSaid : Prop := countsTrueUptoRow.holds Tryz.pinned (OpenSpec.upto countsTrueSpec)

/-- 'stevedorelaw21.CountsStop', WHERE WHAT IT READS IS OF BULK AT MOST 1048576: true; the input reads as it did. -/
def countsStopUptoRow : OpenClaim := { program := "ytghhmkogooancaagreat", sum := "a6720aa084e9f4be642667581123a8e4c1e9c96b175e1af89b1093d7636a58ed", func := "stevedore/stevedorelaw21.CountsStop", spec := "countsStop", inPlace := ["slices.overlaps[stevedore/api.Bin]", "slices.overlaps[stevedore/api.Counted]", "slices.overlaps[stevedore/api.Quant]", "slices.overlaps[stevedore/api.Total]"], unfollowed := true, recurses := true, apart := false, narrowed := true }
def CountsStopUptoSaid : Prop := countsStopUptoRow.holds Tryz.pinned (OpenSpec.upto countsStopSpec)

/-- 'stevedorelaw21.CountsStarts', WHERE WHAT IT READS IS OF BULK AT MOST 1048576: true; the input reads as it did. -/
def countsStartsUptoRow : OpenClaim := { program := "ytghhmkogooancaagreat", sum := "a6720aa084e9f4be642667581123a8e4c1e9c96b175e1af89b1093d7636a58ed", func := "stevedore/stevedorelaw21.CountsStarts", spec := "countsStarts", inPlace := ["slices.overlaps[stevedore/api.Bin]", "slices.overlaps[stevedore/api.Counted]", "slices.overlaps[stevedore/api.Quant]", "slices.overlaps[stevedore/api.Total]"], unfollowed := true, recurses := true, apart := false, narrowed := true }
def CountsStartsUptoSaid : Prop := countsStartsUptoRow.holds Tryz.pinned (OpenSpec.upto countsStartsSpec)

/-- 'stevedorelaw21.CountsNotes', WHERE WHAT IT READS IS OF BULK AT MOST 1048576: true; the input reads as it did. -/
def countsNotesUptoRow : OpenClaim := { program := "ytghhmkogooancaagreat", sum := "a6720aa084e9f4be642667581123a8e4c1e9c96b175e1af89b1093d7636a58ed", func := "stevedore/stevedorelaw21.CountsNotes", spec := "countsNotes", inPlace := ["slices.overlaps[stevedore/api.Bin]", "slices.overlaps[stevedore/api.Counted]", "slices.overlaps[stevedore/api.Quant]", "slices.overlaps[stevedore/api.Total]"], unfollowed := true, recurses := true, apart := false, narrowed := true }
def CountsNotesUptoSaid : Prop := countsNotesUptoRow.holds Tryz.pinned (OpenSpec.upto countsNotesSpec)

/-- 'stevedorelaw21.CountsCloses', WHERE WHAT IT READS IS OF BULK AT MOST 1048576: true; the input reads as it did. -/
def countsClosesUptoRow : OpenClaim := { program := "ytghhmkogooancaagreat", sum := "a6720aa084e9f4be642667581123a8e4c1e9c96b175e1af89b1093d7636a58ed", func := "stevedore/stevedorelaw21.CountsCloses", spec := "countsCloses", inPlace := ["slices.overlaps[stevedore/api.Bin]", "slices.overlaps[stevedore/api.Counted]", "slices.overlaps[stevedore/api.Quant]", "slices.overlaps[stevedore/api.Total]"], unfollowed := true, recurses := true, apart := false, narrowed := true }
def CountsClosesUptoSaid : Prop := countsClosesUptoRow.holds Tryz.pinned (OpenSpec.upto countsClosesSpec)

end Rows
end Go.Proofs.YtghhmkogooancaaGreat
