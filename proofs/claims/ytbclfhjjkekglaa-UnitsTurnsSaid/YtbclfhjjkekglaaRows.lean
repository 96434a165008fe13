/-
  No cell of these rows narrows 'for every input' (looked for: loops, veiled, ifaces, maps, wideKeys, modest, calm, conditions, laid).
  DERIVED. THE GIVEN ROWS OF THIS SEAT. 5 by the template 'for every input the law returns true; each argument reads behind the call as it read before'; 0 by the template 'total and deterministic' (their statements: YtbclfhjjkekglaaTotals.lean).
  GIVEN WITH THE SEED: the statements are not yours to turn. If you find one false, say at which input.
  Laid BY PROGRAM, IN A SANDBOX (cutbox-rows.mjs): the forced cells as the released guide's own fill.sh prints them over the translation a37426475f98eea4… (all of the seat's roots in one cut). By AI agents, Wed Nov 11 2026. No macro, syntax, notation, axiom, sorry.
-/
import Derived.Test.YtbclfhjjkekglaaChecked
import GoSem.Claim
import GoSem.ClaimJoined
import GoSem.ClaimMapViews
import Derived.JoinedTies
import Derived.KernelRfl
namespace Go.Proofs.Ytbclfhjjkekglaa
/- THE CELL 'sum', in the pinned program and in every row, IS THE sha256 OF THE DUMP (.gsa) THAT YtbclfhjjkekglaaProg.lean LOADS. Nothing in Lean hashes anything: it is a label: what it is worth is what the hold of that sum in a sandbox is worth. -/
noncomputable def Try.pinned : Pinned := { name := "ytbclfhjjkekglaa", sum := "a37426475f98eea4820b770dbeffdb773ad6f7404c12da476b74215768a634bd", checked := Try.checked }
namespace Rows
def none {H : Type} : Left H := { results := [], args := [] }

/-- 'stevedorelaw08.UnitsTurns': WHATEVER THE INPUT: true; the input reads as it did. -/
def unitsTurnsSpec : ChangeSpec := { name := "unitsTurns", fn := fun _ => fun
  | [d1, d2, d3] => { results := [.lit (.bool true)], args := [d1, d2, d3] }
  | _ => none }
def unitsTurnsRow : OpenClaim := { program := "ytbclfhjjkekglaa", sum := "a37426475f98eea4820b770dbeffdb773ad6f7404c12da476b74215768a634bd", func := "stevedore/stevedorelaw08.UnitsTurns", spec := "unitsTurns", unfollowed := true, recurses := true, apart := false }
def UnitsTurnsSaid : Prop := unitsTurnsRow.holds Try.pinned (OpenSpec.ofChange unitsTurnsSpec)

/-- ITS FALSE NEIGHBOUR: 'it returns false'. Refute it at one input. -/
def unitsTurnsWrong : ChangeSpec := { name := "unitsTurns", fn := fun _ => fun
  | [d1, d2, d3] => { results := [.lit (.bool false)], args := [d1, d2, d3] }
  | _ => none }
def UnitsTurnsWrongFalsely : Prop := unitsTurnsRow.holds Try.pinned (OpenSpec.ofChange unitsTurnsWrong)

/-- 'stevedorelaw08.UnitsBack': WHATEVER THE INPUT: true; the input reads as it did. -/
def unitsBackSpec : ChangeSpec := { name := "unitsBack", fn := fun _ => fun
  | [d1, d2] => { results := [.lit (.bool true)], args := [d1, d2] }
  | _ => none }
def unitsBackRow : OpenClaim := { program := "ytbclfhjjkekglaa", sum := "a37426475f98eea4820b770dbeffdb773ad6f7404c12da476b74215768a634bd", func := "stevedore/stevedorelaw08.UnitsBack", spec := "unitsBack", unfollowed := true, recurses := true, apart := false }
def UnitsBackSaid : Prop := unitsBackRow.holds Try.pinned (OpenSpec.ofChange unitsBackSpec)

/-- ITS FALSE NEIGHBOUR: 'it returns false'. Refute it at one input. -/
def unitsBackWrong : ChangeSpec := { name := "unitsBack", fn := fun _ => fun
  | [d1, d2] => { results := [.lit (.bool false)], args := [d1, d2] }
  | _ => none }
def UnitsBackWrongFalsely : Prop := unitsBackRow.holds Try.pinned (OpenSpec.ofChange unitsBackWrong)

/-- 'stevedorelaw08.UnitsAdds': WHATEVER THE INPUT: true; the input reads as it did. -/
def unitsAddsSpec : ChangeSpec := { name := "unitsAdds", fn := fun _ => fun
  | [d1, d2, d3] => { results := [.lit (.bool true)], args := [d1, d2, d3] }
  | _ => none }
def unitsAddsRow : OpenClaim := { program := "ytbclfhjjkekglaa", sum := "a37426475f98eea4820b770dbeffdb773ad6f7404c12da476b74215768a634bd", func := "stevedore/stevedorelaw08.UnitsAdds", spec := "unitsAdds", unfollowed := true, recurses := true, apart := false }
def UnitsAddsSaid : Prop := unitsAddsRow.holds Try.pinned (OpenSpec.ofChange unitsAddsSpec)

/-- ITS FALSE NEIGHBOUR: 'it returns false'. Refute it at one input. -/
def unitsAddsWrong : ChangeSpec := { name := "unitsAdds", fn := fun _ => fun
  | [d1, d2, d3] => { results := [.lit (.bool false)], args := [d1, d2, d3] }
  | _ => none }
def UnitsAddsWrongFalsely : Prop := unitsAddsRow.holds Try.pinned (OpenSpec.ofChange unitsAddsWrong)

/-- 'stevedorelaw08.UnitsBases': WHATEVER THE INPUT: true; the input reads as it did. -/
def unitsBasesSpec : ChangeSpec := { name := "unitsBases", fn := fun _ => fun
  | [d1, d2, d3] => { results := [.lit (.bool true)], args := [d1, d2, d3] }
  | _ => none }
def unitsBasesRow : OpenClaim := { program := "ytbclfhjjkekglaa", sum := "a37426475f98eea4820b770dbeffdb773ad6f7404c12da476b74215768a634bd", func := "stevedore/stevedorelaw08.UnitsBases", spec := "unitsBases", unfollowed := true, recurses := true, apart := false }
def UnitsBasesSaid : Prop := unitsBasesRow.holds Try.pinned (OpenSpec.ofChange unitsBasesSpec)

/-- ITS FALSE NEIGHBOUR: 'it returns false'. Refute it at one input. -/
def unitsBasesWrong : ChangeSpec := { name := "unitsBases", fn := fun _ => fun
  | [d1, d2, d3] => { results := [.lit (.bool false)], args := [d1, d2, d3] }
  | _ => none }
def UnitsBasesWrongFalsely : Prop := unitsBasesRow.holds Try.pinned (OpenSpec.ofChange unitsBasesWrong)

/-- 'stevedorelaw08.UnitsSplits': WHATEVER THE INPUT: true; the input reads as it did. -/
def unitsSplitsSpec : ChangeSpec := { name := "unitsSplits", fn := fun _ => fun
  | [d1, d2] => { results := [.lit (.bool true)], args := [d1, d2] }
  | _ => none }
def unitsSplitsRow : OpenClaim := { program := "ytbclfhjjkekglaa", sum := "a37426475f98eea4820b770dbeffdb773ad6f7404c12da476b74215768a634bd", func := "stevedore/stevedorelaw08.UnitsSplits", spec := "unitsSplits", unfollowed := true, recurses := true, apart := false }
def UnitsSplitsSaid : Prop := unitsSplitsRow.holds Try.pinned (OpenSpec.ofChange unitsSplitsSpec)

/-- ITS FALSE NEIGHBOUR: 'it returns false'. Refute it at one input. -/
def unitsSplitsWrong : ChangeSpec := { name := "unitsSplits", fn := fun _ => fun
  | [d1, d2] => { results := [.lit (.bool false)], args := [d1, d2] }
  | _ => none }
def UnitsSplitsWrongFalsely : Prop := unitsSplitsRow.holds Try.pinned (OpenSpec.ofChange unitsSplitsWrong)

/- THE SECOND FORM. 'bulk': how many values and letters a reading holds, each counted each time it is reached (what is shared counts as often as it is met; a slice's spare places count too). A statement '..UptoSaid' is the law's where the arguments, and the package variables that the reading takes, are together of bulk at most 1048576: NARROWER than '..Said'. Prove '..Said' where nothing that the law and all that it calls make is longer than what came in: it says more and counts as full. Else prove '..UptoSaid'. A law counts once. -/
mutual
def uptoBulk {H : Type} : DataW H → Nat
  | .lit (.string bytes) => bytes.length + 1
  | .lit _ => 1
  | .nil => 1
  | .ptr d => uptoBulk d + 1
  | .slice elems spare => uptoBulkAll elems + uptoBulkAll spare + 1
  | .agg parts => uptoBulkAll parts + 1
  | .iface _ d => uptoBulk d + 1
  | .map entries => uptoBulkEntries entries + 1
  | .held _ => 1
def uptoBulkAll {H : Type} : List (DataW H) → Nat
  | [] => 0
  | d :: r => uptoBulk d + uptoBulkAll r
def uptoBulkEntries {H : Type} : List (Lit × DataW H) → Nat
  | [] => 0
  | x :: r => uptoBulkEntry x + uptoBulkEntries r
def uptoBulkEntry {H : Type} : Lit × DataW H → Nat
  | (.string bytes, d) => bytes.length + uptoBulk d + 1
  | (_, d) => uptoBulk d + 1
 end
def uptoSmall : (H : Type) → List (DataW H) → Bool := fun _ ds => decide (uptoBulkAll ds ≤ 1048576)
def OpenSpec.upto (s : _root_.Go.ChangeSpec) : _root_.Go.OpenSpec := { _root_.Go.OpenSpec.ofChange s with cond := some uptoSmall }

/-- 'stevedorelaw08.UnitsTurns', WHERE WHAT IT READS IS OF BULK AT MOST 1048576: true; the input reads as it did. -/
def unitsTurnsUptoRow : OpenClaim := { program := "ytbclfhjjkekglaa", sum := "a37426475f98eea4820b770dbeffdb773ad6f7404c12da476b74215768a634bd", func := "stevedore/stevedorelaw08.UnitsTurns", spec := "unitsTurns", unfollowed := true, recurses := true, apart := false, narrowed := true }
def UnitsTurnsUptoSaid : Prop := unitsTurnsUptoRow.holds Try.pinned (OpenSpec.upto unitsTurnsSpec)

/-- 'stevedorelaw08.UnitsBack', WHERE WHAT IT READS IS OF BULK AT MOST 1048576: true; the input reads as it did. -/
def unitsBackUptoRow : OpenClaim := { program := "ytbclfhjjkekglaa", sum := "a37426475f98eea4820b770dbeffdb773ad6f7404c12da476b74215768a634bd", func := "stevedore/stevedorelaw08.UnitsBack", spec := "unitsBack", unfollowed := true, recurses := true, apart := false, narrowed := true }
def UnitsBackUptoSaid : Prop := unitsBackUptoRow.holds Try.pinned (OpenSpec.upto unitsBackSpec)

/-- 'stevedorelaw08.UnitsAdds', WHERE WHAT IT READS IS OF BULK AT MOST 1048576: true; the input reads as it did. -/
def unitsAddsUptoRow : OpenClaim := { program := "ytbclfhjjkekglaa", sum := "a37426475f98eea4820b770dbeffdb773ad6f7404c12da476b74215768a634bd", func := "stevedore/stevedorelaw08.UnitsAdds", spec := "unitsAdds", unfollowed := true, recurses := true, apart := false, narrowed := true }
def UnitsAddsUptoSaid : Prop := unitsAddsUptoRow.holds Try.pinned (OpenSpec.upto unitsAddsSpec)

/-- 'stevedorelaw08.UnitsBases', WHERE WHAT IT READS IS OF BULK AT MOST 1048576: true; the input reads as it did. -/
def unitsBasesUptoRow : OpenClaim := { program := "ytbclfhjjkekglaa", sum := "a37426475f98eea4820b770dbeffdb773ad6f7404c12da476b74215768a634bd", func := "stevedore/stevedorelaw08.UnitsBases", spec := "unitsBases", unfollowed := true, recurses := true, apart := false, narrowed := true }
def UnitsBasesUptoSaid : Prop := unitsBasesUptoRow.holds Try.pinned (OpenSpec.upto unitsBasesSpec)

/-- 'stevedorelaw08.UnitsSplits', WHERE WHAT IT READS IS OF BULK AT MOST 1048576: true; the input reads as it did. -/
def unitsSplitsUptoRow : OpenClaim := { program := "ytbclfhjjkekglaa", sum := "a37426475f98eea4820b770dbeffdb773ad6f7404c12da476b74215768a634bd", func := "stevedore/stevedorelaw08.UnitsSplits", spec := "unitsSplits", unfollowed := true, recurses := true, apart := false, narrowed := true }
def UnitsSplitsUptoSaid : Prop := unitsSplitsUptoRow.holds Try.pinned (OpenSpec.upto unitsSplitsSpec)

end Rows
end Go.Proofs.Ytbclfhjjkekglaa
