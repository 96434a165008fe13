/-
  No cell of these rows narrows 'for every input' (looked for: loops, veiled, ifaces, maps, wideKeys, modest, calm, conditions, laid).
  DERIVED. THE GIVEN ROWS OF THIS SEAT. 6 by the template 'for every input the law returns true; each argument reads behind the call as it read before'; 0 by the template 'total and deterministic' (their statements: YtikgpjnfifnilaaTotals.lean).
  GIVEN WITH THE SEED: the statements are not yours to turn. If you find one false, say at which input.
  Laid BY PROGRAM, IN A SANDBOX (cutbox-rows.mjs): the forced cells as the released guide's own fill.sh prints them over the translation 0811b68814fa4014… (all of the seat's roots in one cut). By AI agents, Wed Nov 11 2026. No macro, syntax, notation, axiom, sorry.
-/
import Derived.Test.YtikgpjnfifnilaaChecked
import GoSem.Claim
import GoSem.ClaimJoined
import GoSem.ClaimMapViews
import Derived.JoinedTies
import Derived.KernelRfl
namespace Go.Proofs.Ytikgpjnfifnilaa
/- THE CELL 'sum', in the pinned program and in every row, IS THE sha256 OF THE DUMP (.gsa) THAT YtikgpjnfifnilaaProg.lean LOADS. Nothing in Lean hashes anything: it is a label: what it is worth is what the hold of that sum in a sandbox is worth. -/
noncomputable def Try.pinned : Pinned := { name := "ytikgpjnfifnilaa", sum := "0811b68814fa40147b6f1149ce989906968f47dc1f0f91f84ce6d378ece135af", checked := Try.checked }
namespace Rows
def none {H : Type} : Left H := { results := [], args := [] }

/-- 'stevedorelaw02.TableDoes': WHATEVER THE INPUT: true; the input reads as it did. -/
def tableDoesSpec : ChangeSpec := { name := "tableDoes", fn := fun _ => fun
  | [d1, d2] => { results := [.lit (.bool true)], args := [d1, d2] }
  | _ => none }
def tableDoesRow : OpenClaim := { program := "ytikgpjnfifnilaa", sum := "0811b68814fa40147b6f1149ce989906968f47dc1f0f91f84ce6d378ece135af", func := "stevedore/stevedorelaw02.TableDoes", spec := "tableDoes", inPlace := ["slices.overlaps[stevedore/api.Pair]"], unfollowed := true, recurses := true, apart := false }
def TableDoesSaid : Prop := tableDoesRow.holds Try.pinned (OpenSpec.ofChange tableDoesSpec)

/-- ITS FALSE NEIGHBOUR: 'it returns false'. Refute it at one input. -/
def tableDoesWrong : ChangeSpec := { name := "tableDoes", fn := fun _ => fun
  | [d1, d2] => { results := [.lit (.bool false)], args := [d1, d2] }
  | _ => none }
def TableDoesWrongFalsely : Prop := tableDoesRow.holds Try.pinned (OpenSpec.ofChange tableDoesWrong)

/-- 'stevedorelaw02.TableRises': WHATEVER THE INPUT: true; the input reads as it did. -/
def tableRisesSpec : ChangeSpec := { name := "tableRises", fn := fun _ => fun
  | [d] => { results := [.lit (.bool true)], args := [d] }
  | _ => none }
def tableRisesRow : OpenClaim := { program := "ytikgpjnfifnilaa", sum := "0811b68814fa40147b6f1149ce989906968f47dc1f0f91f84ce6d378ece135af", func := "stevedore/stevedorelaw02.TableRises", spec := "tableRises", inPlace := ["slices.overlaps[stevedore/api.Pair]"], unfollowed := true, recurses := true, apart := false }
def TableRisesSaid : Prop := tableRisesRow.holds Try.pinned (OpenSpec.ofChange tableRisesSpec)

/-- ITS FALSE NEIGHBOUR: 'it returns false'. Refute it at one input. -/
def tableRisesWrong : ChangeSpec := { name := "tableRises", fn := fun _ => fun
  | [d] => { results := [.lit (.bool false)], args := [d] }
  | _ => none }
def TableRisesWrongFalsely : Prop := tableRisesRow.holds Try.pinned (OpenSpec.ofChange tableRisesWrong)

/-- 'stevedorelaw02.TableSorts': WHATEVER THE INPUT: true; the input reads as it did. -/
def tableSortsSpec : ChangeSpec := { name := "tableSorts", fn := fun _ => fun
  | [d1, d2] => { results := [.lit (.bool true)], args := [d1, d2] }
  | _ => none }
def tableSortsRow : OpenClaim := { program := "ytikgpjnfifnilaa", sum := "0811b68814fa40147b6f1149ce989906968f47dc1f0f91f84ce6d378ece135af", func := "stevedore/stevedorelaw02.TableSorts", spec := "tableSorts", inPlace := ["slices.overlaps[stevedore/api.Pair]"], unfollowed := true, recurses := true, apart := false }
def TableSortsSaid : Prop := tableSortsRow.holds Try.pinned (OpenSpec.ofChange tableSortsSpec)

/-- ITS FALSE NEIGHBOUR: 'it returns false'. Refute it at one input. -/
def tableSortsWrong : ChangeSpec := { name := "tableSorts", fn := fun _ => fun
  | [d1, d2] => { results := [.lit (.bool false)], args := [d1, d2] }
  | _ => none }
def TableSortsWrongFalsely : Prop := tableSortsRow.holds Try.pinned (OpenSpec.ofChange tableSortsWrong)

/-- 'stevedorelaw02.TableFinds': WHATEVER THE INPUT: true; the input reads as it did. -/
def tableFindsSpec : ChangeSpec := { name := "tableFinds", fn := fun _ => fun
  | [d1, d2] => { results := [.lit (.bool true)], args := [d1, d2] }
  | _ => none }
def tableFindsRow : OpenClaim := { program := "ytikgpjnfifnilaa", sum := "0811b68814fa40147b6f1149ce989906968f47dc1f0f91f84ce6d378ece135af", func := "stevedore/stevedorelaw02.TableFinds", spec := "tableFinds", inPlace := ["slices.overlaps[stevedore/api.Pair]"], unfollowed := true, recurses := true, apart := false }
def TableFindsSaid : Prop := tableFindsRow.holds Try.pinned (OpenSpec.ofChange tableFindsSpec)

/-- ITS FALSE NEIGHBOUR: 'it returns false'. Refute it at one input. -/
def tableFindsWrong : ChangeSpec := { name := "tableFinds", fn := fun _ => fun
  | [d1, d2] => { results := [.lit (.bool false)], args := [d1, d2] }
  | _ => none }
def TableFindsWrongFalsely : Prop := tableFindsRow.holds Try.pinned (OpenSpec.ofChange tableFindsWrong)

/-- 'stevedorelaw02.TablePuts': WHATEVER THE INPUT: true; the input reads as it did. -/
def tablePutsSpec : ChangeSpec := { name := "tablePuts", fn := fun _ => fun
  | [d1, d2] => { results := [.lit (.bool true)], args := [d1, d2] }
  | _ => none }
def tablePutsRow : OpenClaim := { program := "ytikgpjnfifnilaa", sum := "0811b68814fa40147b6f1149ce989906968f47dc1f0f91f84ce6d378ece135af", func := "stevedore/stevedorelaw02.TablePuts", spec := "tablePuts", inPlace := ["slices.overlaps[stevedore/api.Pair]"], unfollowed := true, recurses := true, apart := false }
def TablePutsSaid : Prop := tablePutsRow.holds Try.pinned (OpenSpec.ofChange tablePutsSpec)

/-- ITS FALSE NEIGHBOUR: 'it returns false'. Refute it at one input. -/
def tablePutsWrong : ChangeSpec := { name := "tablePuts", fn := fun _ => fun
  | [d1, d2] => { results := [.lit (.bool false)], args := [d1, d2] }
  | _ => none }
def TablePutsWrongFalsely : Prop := tablePutsRow.holds Try.pinned (OpenSpec.ofChange tablePutsWrong)

/-- 'stevedorelaw02.TableDrops': WHATEVER THE INPUT: true; the input reads as it did. -/
def tableDropsSpec : ChangeSpec := { name := "tableDrops", fn := fun _ => fun
  | [d1, d2] => { results := [.lit (.bool true)], args := [d1, d2] }
  | _ => none }
def tableDropsRow : OpenClaim := { program := "ytikgpjnfifnilaa", sum := "0811b68814fa40147b6f1149ce989906968f47dc1f0f91f84ce6d378ece135af", func := "stevedore/stevedorelaw02.TableDrops", spec := "tableDrops", inPlace := ["slices.overlaps[stevedore/api.Pair]"], unfollowed := true, recurses := true, apart := false }
def TableDropsSaid : Prop := tableDropsRow.holds Try.pinned (OpenSpec.ofChange tableDropsSpec)

/-- ITS FALSE NEIGHBOUR: 'it returns false'. Refute it at one input. -/
def tableDropsWrong : ChangeSpec := { name := "tableDrops", fn := fun _ => fun
  | [d1, d2] => { results := [.lit (.bool false)], args := [d1, d2] }
  | _ => none }
def TableDropsWrongFalsely : Prop := tableDropsRow.holds Try.pinned (OpenSpec.ofChange tableDropsWrong)

/- THE SECOND FORM. 'bulk': how many values and letters a reading holds, each counted each time it is reached (what is shared counts as often as it is met; a slice's spare places count too). A statement '..UptoSaid' is the law's where the arguments, and the package variables that the reading takes, are together of bulk at most 1048576: NARROWER than '..Said'. Prove '..Said' where nothing that the law and all that it calls make is longer than what came in: it says more and counts as full. Else prove '..UptoSaid'. A law counts once. -/
mutual
def uptoBulk {H : Type} : DataW H → Nat
  | .lit (.string bytes) => bytes.length + 1
  | .lit _ => 1
  | .nil => 1
  | .ptr d => uptoBulk d + 1
  | .slice elems spare => uptoBulkAll elems + uptoBulkAll spare + 1
  | .agg parts => uptoBulkAll parts + 1
  | .iface _ d => uptoBulk d + 1
  | .map entries => uptoBulkEntries entries + 1
  | .held _ => 1
def uptoBulkAll {H : Type} : List (DataW H) → Nat
  | [] => 0
  | d :: r => uptoBulk d + uptoBulkAll r
def uptoBulkEntries {H : Type} : List (Lit × DataW H) → Nat
  | [] => 0
  | x :: r => uptoBulkEntry x + uptoBulkEntries r
def uptoBulkEntry {H : Type} : Lit × DataW H → Nat
  | (.string bytes, d) => bytes.length + uptoBulk d + 1
  | (_, d) => uptoBulk d + 1
 end
def uptoSmall : (H : Type) → List (DataW H) → Bool := fun _ ds => decide (uptoBulkAll ds ≤ 1048576)
def OpenSpec.upto (s : _root_.Go.ChangeSpec) : _root_.Go.OpenSpec := { _root_.Go.OpenSpec.ofChange s with cond := some uptoSmall }

/-- 'stevedorelaw02.TableDoes', WHERE WHAT IT READS IS OF BULK AT MOST 1048576: true; the input reads as it did. -/
def tableDoesUptoRow : OpenClaim := { program := "ytikgpjnfifnilaa", sum := "0811b68814fa40147b6f1149ce989906968f47dc1f0f91f84ce6d378ece135af", func := "stevedore/stevedorelaw02.TableDoes", spec := "tableDoes", inPlace := ["slices.overlaps[stevedore/api.Pair]"], unfollowed := true, recurses := true, apart := false, narrowed := true }
def TableDoesUptoSaid : Prop := tableDoesUptoRow.holds Try.pinned (OpenSpec.upto tableDoesSpec)

/-- 'stevedorelaw02.TableRises', WHERE WHAT IT READS IS OF BULK AT MOST 1048576: true; the input reads as it did. -/
def tableRisesUptoRow : OpenClaim := { program := "ytikgpjnfifnilaa", sum := "0811b68814fa40147b6f1149ce989906968f47dc1f0f91f84ce6d378ece135af", func := "stevedore/stevedorelaw02.TableRises", spec := "tableRises", inPlace := ["slices.overlaps[stevedore/api.Pair]"], unfollowed := true, recurses := true, apart := false, narrowed := true }
def TableRisesUptoSaid : Prop := tableRisesUptoRow.holds Try.pinned (OpenSpec.upto tableRisesSpec)

/-- 'stevedorelaw02.TableSorts', WHERE WHAT IT READS IS OF BULK AT MOST 1048576: true; the input reads as it did. -/
def tableSortsUptoRow : OpenClaim := { program := "ytikgpjnfifnilaa", sum := "0811b68814fa40147b6f1149ce989906968f47dc1f0f91f84ce6d378ece135af", func := "stevedore/stevedorelaw02.TableSorts", spec := "tableSorts", inPlace := ["slices.overlaps[stevedore/api.Pair]"], unfollowed := true, recurses := true, apart := false, narrowed := true }
def TableSortsUptoSaid : Prop := tableSortsUptoRow.holds Try.pinned (OpenSpec.upto tableSortsSpec)

/-- 'stevedorelaw02.TableFinds', WHERE WHAT IT READS IS OF BULK AT MOST 1048576: true; the input reads as it did. -/
def tableFindsUptoRow : OpenClaim := { program := "ytikgpjnfifnilaa", sum := "0811b68814fa40147b6f1149ce989906968f47dc1f0f91f84ce6d378ece135af", func := "stevedore/stevedorelaw02.TableFinds", spec := "tableFinds", inPlace := ["slices.overlaps[stevedore/api.Pair]"], unfollowed := true, recurses := true, apart := false, narrowed := true }
def TableFindsUptoSaid : Prop := tableFindsUptoRow.holds Try.pinned (OpenSpec.upto tableFindsSpec)

/-- 'stevedorelaw02.TablePuts', WHERE WHAT IT READS IS OF BULK AT MOST 1048576: true; the input reads as it did. -/
def tablePutsUptoRow : OpenClaim := { program := "ytikgpjnfifnilaa", sum := "0811b68814fa40147b6f1149ce989906968f47dc1f0f91f84ce6d378ece135af", func := "stevedore/stevedorelaw02.TablePuts", spec := "tablePuts", inPlace := ["slices.overlaps[stevedore/api.Pair]"], unfollowed := true, recurses := true, apart := false, narrowed := true }
def TablePutsUptoSaid : Prop := tablePutsUptoRow.holds Try.pinned (OpenSpec.upto tablePutsSpec)

/-- 'stevedorelaw02.TableDrops', WHERE WHAT IT READS IS OF BULK AT MOST 1048576: true; the input reads as it did. -/
def tableDropsUptoRow : OpenClaim := { program := "ytikgpjnfifnilaa", sum := "0811b68814fa40147b6f1149ce989906968f47dc1f0f91f84ce6d378ece135af", func := "stevedore/stevedorelaw02.TableDrops", spec := "tableDrops", inPlace := ["slices.overlaps[stevedore/api.Pair]"], unfollowed := true, recurses := true, apart := false, narrowed := true }
def TableDropsUptoSaid : Prop := tableDropsUptoRow.holds Try.pinned (OpenSpec.upto tableDropsSpec)

end Rows
end Go.Proofs.Ytikgpjnfifnilaa
