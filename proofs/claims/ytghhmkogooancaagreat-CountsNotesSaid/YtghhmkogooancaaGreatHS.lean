/-
  Houses of the same things stay so, whatever is done to them.
-/
import Derived.Test.YtghhmkogooancaaGreatHW
import Derived.Test.YtghhmkogooancaaGreatHR
import Derived.Test.YtghhmkogooancaaGreatHX
import Derived.Test.YtghhmkogooancaaGreatHL
import Derived.Test.YtghhmkogooancaaGreatHN
set_option linter.unusedVariables false
set_option linter.unusedSimpArgs false
set_option maxRecDepth 10000
namespace Go.Fw
open Go.Proofs

section
variable {a b : House}
theorem SameH.withItem (s : SameH a b) (x : Item) : SameH (a.withItem x) (b.withItem x) := ⟨congrArg (putL itemCmp x) s.items, s.lots, s.zones, s.bins, s.quants, s.rules, s.notices, s.orders, s.claims, s.tasks, s.parcels, s.sent, s.counted, s.totals, s.last⟩
theorem SameH.withLot (s : SameH a b) (x : Lot) : SameH (a.withLot x) (b.withLot x) := ⟨s.items, congrArg (putL lotCmp x) s.lots, s.zones, s.bins, s.quants, s.rules, s.notices, s.orders, s.claims, s.tasks, s.parcels, s.sent, s.counted, s.totals, s.last⟩
theorem SameH.withZone (s : SameH a b) (x : Zone) : SameH (a.withZone x) (b.withZone x) := ⟨s.items, s.lots, congrArg (putL zoneCmp x) s.zones, s.bins, s.quants, s.rules, s.notices, s.orders, s.claims, s.tasks, s.parcels, s.sent, s.counted, s.totals, s.last⟩
theorem SameH.withBin (s : SameH a b) (x : Bin) : SameH (a.withBin x) (b.withBin x) := ⟨s.items, s.lots, s.zones, congrArg (putL binCmp x) s.bins, s.quants, s.rules, s.notices, s.orders, s.claims, s.tasks, s.parcels, s.sent, s.counted, s.totals, s.last⟩
theorem SameH.item? (s : SameH a b) (c : Str) : a.item? c = b.item? c := by unfold House.item?; rw [s.items]
theorem SameH.lot? (s : SameH a b) (i c : Str) : a.lot? i c = b.lot? i c := by unfold House.lot?; rw [s.lots]
theorem SameH.zone? (s : SameH a b) (c : Str) : a.zone? c = b.zone? c := by unfold House.zone?; rw [s.zones]
theorem SameH.bin? (s : SameH a b) (c : Str) : a.bin? c = b.bin? c := by unfold House.bin?; rw [s.bins]
theorem House.Ok.withItem {h : House} (hx : h.Ok) (x : Item) : (h.withItem x).Ok := ⟨hx.rules, hx.notices, hx.orders, hx.claims, hx.tasks, hx.parcels, hx.sent⟩
theorem House.Ok.withLot {h : House} (hx : h.Ok) (x : Lot) : (h.withLot x).Ok := ⟨hx.rules, hx.notices, hx.orders, hx.claims, hx.tasks, hx.parcels, hx.sent⟩
theorem House.Ok.withZone {h : House} (hx : h.Ok) (x : Zone) : (h.withZone x).Ok := ⟨hx.rules, hx.notices, hx.orders, hx.claims, hx.tasks, hx.parcels, hx.sent⟩
theorem House.Ok.withBin {h : House} (hx : h.Ok) (x : Bin) : (h.withBin x).Ok := ⟨hx.rules, hx.notices, hx.orders, hx.claims, hx.tasks, hx.parcels, hx.sent⟩
theorem House.zero_ok : House.zero.Ok := by constructor <;> (intro r hr; simp [House.zero, Ls.nil] at hr)

/-! ### Layout -/
theorem freeze_same (s : SameH a b) (c : Str) (on : Bool) : (a.freeze c on).2 = (b.freeze c on).2 ∧ SameH (a.freeze c on).1 (b.freeze c on).1 := by
  unfold House.freeze
  rw [s.bin?]
  split
  · exact ⟨rfl, SameH.refl _⟩
  split
  · exact ⟨rfl, SameH.refl _⟩
  split
  · exact ⟨rfl, SameH.refl _⟩
  exact ⟨rfl, s.withBin _⟩
theorem freeze_ok {h : House} (hx : h.Ok) (c : Str) (on : Bool) : (h.freeze c on).1.Ok := by
  unfold House.freeze
  split
  · exact House.zero_ok
  split
  · exact House.zero_ok
  split
  · exact House.zero_ok
  exact hx.withBin _


/-! ### Lots, room -/
theorem fits_same (s : SameH a b) (i c : Str) (n : Int) : a.fits i c n = b.fits i c n := by
  unfold House.fits
  rw [s.item?, s.lot?, s.quants]
theorem ldStep_same (s : SameH a b) (c : Str) : ldStep a c = ldStep b c := by
  funext m q
  unfold ldStep
  rw [s.item?]
theorem load_same (s : SameH a b) (c : Str) : a.load c = b.load c := by
  unfold House.load
  rw [ldStep_same s, s.quants]
end

/-- The program's answer and the document's, held against one another. -/
theorem two {F G : FuncId} {ps qs : List PV} {p q : House × Int} (c1 : Ret Tryz.prog F ps (houseOut p)) (c2 : Ret Tryz.prog G qs (houseOut q)) (hs : p.2 = q.2 ∧ SameH p.1 q.1) (ho : p.1.Ok) :
    ∃ (g k : House) (e : Int), Ret Tryz.prog F ps (.tup [.agg g.enc, .v (.int .i64 e)]) ∧ Ret Tryz.prog G qs (.tup [.agg k.enc, .v (.int .i64 e)]) ∧ Ret Tryz.prog 14 [.agg g.enc, .agg k.enc] (.v (.bool true)) :=
  ⟨p.1, q.1, p.2, c1, by rw [hs.1]; exact c2, same_ok _ _ ho hs.2⟩
theorem out_of {F : FuncId} {ps : List PV} {p : House × Int} {e : Int} (c : Ret Tryz.prog F ps (houseOut p)) (he : p.2 = e) : ∃ g : House, Ret Tryz.prog F ps (.tup [.agg g.enc, .v (.int .i64 e)]) := ⟨p.1, by rw [← he]; exact c⟩
theorem out_is {F : FuncId} {ps : List PV} {p : House × Int} {g : House} {e : Int} (c : Ret Tryz.prog F ps (houseOut p)) (he : p = (g, e)) : Ret Tryz.prog F ps (.tup [.agg g.enc, .v (.int .i64 e)]) := by rw [he] at c; exact c
end Go.Fw

