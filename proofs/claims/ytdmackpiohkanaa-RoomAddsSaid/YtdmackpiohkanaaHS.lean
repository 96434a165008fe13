/-
  Houses of the same things stay so, whatever is done to them.
-/
import Derived.Test.YtdmackpiohkanaaHW
import Derived.Test.YtdmackpiohkanaaHR
import Derived.Test.YtdmackpiohkanaaHX
import Derived.Test.YtdmackpiohkanaaHN
set_option linter.unusedVariables false
set_option linter.unusedSimpArgs false
set_option maxRecDepth 10000
namespace Go.Fw
open Go.Proofs

section
variable {a b : House}
theorem SameH.withItem (s : SameH a b) (x : Item) : SameH (a.withItem x) (b.withItem x) := ⟨congrArg (putL itemCmp x) s.items, s.lots, s.zones, s.bins, s.quants, s.rules, s.notices, s.orders, s.claims, s.tasks, s.parcels, s.sent, s.counted, s.totals, s.last⟩
theorem SameH.withLot (s : SameH a b) (x : Lot) : SameH (a.withLot x) (b.withLot x) := ⟨s.items, congrArg (putL lotCmp x) s.lots, s.zones, s.bins, s.quants, s.rules, s.notices, s.orders, s.claims, s.tasks, s.parcels, s.sent, s.counted, s.totals, s.last⟩
theorem SameH.withZone (s : SameH a b) (x : Zone) : SameH (a.withZone x) (b.withZone x) := ⟨s.items, s.lots, congrArg (putL zoneCmp x) s.zones, s.bins, s.quants, s.rules, s.notices, s.orders, s.claims, s.tasks, s.parcels, s.sent, s.counted, s.totals, s.last⟩
theorem SameH.withBin (s : SameH a b) (x : Bin) : SameH (a.withBin x) (b.withBin x) := ⟨s.items, s.lots, s.zones, congrArg (putL binCmp x) s.bins, s.quants, s.rules, s.notices, s.orders, s.claims, s.tasks, s.parcels, s.sent, s.counted, s.totals, s.last⟩
theorem SameH.item? (s : SameH a b) (c : Str) : a.item? c = b.item? c := by unfold House.item?; rw [s.items]
theorem SameH.lot? (s : SameH a b) (i c : Str) : a.lot? i c = b.lot? i c := by unfold House.lot?; rw [s.lots]
theorem SameH.zone? (s : SameH a b) (c : Str) : a.zone? c = b.zone? c := by unfold House.zone?; rw [s.zones]
theorem SameH.bin? (s : SameH a b) (c : Str) : a.bin? c = b.bin? c := by unfold House.bin?; rw [s.bins]
theorem House.Ok.withItem {h : House} (hx : h.Ok) (x : Item) : (h.withItem x).Ok := ⟨hx.rules, hx.notices, hx.orders, hx.claims, hx.tasks, hx.parcels, hx.sent, hx.counted, hx.totals⟩
theorem House.Ok.withLot {h : House} (hx : h.Ok) (x : Lot) : (h.withLot x).Ok := ⟨hx.rules, hx.notices, hx.orders, hx.claims, hx.tasks, hx.parcels, hx.sent, hx.counted, hx.totals⟩
theorem House.Ok.withZone {h : House} (hx : h.Ok) (x : Zone) : (h.withZone x).Ok := ⟨hx.rules, hx.notices, hx.orders, hx.claims, hx.tasks, hx.parcels, hx.sent, hx.counted, hx.totals⟩
theorem House.Ok.withBin {h : House} (hx : h.Ok) (x : Bin) : (h.withBin x).Ok := ⟨hx.rules, hx.notices, hx.orders, hx.claims, hx.tasks, hx.parcels, hx.sent, hx.counted, hx.totals⟩
theorem House.zero_ok : House.zero.Ok := by constructor <;> (intro r hr; simp [House.zero, Ls.nil] at hr)

/-! ### Layout -/
theorem addZone_same (s : SameH a b) (x : Zone) : (a.addZone x).2 = (b.addZone x).2 ∧ SameH (a.addZone x).1 (b.addZone x).1 := by
  have hz := s.zone? x.code
  have hl : a.zones.xs.length = b.zones.xs.length := by rw [s.zones]
  unfold House.addZone
  rw [hz, hl]
  split
  · exact ⟨rfl, SameH.refl _⟩
  split
  · exact ⟨rfl, SameH.refl _⟩
  split
  · exact ⟨rfl, SameH.refl _⟩
  split
  · exact ⟨rfl, SameH.refl _⟩
  exact ⟨rfl, s.withZone x⟩
theorem addZone_ok {h : House} (hx : h.Ok) (x : Zone) : (h.addZone x).1.Ok := by
  unfold House.addZone
  split
  · exact House.zero_ok
  split
  · exact House.zero_ok
  split
  · exact House.zero_ok
  split
  · exact House.zero_ok
  exact hx.withZone x
theorem refuses_same (s : SameH a b) (x : Bin) : a.refuses x = b.refuses x := by
  have hl : a.bins.xs.length = b.bins.xs.length := by rw [s.bins]
  unfold House.refuses
  rw [s.zone?, s.bin?, hl]
theorem addBin_same (s : SameH a b) (x : Bin) : (a.addBin x).2 = (b.addBin x).2 ∧ SameH (a.addBin x).1 (b.addBin x).1 := by
  unfold House.addBin
  rw [refuses_same s]
  split
  · exact ⟨rfl, s.withBin x⟩
  · exact ⟨rfl, SameH.refl _⟩
theorem addBin_ok {h : House} (hx : h.Ok) (x : Bin) : (h.addBin x).1.Ok := by
  unfold House.addBin
  split
  · exact hx.withBin x
  · exact House.zero_ok
theorem siteOf_same (s : SameH a b) (c : Str) : a.siteOf c = b.siteOf c := by
  unfold House.siteOf
  rw [s.bin?]
  split
  · rfl
  · rw [s.zone?]
theorem freeze_same (s : SameH a b) (c : Str) (on : Bool) : (a.freeze c on).2 = (b.freeze c on).2 ∧ SameH (a.freeze c on).1 (b.freeze c on).1 := by
  unfold House.freeze
  rw [s.bin?]
  split
  · exact ⟨rfl, SameH.refl _⟩
  split
  · exact ⟨rfl, SameH.refl _⟩
  split
  · exact ⟨rfl, SameH.refl _⟩
  exact ⟨rfl, s.withBin _⟩
theorem freeze_ok {h : House} (hx : h.Ok) (c : Str) (on : Bool) : (h.freeze c on).1.Ok := by
  unfold House.freeze
  split
  · exact House.zero_ok
  split
  · exact House.zero_ok
  split
  · exact House.zero_ok
  exact hx.withBin _

/-! ### Lots -/
theorem addLot_same (s : SameH a b) (x : Lot) : (a.addLot x).2 = (b.addLot x).2 ∧ SameH (a.addLot x).1 (b.addLot x).1 := by
  have hl : a.lots.xs.length = b.lots.xs.length := by rw [s.lots]
  unfold House.addLot
  rw [s.item?, s.lot?, hl]
  split
  · exact ⟨rfl, SameH.refl _⟩
  split
  · exact ⟨rfl, SameH.refl _⟩
  split
  · exact ⟨rfl, SameH.refl _⟩
  split
  · exact ⟨rfl, SameH.refl _⟩
  split
  · exact ⟨rfl, SameH.refl _⟩
  split
  · exact ⟨rfl, SameH.refl _⟩
  exact ⟨rfl, s.withLot x⟩
theorem addLot_ok {h : House} (hx : h.Ok) (x : Lot) : (h.addLot x).1.Ok := by
  unfold House.addLot
  split
  · exact House.zero_ok
  split
  · exact House.zero_ok
  split
  · exact House.zero_ok
  split
  · exact House.zero_ok
  split
  · exact House.zero_ok
  split
  · exact House.zero_ok
  exact hx.withLot x
theorem fits_same (s : SameH a b) (i c : Str) (n : Int) : a.fits i c n = b.fits i c n := by
  unfold House.fits
  rw [s.item?, s.lot?, s.quants]
theorem day_same (s : SameH a b) (i c : Str) : a.day i c = b.day i c := by
  unfold House.day
  rw [s.lot?]

/-! ### Room -/
theorem ldStep_same (s : SameH a b) (c : Str) : ldStep a c = ldStep b c := by
  funext m q
  unfold ldStep
  rw [s.item?]
theorem load_same (s : SameH a b) (c : Str) : a.load c = b.load c := by
  unfold House.load
  rw [ldStep_same s, s.quants]
theorem room_same (s : SameH a b) (c i : Str) (n : Int) : a.room c i n = b.room c i n := by
  unfold House.room
  rw [s.bin?, s.item?, load_same s]
theorem full_same (s : SameH a b) : a.full = b.full := by
  funext x
  unfold House.full
  rw [load_same s]
theorem over_same (s : SameH a b) : a.over = b.over := by
  unfold House.over
  rw [full_same s, s.bins]
theorem stands_same (s : SameH a b) (c i : Str) : a.stands c i = b.stands c i := by
  unfold House.stands
  rw [s.quants]
theorem resize_same (s : SameH a b) (i : Str) (v w : Int) : (a.resize i v w).2 = (b.resize i v w).2 ∧ SameH (a.resize i v w).1 (b.resize i v w).1 := by
  unfold House.resize
  rw [s.item?]
  split
  · exact ⟨rfl, SameH.refl _⟩
  rename_i x _
  have s2 := s.withItem { x with volume := v, weight := w }
  rw [full_same s2, s2.bins]
  simp only [stands_same s2]
  split
  · exact ⟨rfl, SameH.refl _⟩
  split
  · exact ⟨rfl, SameH.refl _⟩
  exact ⟨rfl, s2⟩
theorem resize_ok {h : House} (hx : h.Ok) (i : Str) (v w : Int) : (h.resize i v w).1.Ok := by
  unfold House.resize
  split
  · exact House.zero_ok
  split
  · exact House.zero_ok
  split
  · exact House.zero_ok
  exact hx.withItem _
theorem limit_same (s : SameH a b) (c : Str) (v w : Int) : (a.limit c v w).2 = (b.limit c v w).2 ∧ SameH (a.limit c v w).1 (b.limit c v w).1 := by
  unfold House.limit
  rw [s.bin?, load_same s]
  split
  · exact ⟨rfl, SameH.refl _⟩
  split
  · exact ⟨rfl, SameH.refl _⟩
  split
  · exact ⟨rfl, SameH.refl _⟩
  exact ⟨rfl, s.withBin _⟩
theorem limit_ok {h : House} (hx : h.Ok) (c : Str) (v w : Int) : (h.limit c v w).1.Ok := by
  unfold House.limit
  split
  · exact House.zero_ok
  split
  · exact House.zero_ok
  split
  · exact House.zero_ok
  exact hx.withBin _
end

/-- The program's answer and the document's, held against one another. -/
theorem two {F G : FuncId} {ps qs : List PV} {p q : House × Int} (c1 : Ret Try.prog F ps (houseOut p)) (c2 : Ret Try.prog G qs (houseOut q)) (hs : p.2 = q.2 ∧ SameH p.1 q.1) (ho : p.1.Ok) :
    ∃ (g k : House) (e : Int), Ret Try.prog F ps (.tup [.agg g.enc, .v (.int .i64 e)]) ∧ Ret Try.prog G qs (.tup [.agg k.enc, .v (.int .i64 e)]) ∧ Ret Try.prog 40 [.agg g.enc, .agg k.enc] (.v (.bool true)) :=
  ⟨p.1, q.1, p.2, c1, by rw [hs.1]; exact c2, same_ok _ _ ho hs.2⟩
theorem out_of {F : FuncId} {ps : List PV} {p : House × Int} {e : Int} (c : Ret Try.prog F ps (houseOut p)) (he : p.2 = e) : ∃ g : House, Ret Try.prog F ps (.tup [.agg g.enc, .v (.int .i64 e)]) := ⟨p.1, by rw [← he]; exact c⟩
theorem out_is {F : FuncId} {ps : List PV} {p : House × Int} {g : House} {e : Int} (c : Ret Try.prog F ps (houseOut p)) (he : p = (g, e)) : Ret Try.prog F ps (.tup [.agg g.enc, .v (.int .i64 e)]) := by rw [he] at c; exact c
end Go.Fw
