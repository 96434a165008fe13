/-
  Counts: houses of the same things.
-/
import Derived.Test.YtghhmkogooancaaGreatHCq
import Derived.Test.YtghhmkogooancaaGreatHS
set_option linter.unusedVariables false
set_option linter.unusedSimpArgs false
set_option maxRecDepth 10000
namespace Go.Fw
open Go.Proofs

theorem setAll_go {g : House} {x : Counted} {cs : List Counted} (h : g.setE x = 0) : g.setAll (x :: cs) = (g.counts x).setAll cs := by
  show (if g.setE x = 0 then (g.counts x).setAll cs else (House.zero, g.setE x)) = _
  rw [if_pos h]
theorem setAll_stop {g : House} {x : Counted} {cs : List Counted} {e : Int} (h : g.setE x = e) (he : e ≠ 0) : g.setAll (x :: cs) = (House.zero, e) := by
  show (if g.setE x = 0 then (g.counts x).setAll cs else (House.zero, g.setE x)) = _
  rw [h, if_neg he]
section
variable {a b : House}
theorem SameH.without (s : SameH a b) (c : Str) : SameH (a.without c) (b.without c) := ⟨s.items, s.lots, s.zones, s.bins, s.quants, s.rules, s.notices, s.orders, s.claims, s.tasks, s.parcels, s.sent, congrArg (List.filter (notIn c)) s.counted, s.totals, s.last⟩
theorem SameH.withCounted (s : SameH a b) (x : Counted) : SameH (a.withCounted x) (b.withCounted x) := ⟨s.items, s.lots, s.zones, s.bins, s.quants, s.rules, s.notices, s.orders, s.claims, s.tasks, s.parcels, s.sent, congrArg (putL countedCmp x) s.counted, s.totals, s.last⟩
theorem SameH.withTotal (s : SameH a b) (x : Total) : SameH (a.withTotal x) (b.withTotal x) := ⟨s.items, s.lots, s.zones, s.bins, s.quants, s.rules, s.notices, s.orders, s.claims, s.tasks, s.parcels, s.sent, s.counted, congrArg (putL totalCmp x) s.totals, s.last⟩
theorem SameH.setQuant (s : SameH a b) (x : Quant) : SameH (a.setQuant x) (b.setQuant x) := by
  unfold House.setQuant
  split
  · exact ⟨s.items, s.lots, s.zones, s.bins, congrArg (dropL quantCmp x) s.quants, s.rules, s.notices, s.orders, s.claims, s.tasks, s.parcels, s.sent, s.counted, s.totals, s.last⟩
  · exact ⟨s.items, s.lots, s.zones, s.bins, congrArg (putL quantCmp x) s.quants, s.rules, s.notices, s.orders, s.claims, s.tasks, s.parcels, s.sent, s.counted, s.totals, s.last⟩
theorem House.Ok.without {h : House} (hx : h.Ok) (c : Str) : (h.without c).Ok := ⟨hx.rules, hx.notices, hx.orders, hx.claims, hx.tasks, hx.parcels, hx.sent⟩
theorem House.Ok.withCounted {h : House} (hx : h.Ok) (x : Counted) : (h.withCounted x).Ok := ⟨hx.rules, hx.notices, hx.orders, hx.claims, hx.tasks, hx.parcels, hx.sent⟩
theorem House.Ok.withTotal {h : House} (hx : h.Ok) (x : Total) : (h.withTotal x).Ok := ⟨hx.rules, hx.notices, hx.orders, hx.claims, hx.tasks, hx.parcels, hx.sent⟩
theorem House.Ok.setQuant {h : House} (hx : h.Ok) (x : Quant) : (h.setQuant x).Ok := by
  unfold House.setQuant
  split <;> exact ⟨hx.rules, hx.notices, hx.orders, hx.claims, hx.tasks, hx.parcels, hx.sent⟩
theorem SameH.quant? (s : SameH a b) (k : Key) : a.quant? k = b.quant? k := by unfold House.quant?; rw [s.quants]
theorem SameH.total? (s : SameH a b) (i c : Str) : a.total? i c = b.total? i c := by unfold House.total?; rw [s.totals]
theorem SameH.was (s : SameH a b) (x : Counted) : a.was x = b.was x := by unfold House.was; rw [s.quant?]
theorem SameH.more (s : SameH a b) (x : Counted) : a.more x = b.more x := by unfold House.more; rw [s.was]
theorem SameH.now (s : SameH a b) (x : Counted) : a.now x = b.now x := by unfold House.now; rw [s.was]
theorem SameH.tells (s : SameH a b) (x : Counted) : a.tells x = b.tells x := by unfold House.tells; rw [s.total?, s.more]
theorem SameH.toTotal (s : SameH a b) (x : Counted) : a.toTotal x = b.toTotal x := by unfold House.toTotal House.tot; rw [s.total?, s.more]
theorem SameH.counts (s : SameH a b) (x : Counted) : SameH (a.counts x) (b.counts x) := by
  unfold House.counts
  rw [s.tells, s.now, s.toTotal]
  split
  · exact (s.setQuant _).withTotal _
  · exact s.setQuant _
theorem SameH.setE (s : SameH a b) (x : Counted) : a.setE x = b.setE x := by
  unfold House.setE
  rw [s.was, s.quant?, s.quants]
theorem House.Ok.counts {h : House} (hx : h.Ok) (x : Counted) : (h.counts x).Ok := by
  unfold House.counts
  split
  · exact (hx.setQuant _).withTotal _
  · exact hx.setQuant _
theorem count_same (s : SameH a b) (c : Str) (on : Bool) : (a.count c on).2 = (b.count c on).2 ∧ SameH (a.count c on).1 (b.count c on).1 := by
  obtain ⟨h1, h2⟩ := freeze_same s c on
  unfold House.count
  rw [h1]
  split
  · exact ⟨rfl, h2.without c⟩
  · exact ⟨rfl, SameH.refl _⟩
theorem count_ok {h : House} (hx : h.Ok) (c : Str) (on : Bool) : (h.count c on).1.Ok := by
  unfold House.count
  split
  · exact (freeze_ok hx c on).without c
  · exact House.zero_ok
theorem frozenE_same (s : SameH a b) (c : Str) : a.frozenE c = b.frozenE c := by unfold House.frozenE; rw [s.bin?]
theorem lotE_same (s : SameH a b) (i c : Str) : a.lotE i c = b.lotE i c := by unfold House.lotE; rw [s.item?, s.lot?]
theorem recordE_same (s : SameH a b) (k : Key) (n : Int) : a.recordE k n = b.recordE k n := by
  unfold House.recordE
  rw [frozenE_same s, lotE_same s, s.counted]
theorem record_same (s : SameH a b) (k : Key) (n : Int) : (a.record k n).2 = (b.record k n).2 ∧ SameH (a.record k n).1 (b.record k n).1 := by
  unfold House.record
  rw [recordE_same s]
  split
  · exact ⟨rfl, s.withCounted _⟩
  · exact ⟨rfl, SameH.refl _⟩
theorem record_ok {h : House} (hx : h.Ok) (k : Key) (n : Int) : (h.record k n).1.Ok := by
  unfold House.record
  split
  · exact hx.withCounted _
  · exact House.zero_ok
theorem setAll_same : ∀ {cs : List Counted} {a b : House}, SameH a b → (a.setAll cs).2 = (b.setAll cs).2 ∧ SameH (a.setAll cs).1 (b.setAll cs).1
  | [], a, b, s => ⟨rfl, s⟩
  | x :: cs, a, b, s => by
    have hE := s.setE x
    by_cases h : b.setE x = 0
    · rw [setAll_go h, setAll_go (hE.trans h)]
      exact setAll_same (s.counts x)
    · rw [setAll_stop rfl h, setAll_stop hE h]
      exact ⟨rfl, SameH.refl _⟩
theorem setAll_ok : ∀ {cs : List Counted} {h : House}, h.Ok → (h.setAll cs).1.Ok
  | [], h, hx => hx
  | x :: cs, h, hx => by
    by_cases he : h.setE x = 0
    · rw [setAll_go he]; exact setAll_ok (hx.counts x)
    · rw [setAll_stop rfl he]; exact House.zero_ok
theorem twice_same (s : SameH a b) : a.twice = b.twice := by
  funext x
  unfold House.twice House.sum
  rw [s.item?, s.quants]
theorem closed_same (s : SameH a b) (c : Str) (bn : Bin) (cs : List Counted) : (a.closed c bn cs).2 = (b.closed c bn cs).2 ∧ SameH (a.closed c bn cs).1 (b.closed c bn cs).1 := by
  unfold House.closed
  rw [twice_same s, load_same s]
  split
  · exact ⟨rfl, SameH.refl _⟩
  split
  · exact ⟨rfl, SameH.refl _⟩
  exact count_same s c false
theorem close_same (s : SameH a b) (c r : Str) : (a.close c r).2 = (b.close c r).2 ∧ SameH (a.close c r).1 (b.close c r).1 := by
  obtain ⟨h1, h2⟩ := setAll_same (cs := b.counted.xs.filter (inBin c)) s
  unfold House.close
  rw [frozenE_same s, s.counted, h1, s.bin?]
  split
  · exact ⟨rfl, SameH.refl _⟩
  split
  · exact ⟨rfl, SameH.refl _⟩
  split
  · exact ⟨rfl, SameH.refl _⟩
  exact closed_same h2 c _ _
theorem close_ok {h : House} (hx : h.Ok) (c r : Str) : (h.close c r).1.Ok := by
  unfold House.close
  split
  · exact House.zero_ok
  split
  · exact House.zero_ok
  split
  · exact House.zero_ok
  unfold House.closed
  split
  · exact House.zero_ok
  split
  · exact House.zero_ok
  exact count_ok (setAll_ok hx) c false
end
end Go.Fw
