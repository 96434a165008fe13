/-
  Any item, lot, zone, bin from an argument.
-/
import Derived.Test.YtapcollbogmpdaaHG
set_option linter.unusedVariables false
set_option linter.unusedSimpArgs false
set_option maxRecDepth 10000
namespace Go.Fw
open Go.Proofs

theorem flatItem : flatT Try.prog 8 46 = some (ksItem.map .k) := by kernel_rfl
theorem flatZone : flatT Try.prog 8 84 = some (ksZone.map .k) := by kernel_rfl
theorem flatBin : flatT Try.prog 8 82 = some (ksBin.map .k) := by kernel_rfl
theorem flatItems : flatT Try.prog 8 22 = some [.sl ksItem] := by kernel_rfl
theorem flatZones : flatT Try.prog 8 24 = some [.sl ksZone] := by kernel_rfl
theorem flatBins : flatT Try.prog 8 25 = some [.sl ksBin] := by kernel_rfl
theorem item_of' {qs : List PV} (h : PCellsOk (ksItem.map .k) qs) : ∃ x : Item, qs = x.enc := by
  obtain ⟨_, _, rfl, ⟨a1, rfl⟩, k1⟩ := h.inv
  obtain ⟨_, _, rfl, ⟨a2, rfl⟩, k2⟩ := k1.inv
  obtain ⟨_, _, rfl, ⟨a3, rfl, -⟩, k3⟩ := k2.inv
  obtain ⟨_, _, rfl, ⟨a4, rfl⟩, k4⟩ := k3.inv
  obtain ⟨_, _, rfl, ⟨a5, rfl, -⟩, k5⟩ := k4.inv
  obtain ⟨_, _, rfl, ⟨a6, rfl⟩, k6⟩ := k5.inv
  obtain ⟨_, _, rfl, ⟨a7, rfl, -⟩, k7⟩ := k6.inv
  obtain ⟨_, _, rfl, ⟨a8, rfl⟩, k8⟩ := k7.inv
  obtain ⟨_, _, rfl, ⟨a9, rfl, -⟩, k9⟩ := k8.inv
  obtain ⟨_, _, rfl, ⟨a10, rfl, -⟩, k10⟩ := k9.inv
  obtain ⟨_, _, rfl, ⟨a11, rfl, -⟩, k11⟩ := k10.inv
  obtain ⟨_, _, rfl, ⟨a12, rfl⟩, k12⟩ := k11.inv
  obtain ⟨_, _, rfl, ⟨a13, rfl⟩, k13⟩ := k12.inv
  obtain ⟨_, _, rfl, ⟨a14, rfl⟩, k14⟩ := k13.inv
  cases k14
  exact ⟨⟨a1, a2, a3, a4, a5, a6, a7, a8, a9, a10, a11, a12, a13, a14⟩, rfl⟩
theorem zone_of' {qs : List PV} (h : PCellsOk (ksZone.map .k) qs) : ∃ x : Zone, qs = x.enc := by
  obtain ⟨_, _, rfl, ⟨a1, rfl⟩, k1⟩ := h.inv
  obtain ⟨_, _, rfl, ⟨a2, rfl⟩, k2⟩ := k1.inv
  cases k2
  exact ⟨⟨a1, a2⟩, rfl⟩
theorem bin_of' {qs : List PV} (h : PCellsOk (ksBin.map .k) qs) : ∃ x : Bin, qs = x.enc := by
  obtain ⟨_, _, rfl, ⟨a1, rfl⟩, k1⟩ := h.inv
  obtain ⟨_, _, rfl, ⟨a2, rfl⟩, k2⟩ := k1.inv
  obtain ⟨_, _, rfl, ⟨a3, rfl, -⟩, k3⟩ := k2.inv
  obtain ⟨_, _, rfl, ⟨a4, rfl, -⟩, k4⟩ := k3.inv
  obtain ⟨_, _, rfl, ⟨a5, rfl, -⟩, k5⟩ := k4.inv
  obtain ⟨_, _, rfl, ⟨a6, rfl, -⟩, k6⟩ := k5.inv
  obtain ⟨_, _, rfl, ⟨a7, rfl, -⟩, k7⟩ := k6.inv
  obtain ⟨_, _, rfl, ⟨a8, rfl⟩, k8⟩ := k7.inv
  cases k8
  exact ⟨⟨a1, a2, a3, a4, a5, a6, a7, a8⟩, rfl⟩
end Go.Fw
