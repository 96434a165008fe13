/-
  Any house that an argument holds.
-/
import Derived.Test.YtdmackpiohkanaaHF
import Derived.Test.YtdmackpiohkanaaFwY
set_option linter.unusedVariables false
set_option linter.unusedSimpArgs false
set_option maxRecDepth 10000
namespace Go.Fw
open Go.Proofs

def kI : Ck := .i .i64
def ksItem : List Ck := [.s, .s, kI, .s, kI, .s, kI, .s, kI, kI, kI, .b, .b, .b]
def ksLot : List Ck := [.s, .s, kI]
def ksZone : List Ck := [.s, .s]
def ksBin : List Ck := [.s, .s, kI, kI, kI, kI, kI, .b]
def ksQuant : List Ck := [.s, .s, .s, kI, kI, kI]
def ksRule : List Ck := [.s, .s, kI]
def ksLine : List Ck := [.s, kI, kI, kI, kI, kI]
def ksLines : List Ck := ksLine ++ ksLine ++ ksLine ++ ksLine ++ ksLine ++ ksLine ++ ksLine ++ ksLine
def ksNotice : List Ck := [.s, .s] ++ ksLines ++ [.b]
def ksOrder : List Ck := [.s, .s] ++ ksLines
def ksClaim : List Ck := [.s, kI, .s, .s, .s, kI, kI, kI]
def ksTask : List Ck := [kI, kI, .s, kI, .s, .s, .s, kI, .s, kI, .s]
def ksParcel : List Ck := [.s, .s]
def ksSent : List Ck := [.s, .s, .s, kI, kI]
def ksCounted : List Ck := [.s, .s, .s, kI, kI]
def ksTotal : List Ck := [.s, .s, kI, kI, kI, kI]
def houseTs : List CT := [.sl ksItem, .sl ksLot, .sl ksZone, .sl ksBin, .sl ksQuant, .sl ksRule, .sl ksNotice, .sl ksOrder, .sl ksClaim, .sl ksTask, .sl ksParcel, .sl ksSent, .sl ksCounted, .sl ksTotal, .k kI]
theorem flatHouse : flatT Try.prog 8 37 = some houseTs := by kernel_rfl
theorem flatLot : flatT Try.prog 8 54 = some (ksLot.map .k) := by kernel_rfl

def Cell.ck : Cell → Ck
  | .s _ => .s
  | .i _ => kI
  | .b _ => .b
def okK (ks : List Ck) : Bool := ks.all fun k => match k with | .i .i64 => true | .i _ => false | _ => true
theorem row_of : ∀ {ks : List Ck}, okK ks = true → ∀ row, PRowOk ks row → ∃ r : Row, row = rowEnc r ∧ r.map Cell.ck = ks
  | [], _, row, h => by cases h; exact ⟨[], rfl, rfl⟩
  | k :: ks, hk, row, h => by
    obtain ⟨p, r, rfl, hp, hr⟩ := h.inv
    simp only [okK, List.all_cons, Bool.and_eq_true] at hk
    obtain ⟨r', rfl, h2⟩ := row_of (ks := ks) hk.2 r hr
    cases k with
    | b => obtain ⟨b, rfl⟩ := hp; exact ⟨.b b :: r', rfl, by simp [Cell.ck, h2]⟩
    | s => obtain ⟨b, rfl⟩ := hp; exact ⟨.s b :: r', rfl, by simp [Cell.ck, h2]⟩
    | i k =>
      obtain ⟨n, rfl, -⟩ := hp
      cases k <;> simp at hk
      exact ⟨.i n :: r', rfl, by simp [Cell.ck, kI, h2]⟩
theorem rows_row {ks : List Ck} (hk : okK ks = true) : ∀ {rows : List (List PV)}, (∀ row ∈ rows, PRowOk ks row) → ∃ xs : List Row, rows = xs.map rowEnc ∧ ∀ r ∈ xs, r.map Cell.ck = ks
  | [], _ => ⟨[], rfl, by simp⟩
  | row :: rows, h => by
    obtain ⟨x, hx, h1⟩ := row_of hk row (h row (by simp))
    obtain ⟨xs, hxs, h2⟩ := rows_row hk (rows := rows) fun r hr => h r (by simp [hr])
    refine ⟨x :: xs, by rw [hx, hxs]; rfl, fun r hr => ?_⟩
    rcases List.mem_cons.1 hr with rfl | hr
    · exact h1
    · exact h2 r hr

theorem item_of (row : List PV) (h : PRowOk ksItem row) : ∃ x : Item, row = x.enc := by
  obtain ⟨_, _, rfl, ⟨a1, rfl⟩, k1⟩ := h.inv
  obtain ⟨_, _, rfl, ⟨a2, rfl⟩, k2⟩ := k1.inv
  obtain ⟨_, _, rfl, ⟨a3, rfl, -⟩, k3⟩ := k2.inv
  obtain ⟨_, _, rfl, ⟨a4, rfl⟩, k4⟩ := k3.inv
  obtain ⟨_, _, rfl, ⟨a5, rfl, -⟩, k5⟩ := k4.inv
  obtain ⟨_, _, rfl, ⟨a6, rfl⟩, k6⟩ := k5.inv
  obtain ⟨_, _, rfl, ⟨a7, rfl, -⟩, k7⟩ := k6.inv
  obtain ⟨_, _, rfl, ⟨a8, rfl⟩, k8⟩ := k7.inv
  obtain ⟨_, _, rfl, ⟨a9, rfl, -⟩, k9⟩ := k8.inv
  obtain ⟨_, _, rfl, ⟨a10, rfl, -⟩, k10⟩ := k9.inv
  obtain ⟨_, _, rfl, ⟨a11, rfl, -⟩, k11⟩ := k10.inv
  obtain ⟨_, _, rfl, ⟨a12, rfl⟩, k12⟩ := k11.inv
  obtain ⟨_, _, rfl, ⟨a13, rfl⟩, k13⟩ := k12.inv
  obtain ⟨_, _, rfl, ⟨a14, rfl⟩, k14⟩ := k13.inv
  cases k14
  exact ⟨⟨a1, a2, a3, a4, a5, a6, a7, a8, a9, a10, a11, a12, a13, a14⟩, rfl⟩
theorem lot_of (row : List PV) (h : PRowOk ksLot row) : ∃ x : Lot, row = x.enc := by
  obtain ⟨_, _, rfl, ⟨a1, rfl⟩, k1⟩ := h.inv
  obtain ⟨_, _, rfl, ⟨a2, rfl⟩, k2⟩ := k1.inv
  obtain ⟨_, _, rfl, ⟨a3, rfl, -⟩, k3⟩ := k2.inv
  cases k3
  exact ⟨⟨a1, a2, a3⟩, rfl⟩
theorem zone_of (row : List PV) (h : PRowOk ksZone row) : ∃ x : Zone, row = x.enc := by
  obtain ⟨_, _, rfl, ⟨a1, rfl⟩, k1⟩ := h.inv
  obtain ⟨_, _, rfl, ⟨a2, rfl⟩, k2⟩ := k1.inv
  cases k2
  exact ⟨⟨a1, a2⟩, rfl⟩
theorem bin_of (row : List PV) (h : PRowOk ksBin row) : ∃ x : Bin, row = x.enc := by
  obtain ⟨_, _, rfl, ⟨a1, rfl⟩, k1⟩ := h.inv
  obtain ⟨_, _, rfl, ⟨a2, rfl⟩, k2⟩ := k1.inv
  obtain ⟨_, _, rfl, ⟨a3, rfl, -⟩, k3⟩ := k2.inv
  obtain ⟨_, _, rfl, ⟨a4, rfl, -⟩, k4⟩ := k3.inv
  obtain ⟨_, _, rfl, ⟨a5, rfl, -⟩, k5⟩ := k4.inv
  obtain ⟨_, _, rfl, ⟨a6, rfl, -⟩, k6⟩ := k5.inv
  obtain ⟨_, _, rfl, ⟨a7, rfl, -⟩, k7⟩ := k6.inv
  obtain ⟨_, _, rfl, ⟨a8, rfl⟩, k8⟩ := k7.inv
  cases k8
  exact ⟨⟨a1, a2, a3, a4, a5, a6, a7, a8⟩, rfl⟩
theorem quant_of (row : List PV) (h : PRowOk ksQuant row) : ∃ x : Quant, row = x.enc := by
  obtain ⟨_, _, rfl, ⟨a1, rfl⟩, k1⟩ := h.inv
  obtain ⟨_, _, rfl, ⟨a2, rfl⟩, k2⟩ := k1.inv
  obtain ⟨_, _, rfl, ⟨a3, rfl⟩, k3⟩ := k2.inv
  obtain ⟨_, _, rfl, ⟨a4, rfl, -⟩, k4⟩ := k3.inv
  obtain ⟨_, _, rfl, ⟨a5, rfl, -⟩, k5⟩ := k4.inv
  obtain ⟨_, _, rfl, ⟨a6, rfl, -⟩, k6⟩ := k5.inv
  cases k6
  exact ⟨⟨a1, a2, a3, a4, a5, a6⟩, rfl⟩

/-- The rows that no structure names here are of their types. -/
structure House.Ok (h : House) : Prop where
  rules : ∀ r ∈ h.rules.xs, r.map Cell.ck = ksRule
  notices : ∀ r ∈ h.notices.xs, r.map Cell.ck = ksNotice
  orders : ∀ r ∈ h.orders.xs, r.map Cell.ck = ksOrder
  claims : ∀ r ∈ h.claims.xs, r.map Cell.ck = ksClaim
  tasks : ∀ r ∈ h.tasks.xs, r.map Cell.ck = ksTask
  parcels : ∀ r ∈ h.parcels.xs, r.map Cell.ck = ksParcel
  sent : ∀ r ∈ h.sent.xs, r.map Cell.ck = ksSent
  counted : ∀ r ∈ h.counted.xs, r.map Cell.ck = ksCounted
  totals : ∀ r ∈ h.totals.xs, r.map Cell.ck = ksTotal

theorem house_of {qs : List PV} (h : PCellsOk houseTs qs) : ∃ x : House, qs = x.enc ∧ x.Ok := by
  obtain ⟨_, _, rfl, ⟨r1, rfl, h1⟩, k1⟩ := h.inv
  obtain ⟨_, _, rfl, ⟨r2, rfl, h2⟩, k2⟩ := k1.inv
  obtain ⟨_, _, rfl, ⟨r3, rfl, h3⟩, k3⟩ := k2.inv
  obtain ⟨_, _, rfl, ⟨r4, rfl, h4⟩, k4⟩ := k3.inv
  obtain ⟨_, _, rfl, ⟨r5, rfl, h5⟩, k5⟩ := k4.inv
  obtain ⟨_, _, rfl, ⟨r6, rfl, h6⟩, k6⟩ := k5.inv
  obtain ⟨_, _, rfl, ⟨r7, rfl, h7⟩, k7⟩ := k6.inv
  obtain ⟨_, _, rfl, ⟨r8, rfl, h8⟩, k8⟩ := k7.inv
  obtain ⟨_, _, rfl, ⟨r9, rfl, h9⟩, k9⟩ := k8.inv
  obtain ⟨_, _, rfl, ⟨r10, rfl, h10⟩, k10⟩ := k9.inv
  obtain ⟨_, _, rfl, ⟨r11, rfl, h11⟩, k11⟩ := k10.inv
  obtain ⟨_, _, rfl, ⟨r12, rfl, h12⟩, k12⟩ := k11.inv
  obtain ⟨_, _, rfl, ⟨r13, rfl, h13⟩, k13⟩ := k12.inv
  obtain ⟨_, _, rfl, ⟨r14, rfl, h14⟩, k14⟩ := k13.inv
  obtain ⟨_, _, rfl, ⟨n, rfl, -⟩, k15⟩ := k14.inv
  cases k15
  obtain ⟨x1, rfl⟩ := rows_of item_of h1
  obtain ⟨x2, rfl⟩ := rows_of lot_of h2
  obtain ⟨x3, rfl⟩ := rows_of zone_of h3
  obtain ⟨x4, rfl⟩ := rows_of bin_of h4
  obtain ⟨x5, rfl⟩ := rows_of quant_of h5
  obtain ⟨x6, rfl, g6⟩ := rows_row rfl h6
  obtain ⟨x7, rfl, g7⟩ := rows_row rfl h7
  obtain ⟨x8, rfl, g8⟩ := rows_row rfl h8
  obtain ⟨x9, rfl, g9⟩ := rows_row rfl h9
  obtain ⟨x10, rfl, g10⟩ := rows_row rfl h10
  obtain ⟨x11, rfl, g11⟩ := rows_row rfl h11
  obtain ⟨x12, rfl, g12⟩ := rows_row rfl h12
  obtain ⟨x13, rfl, g13⟩ := rows_row rfl h13
  obtain ⟨x14, rfl, g14⟩ := rows_row rfl h14
  exact ⟨⟨⟨x1, []⟩, ⟨x2, []⟩, ⟨x3, []⟩, ⟨x4, []⟩, ⟨x5, []⟩, ⟨x6, []⟩, ⟨x7, []⟩, ⟨x8, []⟩, ⟨x9, []⟩, ⟨x10, []⟩, ⟨x11, []⟩, ⟨x12, []⟩, ⟨x13, []⟩, ⟨x14, []⟩, n⟩, rfl, ⟨g6, g7, g8, g9, g10, g11, g12, g13, g14⟩⟩
theorem lot_of' {qs : List PV} (h : PCellsOk (ksLot.map .k) qs) : ∃ x : Lot, qs = x.enc := by
  obtain ⟨_, _, rfl, ⟨a1, rfl⟩, k1⟩ := h.inv
  obtain ⟨_, _, rfl, ⟨a2, rfl⟩, k2⟩ := k1.inv
  obtain ⟨_, _, rfl, ⟨a3, rfl, -⟩, k3⟩ := k2.inv
  cases k3
  exact ⟨⟨a1, a2, a3⟩, rfl⟩
end Go.Fw
