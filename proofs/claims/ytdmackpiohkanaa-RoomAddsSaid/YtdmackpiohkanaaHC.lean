/-
  Houses; what is found in them.
-/
import Derived.Test.YtdmackpiohkanaaHB
set_option linter.unusedVariables false
set_option linter.unusedSimpArgs false
set_option maxRecDepth 10000
namespace Go.Fw
open Go.Proofs

structure Zone where
  code : Str
  site : Str
def Zone.enc (x : Zone) : List PV := [.v (.string x.code), .v (.string x.site)]
structure Bin where
  code : Str
  zone : Str
  kind : Int
  aisle : Int
  place : Int
  volume : Int
  weight : Int
  frozen : Bool
def Bin.enc (x : Bin) : List PV := [.v (.string x.code), .v (.string x.zone), .v (.int .i64 x.kind), .v (.int .i64 x.aisle), .v (.int .i64 x.place), .v (.int .i64 x.volume), .v (.int .i64 x.weight), .v (.bool x.frozen)]
structure Quant where
  bin : Str
  item : Str
  lot : Str
  status : Int
  qty : Int
  held : Int
def Quant.enc (x : Quant) : List PV := [.v (.string x.bin), .v (.string x.item), .v (.string x.lot), .v (.int .i64 x.status), .v (.int .i64 x.qty), .v (.int .i64 x.held)]
inductive Cell where
  | s (x : Str)
  | i (x : Int)
  | b (x : Bool)
def Cell.pv : Cell → PV
  | .s x => .v (.string x)
  | .i x => .v (.int .i64 x)
  | .b x => .v (.bool x)
abbrev Row := List Cell
def rowEnc (r : Row) : List PV := r.map Cell.pv

/-- A list, and what stands behind it. -/
structure Ls (α : Type) where
  xs : List α
  sp : List (List PV)
def Ls.pv {α : Type} (enc : α → List PV) (l : Ls α) : PV := .sl (l.xs.map enc) l.sp
structure House where
  items : Ls Item
  lots : Ls Lot
  zones : Ls Zone
  bins : Ls Bin
  quants : Ls Quant
  rules : Ls Row
  notices : Ls Row
  orders : Ls Row
  claims : Ls Row
  tasks : Ls Row
  parcels : Ls Row
  sent : Ls Row
  counted : Ls Row
  totals : Ls Row
  last : Int
def House.enc (h : House) : List PV := [h.items.pv Item.enc, h.lots.pv Lot.enc, h.zones.pv Zone.enc, h.bins.pv Bin.enc, h.quants.pv Quant.enc, h.rules.pv rowEnc, h.notices.pv rowEnc, h.orders.pv rowEnc, h.claims.pv rowEnc, h.tasks.pv rowEnc, h.parcels.pv rowEnc, h.sent.pv rowEnc, h.counted.pv rowEnc, h.totals.pv rowEnc, .v (.int .i64 h.last)]

def House.small (h : House) : Bool := decide (h.items.xs.length ≤ 80) && decide (h.lots.xs.length ≤ 160) && decide (h.zones.xs.length ≤ 40) && decide (h.bins.xs.length ≤ 80) && decide (h.quants.xs.length ≤ 300) && decide (h.rules.xs.length ≤ 60) && decide (h.notices.xs.length ≤ 60) && decide (h.orders.xs.length ≤ 60) && decide (h.claims.xs.length ≤ 160) && decide (h.tasks.xs.length ≤ 160) && decide (h.parcels.xs.length ≤ 80) && decide (h.sent.xs.length ≤ 160) && decide (h.counted.xs.length ≤ 120) && decide (h.totals.xs.length ≤ 300)

theorem le_cast {α β : Type} (f : α → β) (l : List α) (n : Nat) : decide (((l.map f).length : Int) ≤ (n : Int)) = decide (l.length ≤ n) := by simp
set_option maxHeartbeats 4000000 in
theorem small_ok (h : House) : Ret Try.prog 28 [.agg h.enc] (.v (.bool h.small)) := by
  refine ret28 rfl fun hbd => ?_
  unfold c28
  repeat' (first
    | refine r_mv_p rfl ?_ | refine r_doA rfl ?_ | refine r_skipA rfl ?_ | refine r_fad rfl rfl ?_ | refine r_pickT rfl rfl rfl ?_ | refine r_pickF rfl rfl rfl ?_
    | refine r_sem rfl rfl rfl rfl ?_ | refine r_nil ?_ | refine r_box rfl rfl rfl ?_ | refine run_seq ?_ | refine run_reg ?_ | refine run_ret ?_ | refine fin_seq ?_
    | refine r_split rfl (fun hs => ?_) (fun hs => ?_))
  all_goals (refine fin_out rfl ?_)
  all_goals (try simp only [List.length_map, decide_eq_true_eq, decide_eq_false_iff_not] at *)
  all_goals (simp only [House.small, PV.v.injEq, Value.bool.injEq])
  all_goals (rw [Bool.eq_iff_iff])
  all_goals (simp only [Bool.and_eq_true, decide_eq_true_eq, Bool.false_eq_true, false_iff])
  all_goals omega
end Go.Fw
