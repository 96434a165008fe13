/-
  Houses that are copied, with something behind their lists' lengths, and held against one another.
-/
import Derived.Test.YtdmackpiohkanaaHV
set_option linter.unusedVariables false
set_option linter.unusedSimpArgs false
set_option maxRecDepth 10000
namespace Go.Fw
open Go.Proofs

/-! ### Houses -/
def behindB : Str := ⟨#[98, 101, 104, 105, 110, 100]⟩
def beh0 : List PV := [.v (.string behindB), .v (.string ⟨#[]⟩), .v (.int .i64 0), .v (.string ⟨#[]⟩), .v (.int .i64 0), .v (.string ⟨#[]⟩), .v (.int .i64 0), .v (.string ⟨#[]⟩), .v (.int .i64 0), .v (.int .i64 0), .v (.int .i64 0), .v (.bool false), .v (.bool false), .v (.bool false)]
def beh1 : List PV := [.v (.string ⟨#[]⟩), .v (.string behindB), .v (.int .i64 0)]
def beh2 : List PV := [.v (.string behindB), .v (.string ⟨#[]⟩)]
def beh3 : List PV := [.v (.string behindB), .v (.string ⟨#[]⟩), .v (.int .i64 0), .v (.int .i64 0), .v (.int .i64 0), .v (.int .i64 0), .v (.int .i64 0), .v (.bool false)]
def beh4 : List PV := [.v (.string ⟨#[]⟩), .v (.string ⟨#[]⟩), .v (.string ⟨#[]⟩), .v (.int .i64 0), .v (.int .i64 (-77)), .v (.int .i64 0)]
def beh5 : List PV := [.v (.string ⟨#[]⟩), .v (.string behindB), .v (.int .i64 0)]
def beh6 : List PV := [.v (.string behindB), .v (.string ⟨#[]⟩), .v (.string ⟨#[]⟩), .v (.int .i64 0), .v (.int .i64 0), .v (.int .i64 0), .v (.int .i64 0), .v (.int .i64 0), .v (.string ⟨#[]⟩), .v (.int .i64 0), .v (.int .i64 0), .v (.int .i64 0), .v (.int .i64 0), .v (.int .i64 0), .v (.string ⟨#[]⟩), .v (.int .i64 0), .v (.int .i64 0), .v (.int .i64 0), .v (.int .i64 0), .v (.int .i64 0), .v (.string ⟨#[]⟩), .v (.int .i64 0), .v (.int .i64 0), .v (.int .i64 0), .v (.int .i64 0), .v (.int .i64 0), .v (.string ⟨#[]⟩), .v (.int .i64 0), .v (.int .i64 0), .v (.int .i64 0), .v (.int .i64 0), .v (.int .i64 0), .v (.string ⟨#[]⟩), .v (.int .i64 0), .v (.int .i64 0), .v (.int .i64 0), .v (.int .i64 0), .v (.int .i64 0), .v (.string ⟨#[]⟩), .v (.int .i64 0), .v (.int .i64 0), .v (.int .i64 0), .v (.int .i64 0), .v (.int .i64 0), .v (.string ⟨#[]⟩), .v (.int .i64 0), .v (.int .i64 0), .v (.int .i64 0), .v (.int .i64 0), .v (.int .i64 0), .v (.bool false)]
def beh7 : List PV := [.v (.string behindB), .v (.string ⟨#[]⟩), .v (.string ⟨#[]⟩), .v (.int .i64 0), .v (.int .i64 0), .v (.int .i64 0), .v (.int .i64 0), .v (.int .i64 0), .v (.string ⟨#[]⟩), .v (.int .i64 0), .v (.int .i64 0), .v (.int .i64 0), .v (.int .i64 0), .v (.int .i64 0), .v (.string ⟨#[]⟩), .v (.int .i64 0), .v (.int .i64 0), .v (.int .i64 0), .v (.int .i64 0), .v (.int .i64 0), .v (.string ⟨#[]⟩), .v (.int .i64 0), .v (.int .i64 0), .v (.int .i64 0), .v (.int .i64 0), .v (.int .i64 0), .v (.string ⟨#[]⟩), .v (.int .i64 0), .v (.int .i64 0), .v (.int .i64 0), .v (.int .i64 0), .v (.int .i64 0), .v (.string ⟨#[]⟩), .v (.int .i64 0), .v (.int .i64 0), .v (.int .i64 0), .v (.int .i64 0), .v (.int .i64 0), .v (.string ⟨#[]⟩), .v (.int .i64 0), .v (.int .i64 0), .v (.int .i64 0), .v (.int .i64 0), .v (.int .i64 0), .v (.string ⟨#[]⟩), .v (.int .i64 0), .v (.int .i64 0), .v (.int .i64 0), .v (.int .i64 0), .v (.int .i64 0)]
def beh8 : List PV := [.v (.string behindB), .v (.int .i64 0), .v (.string ⟨#[]⟩), .v (.string ⟨#[]⟩), .v (.string ⟨#[]⟩), .v (.int .i64 0), .v (.int .i64 0), .v (.int .i64 0)]
def beh9 : List PV := [.v (.int .i64 0), .v (.int .i64 0), .v (.string ⟨#[]⟩), .v (.int .i64 0), .v (.string ⟨#[]⟩), .v (.string ⟨#[]⟩), .v (.string ⟨#[]⟩), .v (.int .i64 0), .v (.string behindB), .v (.int .i64 0), .v (.string ⟨#[]⟩)]
def beh10 : List PV := [.v (.string behindB), .v (.string ⟨#[]⟩)]
def beh11 : List PV := [.v (.string behindB), .v (.string ⟨#[]⟩), .v (.string ⟨#[]⟩), .v (.int .i64 0), .v (.int .i64 0)]
def beh12 : List PV := [.v (.string ⟨#[]⟩), .v (.string ⟨#[]⟩), .v (.string ⟨#[]⟩), .v (.int .i64 0), .v (.int .i64 (-77))]
def beh13 : List PV := [.v (.string ⟨#[]⟩), .v (.string behindB), .v (.int .i64 0), .v (.int .i64 0), .v (.int .i64 0), .v (.int .i64 0)]
def House.lent (h : House) : House := { items := ⟨h.items.xs, [beh0]⟩, lots := ⟨h.lots.xs, [beh1]⟩, zones := ⟨h.zones.xs, [beh2]⟩, bins := ⟨h.bins.xs, [beh3]⟩, quants := ⟨h.quants.xs, [beh4]⟩, rules := ⟨h.rules.xs, [beh5]⟩, notices := ⟨h.notices.xs, [beh6]⟩, orders := ⟨h.orders.xs, [beh7]⟩, claims := ⟨h.claims.xs, [beh8]⟩, tasks := ⟨h.tasks.xs, [beh9]⟩, parcels := ⟨h.parcels.xs, [beh10]⟩, sent := ⟨h.sent.xs, [beh11]⟩, counted := ⟨h.counted.xs, [beh12]⟩, totals := ⟨h.totals.xs, [beh13]⟩, last := h.last }
theorem cellsEq_row : ∀ r : Row, cellsEq (r.map Cell.ck) (rowEnc r) (rowEnc r) = some true
  | [] => rfl
  | .s x :: r => by
    have := cellsEq_row r
    simp only [List.map_cons, Cell.ck, rowEnc, Cell.pv, cellsEq] at this ⊢
    rw [this]; simp
  | .i x :: r => by
    have := cellsEq_row r
    simp only [List.map_cons, Cell.ck, kI, rowEnc, Cell.pv, cellsEq] at this ⊢
    rw [this]; simp
  | .b x :: r => by
    have := cellsEq_row r
    simp only [List.map_cons, Cell.ck, rowEnc, Cell.pv, cellsEq] at this ⊢
    rw [this]; simp
theorem row_fits {r : Row} {ks : List Ck} (h : r.map Cell.ck = ks) : (rowEnc r).length = ks.length ∧ cellsEq ks (rowEnc r) (rowEnc r) = some true := by
  subst h
  exact ⟨by simp [rowEnc], cellsEq_row r⟩
theorem item_eqs (x : Item) : cellsEq [.s, .s, .i .i64, .s, .i .i64, .s, .i .i64, .s, .i .i64, .i .i64, .i .i64, .b, .b, .b] x.enc x.enc = some true := by simp [cellsEq, Item.enc]
theorem lot_eqs (x : Lot) : cellsEq [.s, .s, .i .i64] x.enc x.enc = some true := by simp [cellsEq, Lot.enc]
theorem zone_eqs (x : Zone) : cellsEq [.s, .s] x.enc x.enc = some true := by simp [cellsEq, Zone.enc]
theorem bin_eqs (x : Bin) : cellsEq [.s, .s, .i .i64, .i .i64, .i .i64, .i .i64, .i .i64, .b] x.enc x.enc = some true := by simp [cellsEq, Bin.enc]
theorem quant_eqs (x : Quant) : cellsEq [.s, .s, .s, .i .i64, .i .i64, .i .i64] x.enc x.enc = some true := by simp [cellsEq, Quant.enc]
theorem House.lent_ok {h : House} (hx : h.Ok) : h.lent.Ok := ⟨hx.rules, hx.notices, hx.orders, hx.claims, hx.tasks, hx.parcels, hx.sent, hx.counted, hx.totals⟩
/-- No list is much longer than it may be. -/
theorem small_lens {h : House} (hs : h.small = true) : h.items.xs.length ≤ 80 ∧ h.lots.xs.length ≤ 160 ∧ h.zones.xs.length ≤ 40 ∧ h.bins.xs.length ≤ 80 ∧ h.quants.xs.length ≤ 300 ∧ h.rules.xs.length ≤ 60 ∧ h.notices.xs.length ≤ 60 ∧ h.orders.xs.length ≤ 60 ∧ h.claims.xs.length ≤ 160 ∧ h.tasks.xs.length ≤ 160 ∧ h.parcels.xs.length ≤ 80 ∧ h.sent.xs.length ≤ 160 ∧ h.counted.xs.length ≤ 120 ∧ h.totals.xs.length ≤ 300 := by
  simp only [House.small, Bool.and_eq_true, decide_eq_true_eq] at hs
  omega
def House.l0 (h : House) : House := h
def House.l1 (h : House) : House := { h.l0 with items := ⟨h.items.xs, [beh0]⟩ }
def House.l2 (h : House) : House := { h.l1 with lots := ⟨h.lots.xs, [beh1]⟩ }
def House.l3 (h : House) : House := { h.l2 with zones := ⟨h.zones.xs, [beh2]⟩ }
def House.l4 (h : House) : House := { h.l3 with bins := ⟨h.bins.xs, [beh3]⟩ }
def House.l5 (h : House) : House := { h.l4 with quants := ⟨h.quants.xs, [beh4]⟩ }
def House.l6 (h : House) : House := { h.l5 with rules := ⟨h.rules.xs, [beh5]⟩ }
def House.l7 (h : House) : House := { h.l6 with notices := ⟨h.notices.xs, [beh6]⟩ }
def House.l8 (h : House) : House := { h.l7 with orders := ⟨h.orders.xs, [beh7]⟩ }
def House.l9 (h : House) : House := { h.l8 with claims := ⟨h.claims.xs, [beh8]⟩ }
def House.l10 (h : House) : House := { h.l9 with tasks := ⟨h.tasks.xs, [beh9]⟩ }
def House.l11 (h : House) : House := { h.l10 with parcels := ⟨h.parcels.xs, [beh10]⟩ }
def House.l12 (h : House) : House := { h.l11 with sent := ⟨h.sent.xs, [beh11]⟩ }
def House.l13 (h : House) : House := { h.l12 with counted := ⟨h.counted.xs, [beh12]⟩ }
def House.l14 (h : House) : House := { h.l13 with totals := ⟨h.totals.xs, [beh13]⟩ }
set_option maxHeartbeats 8000000 in
theorem lent_ok (h : House) (hx : h.Ok) (hs : h.small = true) : Ret Try.prog 35 [.agg h.enc] (.agg h.lent.enc) := by
  refine ret35 rfl fun hbd => ?_
  obtain ⟨l0, l1, l2, l3, l4, l5, l6, l7, l8, l9, l10, l11, l12, l13⟩ := small_lens hs
  have c0 := lent74 Item.enc beh0 rfl h.items.xs h.items.sp (fun _ _ => rfl) (by omega)
  have c1 := lent75 Lot.enc beh1 rfl h.lots.xs h.lots.sp (fun _ _ => rfl) (by omega)
  have c2 := lent76 Zone.enc beh2 rfl h.zones.xs h.zones.sp (fun _ _ => rfl) (by omega)
  have c3 := lent77 Bin.enc beh3 rfl h.bins.xs h.bins.sp (fun _ _ => rfl) (by omega)
  have c4 := lent78 Quant.enc beh4 rfl h.quants.xs h.quants.sp (fun _ _ => rfl) (by omega)
  have c5 := lent79 rowEnc beh5 rfl h.rules.xs h.rules.sp (fun r hr => (row_fits (hx.rules r hr)).1) (by omega)
  have c6 := lent80 rowEnc beh6 rfl h.notices.xs h.notices.sp (fun r hr => (row_fits (hx.notices r hr)).1) (by omega)
  have c7 := lent81 rowEnc beh7 rfl h.orders.xs h.orders.sp (fun r hr => (row_fits (hx.orders r hr)).1) (by omega)
  have c8 := lent82 rowEnc beh8 rfl h.claims.xs h.claims.sp (fun r hr => (row_fits (hx.claims r hr)).1) (by omega)
  have c9 := lent83 rowEnc beh9 rfl h.tasks.xs h.tasks.sp (fun r hr => (row_fits (hx.tasks r hr)).1) (by omega)
  have c10 := lent84 rowEnc beh10 rfl h.parcels.xs h.parcels.sp (fun r hr => (row_fits (hx.parcels r hr)).1) (by omega)
  have c11 := lent85 rowEnc beh11 rfl h.sent.xs h.sent.sp (fun r hr => (row_fits (hx.sent r hr)).1) (by omega)
  have c12 := lent86 rowEnc beh12 rfl h.counted.xs h.counted.sp (fun r hr => (row_fits (hx.counted r hr)).1) (by omega)
  have c13 := lent87 rowEnc beh13 rfl h.totals.xs h.totals.sp (fun r hr => (row_fits (hx.totals r hr)).1) (by omega)
  clear l0 l1 l2 l3 l4 l5 l6 l7 l8 l9 l10 l11 l12 l13
  unfold c35
  refine run_seq ?_
  refine run_reg ?_
  repeat (first
    | refine r_nil ?_ | refine r_alloc rfl ?_ | refine r_box rfl rfl rfl ?_)
  refine fin_seq ?_
  refine run_weak (weak_S (l := [(1, .own 1 0), (2, .own 2 0)]) (m := [(1, some (.box h.l0.enc false)), (2, some (.box House.zero.enc false))]) ⟨rfl, rfl, trivial⟩ ⟨rfl, rfl, trivial⟩) ?_
  refine run_seq ?_
  refine run_reg ?_
  repeat (first
    | refine r_call rfl (c0) ?_ | refine r_fad rfl rfl ?_ | refine r_sem rfl rfl rfl rfl ?_ | refine r_nil ?_
    | refine r_store rfl rfl rfl rfl (And.intro rfl (Nat.le_of_ble_eq_true rfl)) ?_)
  refine fin_seq ?_
  refine run_weak (weak_S (l := [(1, .own 1 0), (2, .own 2 0)]) (m := [(1, some (.box h.l1.enc false)), (2, some (.box House.zero.enc false))]) ⟨rfl, rfl, trivial⟩ ⟨rfl, rfl, trivial⟩) ?_
  refine run_seq ?_
  refine run_reg ?_
  repeat (first
    | refine r_call rfl (c1) ?_ | refine r_fad rfl rfl ?_ | refine r_sem rfl rfl rfl rfl ?_ | refine r_nil ?_
    | refine r_store rfl rfl rfl rfl (And.intro rfl (Nat.le_of_ble_eq_true rfl)) ?_)
  refine fin_seq ?_
  refine run_weak (weak_S (l := [(1, .own 1 0), (2, .own 2 0)]) (m := [(1, some (.box h.l2.enc false)), (2, some (.box House.zero.enc false))]) ⟨rfl, rfl, trivial⟩ ⟨rfl, rfl, trivial⟩) ?_
  refine run_seq ?_
  refine run_reg ?_
  repeat (first
    | refine r_call rfl (c2) ?_ | refine r_fad rfl rfl ?_ | refine r_sem rfl rfl rfl rfl ?_ | refine r_nil ?_
    | refine r_store rfl rfl rfl rfl (And.intro rfl (Nat.le_of_ble_eq_true rfl)) ?_)
  refine fin_seq ?_
  refine run_weak (weak_S (l := [(1, .own 1 0), (2, .own 2 0)]) (m := [(1, some (.box h.l3.enc false)), (2, some (.box House.zero.enc false))]) ⟨rfl, rfl, trivial⟩ ⟨rfl, rfl, trivial⟩) ?_
  refine run_seq ?_
  refine run_reg ?_
  repeat (first
    | refine r_call rfl (c3) ?_ | refine r_fad rfl rfl ?_ | refine r_sem rfl rfl rfl rfl ?_ | refine r_nil ?_
    | refine r_store rfl rfl rfl rfl (And.intro rfl (Nat.le_of_ble_eq_true rfl)) ?_)
  refine fin_seq ?_
  refine run_weak (weak_S (l := [(1, .own 1 0), (2, .own 2 0)]) (m := [(1, some (.box h.l4.enc false)), (2, some (.box House.zero.enc false))]) ⟨rfl, rfl, trivial⟩ ⟨rfl, rfl, trivial⟩) ?_
  refine run_seq ?_
  refine run_reg ?_
  repeat (first
    | refine r_call rfl (c4) ?_ | refine r_fad rfl rfl ?_ | refine r_sem rfl rfl rfl rfl ?_ | refine r_nil ?_
    | refine r_store rfl rfl rfl rfl (And.intro rfl (Nat.le_of_ble_eq_true rfl)) ?_)
  refine fin_seq ?_
  refine run_weak (weak_S (l := [(1, .own 1 0), (2, .own 2 0)]) (m := [(1, some (.box h.l5.enc false)), (2, some (.box House.zero.enc false))]) ⟨rfl, rfl, trivial⟩ ⟨rfl, rfl, trivial⟩) ?_
  refine run_seq ?_
  refine run_reg ?_
  repeat (first
    | refine r_call rfl (c5) ?_ | refine r_fad rfl rfl ?_ | refine r_sem rfl rfl rfl rfl ?_ | refine r_nil ?_
    | refine r_store rfl rfl rfl rfl (And.intro rfl (Nat.le_of_ble_eq_true rfl)) ?_)
  refine fin_seq ?_
  refine run_weak (weak_S (l := [(1, .own 1 0), (2, .own 2 0)]) (m := [(1, some (.box h.l6.enc false)), (2, some (.box House.zero.enc false))]) ⟨rfl, rfl, trivial⟩ ⟨rfl, rfl, trivial⟩) ?_
  refine run_seq ?_
  refine run_reg ?_
  repeat (first
    | refine r_call rfl (c6) ?_ | refine r_fad rfl rfl ?_ | refine r_sem rfl rfl rfl rfl ?_ | refine r_nil ?_
    | refine r_store rfl rfl rfl rfl (And.intro rfl (Nat.le_of_ble_eq_true rfl)) ?_)
  refine fin_seq ?_
  refine run_weak (weak_S (l := [(1, .own 1 0), (2, .own 2 0)]) (m := [(1, some (.box h.l7.enc false)), (2, some (.box House.zero.enc false))]) ⟨rfl, rfl, trivial⟩ ⟨rfl, rfl, trivial⟩) ?_
  refine run_seq ?_
  refine run_reg ?_
  repeat (first
    | refine r_call rfl (c7) ?_ | refine r_fad rfl rfl ?_ | refine r_sem rfl rfl rfl rfl ?_ | refine r_nil ?_
    | refine r_store rfl rfl rfl rfl (And.intro rfl (Nat.le_of_ble_eq_true rfl)) ?_)
  refine fin_seq ?_
  refine run_weak (weak_S (l := [(1, .own 1 0), (2, .own 2 0)]) (m := [(1, some (.box h.l8.enc false)), (2, some (.box House.zero.enc false))]) ⟨rfl, rfl, trivial⟩ ⟨rfl, rfl, trivial⟩) ?_
  refine run_seq ?_
  refine run_reg ?_
  repeat (first
    | refine r_call rfl (c8) ?_ | refine r_fad rfl rfl ?_ | refine r_sem rfl rfl rfl rfl ?_ | refine r_nil ?_
    | refine r_store rfl rfl rfl rfl (And.intro rfl (Nat.le_of_ble_eq_true rfl)) ?_)
  refine fin_seq ?_
  refine run_weak (weak_S (l := [(1, .own 1 0), (2, .own 2 0)]) (m := [(1, some (.box h.l9.enc false)), (2, some (.box House.zero.enc false))]) ⟨rfl, rfl, trivial⟩ ⟨rfl, rfl, trivial⟩) ?_
  refine run_seq ?_
  refine run_reg ?_
  repeat (first
    | refine r_call rfl (c9) ?_ | refine r_fad rfl rfl ?_ | refine r_sem rfl rfl rfl rfl ?_ | refine r_nil ?_
    | refine r_store rfl rfl rfl rfl (And.intro rfl (Nat.le_of_ble_eq_true rfl)) ?_)
  refine fin_seq ?_
  refine run_weak (weak_S (l := [(1, .own 1 0), (2, .own 2 0)]) (m := [(1, some (.box h.l10.enc false)), (2, some (.box House.zero.enc false))]) ⟨rfl, rfl, trivial⟩ ⟨rfl, rfl, trivial⟩) ?_
  refine run_seq ?_
  refine run_reg ?_
  repeat (first
    | refine r_call rfl (c10) ?_ | refine r_fad rfl rfl ?_ | refine r_sem rfl rfl rfl rfl ?_ | refine r_nil ?_
    | refine r_store rfl rfl rfl rfl (And.intro rfl (Nat.le_of_ble_eq_true rfl)) ?_)
  refine fin_seq ?_
  refine run_weak (weak_S (l := [(1, .own 1 0), (2, .own 2 0)]) (m := [(1, some (.box h.l11.enc false)), (2, some (.box House.zero.enc false))]) ⟨rfl, rfl, trivial⟩ ⟨rfl, rfl, trivial⟩) ?_
  refine run_seq ?_
  refine run_reg ?_
  repeat (first
    | refine r_call rfl (c11) ?_ | refine r_fad rfl rfl ?_ | refine r_sem rfl rfl rfl rfl ?_ | refine r_nil ?_
    | refine r_store rfl rfl rfl rfl (And.intro rfl (Nat.le_of_ble_eq_true rfl)) ?_)
  refine fin_seq ?_
  refine run_weak (weak_S (l := [(1, .own 1 0), (2, .own 2 0)]) (m := [(1, some (.box h.l12.enc false)), (2, some (.box House.zero.enc false))]) ⟨rfl, rfl, trivial⟩ ⟨rfl, rfl, trivial⟩) ?_
  refine run_seq ?_
  refine run_reg ?_
  repeat (first
    | refine r_call rfl (c12) ?_ | refine r_fad rfl rfl ?_ | refine r_sem rfl rfl rfl rfl ?_ | refine r_nil ?_
    | refine r_store rfl rfl rfl rfl (And.intro rfl (Nat.le_of_ble_eq_true rfl)) ?_)
  refine fin_seq ?_
  refine run_weak (weak_S (l := [(1, .own 1 0), (2, .own 2 0)]) (m := [(1, some (.box h.l13.enc false)), (2, some (.box House.zero.enc false))]) ⟨rfl, rfl, trivial⟩ ⟨rfl, rfl, trivial⟩) ?_
  refine run_seq ?_
  refine run_reg ?_
  repeat (first
    | refine r_call rfl (c13) ?_ | refine r_fad rfl rfl ?_ | refine r_sem rfl rfl rfl rfl ?_ | refine r_nil ?_
    | refine r_store rfl rfl rfl rfl (And.intro rfl (Nat.le_of_ble_eq_true rfl)) ?_)
  refine fin_seq ?_
  refine run_weak (weak_S (l := [(1, .own 1 0), (2, .own 2 0)]) (m := [(1, some (.box h.l14.enc false)), (2, some (.box House.zero.enc false))]) ⟨rfl, rfl, trivial⟩ ⟨rfl, rfl, trivial⟩) ?_
  repeat (first
    | refine r_loadB rfl rfl ?_ | refine r_nil ?_ | refine r_storeAll rfl rfl rfl rfl rfl rfl ?_ | refine run_seq ?_ | refine run_reg ?_ | refine run_ret ?_ | refine fin_seq ?_)
  exact fin_out rfl rfl
/-- Two houses of the same things. -/
structure SameH (a b : House) : Prop where
  items : a.items.xs = b.items.xs
  lots : a.lots.xs = b.lots.xs
  zones : a.zones.xs = b.zones.xs
  bins : a.bins.xs = b.bins.xs
  quants : a.quants.xs = b.quants.xs
  rules : a.rules.xs = b.rules.xs
  notices : a.notices.xs = b.notices.xs
  orders : a.orders.xs = b.orders.xs
  claims : a.claims.xs = b.claims.xs
  tasks : a.tasks.xs = b.tasks.xs
  parcels : a.parcels.xs = b.parcels.xs
  sent : a.sent.xs = b.sent.xs
  counted : a.counted.xs = b.counted.xs
  totals : a.totals.xs = b.totals.xs
  last : a.last = b.last
theorem SameH.refl (a : House) : SameH a a := ⟨rfl, rfl, rfl, rfl, rfl, rfl, rfl, rfl, rfl, rfl, rfl, rfl, rfl, rfl, rfl⟩
theorem SameH.lent (a : House) : SameH a.lent a := ⟨rfl, rfl, rfl, rfl, rfl, rfl, rfl, rfl, rfl, rfl, rfl, rfl, rfl, rfl, rfl⟩
set_option maxHeartbeats 8000000 in
theorem same_ok (a b : House) (hx : a.Ok) (hs : SameH a b) : Ret Try.prog 40 [.agg a.enc, .agg b.enc] (.v (.bool true)) := by
  refine ret40 rfl fun hbd => ?_
  have c0 := same92 Item.enc a.items.xs a.items.sp b.items.sp (fun _ _ => rfl) (fun x _ => item_eqs x)
  have c1 := same93 Lot.enc a.lots.xs a.lots.sp b.lots.sp (fun _ _ => rfl) (fun x _ => lot_eqs x)
  have c2 := same94 Zone.enc a.zones.xs a.zones.sp b.zones.sp (fun _ _ => rfl) (fun x _ => zone_eqs x)
  have c3 := same95 Bin.enc a.bins.xs a.bins.sp b.bins.sp (fun _ _ => rfl) (fun x _ => bin_eqs x)
  have c4 := same96 Quant.enc a.quants.xs a.quants.sp b.quants.sp (fun _ _ => rfl) (fun x _ => quant_eqs x)
  have c5 := same97 rowEnc a.rules.xs a.rules.sp b.rules.sp (fun r hr => (row_fits (hx.rules r hr)).1) (fun r hr => (row_fits (hx.rules r hr)).2)
  have c6 := same98 rowEnc a.notices.xs a.notices.sp b.notices.sp (fun r hr => (row_fits (hx.notices r hr)).1) (fun r hr => (row_fits (hx.notices r hr)).2)
  have c7 := same99 rowEnc a.orders.xs a.orders.sp b.orders.sp (fun r hr => (row_fits (hx.orders r hr)).1) (fun r hr => (row_fits (hx.orders r hr)).2)
  have c8 := same100 rowEnc a.claims.xs a.claims.sp b.claims.sp (fun r hr => (row_fits (hx.claims r hr)).1) (fun r hr => (row_fits (hx.claims r hr)).2)
  have c9 := same101 rowEnc a.tasks.xs a.tasks.sp b.tasks.sp (fun r hr => (row_fits (hx.tasks r hr)).1) (fun r hr => (row_fits (hx.tasks r hr)).2)
  have c10 := same102 rowEnc a.parcels.xs a.parcels.sp b.parcels.sp (fun r hr => (row_fits (hx.parcels r hr)).1) (fun r hr => (row_fits (hx.parcels r hr)).2)
  have c11 := same103 rowEnc a.sent.xs a.sent.sp b.sent.sp (fun r hr => (row_fits (hx.sent r hr)).1) (fun r hr => (row_fits (hx.sent r hr)).2)
  have c12 := same104 rowEnc a.counted.xs a.counted.sp b.counted.sp (fun r hr => (row_fits (hx.counted r hr)).1) (fun r hr => (row_fits (hx.counted r hr)).2)
  have c13 := same105 rowEnc a.totals.xs a.totals.sp b.totals.sp (fun r hr => (row_fits (hx.totals r hr)).1) (fun r hr => (row_fits (hx.totals r hr)).2)
  replace c0 : Ret Try.prog 92 [a.items.pv Item.enc, b.items.pv Item.enc] (.v (.bool true)) := by unfold Ls.pv; rw [← hs.items]; exact c0
  replace c1 : Ret Try.prog 93 [a.lots.pv Lot.enc, b.lots.pv Lot.enc] (.v (.bool true)) := by unfold Ls.pv; rw [← hs.lots]; exact c1
  replace c2 : Ret Try.prog 94 [a.zones.pv Zone.enc, b.zones.pv Zone.enc] (.v (.bool true)) := by unfold Ls.pv; rw [← hs.zones]; exact c2
  replace c3 : Ret Try.prog 95 [a.bins.pv Bin.enc, b.bins.pv Bin.enc] (.v (.bool true)) := by unfold Ls.pv; rw [← hs.bins]; exact c3
  replace c4 : Ret Try.prog 96 [a.quants.pv Quant.enc, b.quants.pv Quant.enc] (.v (.bool true)) := by unfold Ls.pv; rw [← hs.quants]; exact c4
  replace c5 : Ret Try.prog 97 [a.rules.pv rowEnc, b.rules.pv rowEnc] (.v (.bool true)) := by unfold Ls.pv; rw [← hs.rules]; exact c5
  replace c6 : Ret Try.prog 98 [a.notices.pv rowEnc, b.notices.pv rowEnc] (.v (.bool true)) := by unfold Ls.pv; rw [← hs.notices]; exact c6
  replace c7 : Ret Try.prog 99 [a.orders.pv rowEnc, b.orders.pv rowEnc] (.v (.bool true)) := by unfold Ls.pv; rw [← hs.orders]; exact c7
  replace c8 : Ret Try.prog 100 [a.claims.pv rowEnc, b.claims.pv rowEnc] (.v (.bool true)) := by unfold Ls.pv; rw [← hs.claims]; exact c8
  replace c9 : Ret Try.prog 101 [a.tasks.pv rowEnc, b.tasks.pv rowEnc] (.v (.bool true)) := by unfold Ls.pv; rw [← hs.tasks]; exact c9
  replace c10 : Ret Try.prog 102 [a.parcels.pv rowEnc, b.parcels.pv rowEnc] (.v (.bool true)) := by unfold Ls.pv; rw [← hs.parcels]; exact c10
  replace c11 : Ret Try.prog 103 [a.sent.pv rowEnc, b.sent.pv rowEnc] (.v (.bool true)) := by unfold Ls.pv; rw [← hs.sent]; exact c11
  replace c12 : Ret Try.prog 104 [a.counted.pv rowEnc, b.counted.pv rowEnc] (.v (.bool true)) := by unfold Ls.pv; rw [← hs.counted]; exact c12
  replace c13 : Ret Try.prog 105 [a.totals.pv rowEnc, b.totals.pv rowEnc] (.v (.bool true)) := by unfold Ls.pv; rw [← hs.totals]; exact c13
  have hd : decide (a.last = b.last) = true := decide_eq_true hs.last
  unfold c40
  repeat (first
    | refine r_call rfl (c0) ?_ | refine r_mv_p rfl ?_ | refine r_doA rfl ?_ | refine r_fad rfl rfl ?_ | refine r_sem rfl rfl rfl rfl ?_ | refine r_nil ?_ | refine r_box rfl rfl rfl ?_
    | refine run_seq ?_ | refine run_reg ?_ | refine fin_seq ?_)
  repeat (first
    | refine r_call rfl (c1) ?_ | refine r_mv_p rfl ?_ | refine r_doA rfl ?_ | refine r_fad rfl rfl ?_ | refine r_pickT rfl rfl rfl ?_ | refine r_sem rfl rfl rfl rfl ?_)
  repeat (first
    | refine r_call rfl (c2) ?_ | refine r_mv_p rfl ?_ | refine r_doA rfl ?_ | refine r_fad rfl rfl ?_ | refine r_pickT rfl rfl rfl ?_ | refine r_sem rfl rfl rfl rfl ?_)
  repeat (first
    | refine r_call rfl (c3) ?_ | refine r_mv_p rfl ?_ | refine r_doA rfl ?_ | refine r_fad rfl rfl ?_ | refine r_pickT rfl rfl rfl ?_ | refine r_sem rfl rfl rfl rfl ?_)
  repeat (first
    | refine r_call rfl (c4) ?_ | refine r_mv_p rfl ?_ | refine r_doA rfl ?_ | refine r_fad rfl rfl ?_ | refine r_pickT rfl rfl rfl ?_ | refine r_sem rfl rfl rfl rfl ?_)
  repeat (first
    | refine r_call rfl (c5) ?_ | refine r_mv_p rfl ?_ | refine r_doA rfl ?_ | refine r_fad rfl rfl ?_ | refine r_pickT rfl rfl rfl ?_ | refine r_sem rfl rfl rfl rfl ?_)
  repeat (first
    | refine r_call rfl (c6) ?_ | refine r_mv_p rfl ?_ | refine r_doA rfl ?_ | refine r_fad rfl rfl ?_ | refine r_pickT rfl rfl rfl ?_ | refine r_sem rfl rfl rfl rfl ?_)
  repeat (first
    | refine r_call rfl (c7) ?_ | refine r_mv_p rfl ?_ | refine r_doA rfl ?_ | refine r_fad rfl rfl ?_ | refine r_pickT rfl rfl rfl ?_ | refine r_sem rfl rfl rfl rfl ?_)
  repeat (first
    | refine r_call rfl (c8) ?_ | refine r_mv_p rfl ?_ | refine r_doA rfl ?_ | refine r_fad rfl rfl ?_ | refine r_pickT rfl rfl rfl ?_ | refine r_sem rfl rfl rfl rfl ?_)
  repeat (first
    | refine r_call rfl (c9) ?_ | refine r_mv_p rfl ?_ | refine r_doA rfl ?_ | refine r_fad rfl rfl ?_ | refine r_pickT rfl rfl rfl ?_ | refine r_sem rfl rfl rfl rfl ?_)
  repeat (first
    | refine r_call rfl (c10) ?_ | refine r_mv_p rfl ?_ | refine r_doA rfl ?_ | refine r_fad rfl rfl ?_ | refine r_pickT rfl rfl rfl ?_ | refine r_sem rfl rfl rfl rfl ?_)
  repeat (first
    | refine r_call rfl (c11) ?_ | refine r_mv_p rfl ?_ | refine r_doA rfl ?_ | refine r_fad rfl rfl ?_ | refine r_pickT rfl rfl rfl ?_ | refine r_sem rfl rfl rfl rfl ?_)
  repeat (first
    | refine r_call rfl (c12) ?_ | refine r_mv_p rfl ?_ | refine r_doA rfl ?_ | refine r_fad rfl rfl ?_ | refine r_pickT rfl rfl rfl ?_ | refine r_sem rfl rfl rfl rfl ?_)
  repeat (first
    | refine r_call rfl (c13) ?_ | refine r_mv_p rfl ?_ | refine r_doA rfl ?_ | refine r_fad rfl rfl ?_ | refine r_pickT rfl rfl rfl ?_ | refine r_sem rfl rfl rfl rfl ?_ | refine r_nil ?_
    | refine run_ret ?_ | refine fin_seq ?_)
  exact fin_out rfl (by rw [hd])
set_option maxHeartbeats 16000000 in
theorem kept_ok (h : House) (hx : h.Ok) (hs : h.small = true) : Ret Try.prog 43 [.agg h.lent.enc, .agg h.enc] (.v (.bool true)) := by
  refine ret43 rfl fun hbd => ?_
  obtain ⟨l0, l1, l2, l3, l4, l5, l6, l7, l8, l9, l10, l11, l12, l13⟩ := small_lens hs
  have hsame := same_ok h.lent h (House.lent_ok hx) (SameH.lent h)
  have k0 : (h.items.xs.map Item.enc ++ [beh0])[(h.items.xs.map Item.enc).length]? = some beh0 := by simp
  have m0 : (h.items.xs.map Item.enc).length = h.items.xs.length := List.length_map ..
  have k1 : (h.lots.xs.map Lot.enc ++ [beh1])[(h.lots.xs.map Lot.enc).length]? = some beh1 := by simp
  have m1 : (h.lots.xs.map Lot.enc).length = h.lots.xs.length := List.length_map ..
  have k2 : (h.zones.xs.map Zone.enc ++ [beh2])[(h.zones.xs.map Zone.enc).length]? = some beh2 := by simp
  have m2 : (h.zones.xs.map Zone.enc).length = h.zones.xs.length := List.length_map ..
  have k3 : (h.bins.xs.map Bin.enc ++ [beh3])[(h.bins.xs.map Bin.enc).length]? = some beh3 := by simp
  have m3 : (h.bins.xs.map Bin.enc).length = h.bins.xs.length := List.length_map ..
  have k4 : (h.quants.xs.map Quant.enc ++ [beh4])[(h.quants.xs.map Quant.enc).length]? = some beh4 := by simp
  have m4 : (h.quants.xs.map Quant.enc).length = h.quants.xs.length := List.length_map ..
  have k5 : (h.rules.xs.map rowEnc ++ [beh5])[(h.rules.xs.map rowEnc).length]? = some beh5 := by simp
  have m5 : (h.rules.xs.map rowEnc).length = h.rules.xs.length := List.length_map ..
  have k6 : (h.notices.xs.map rowEnc ++ [beh6])[(h.notices.xs.map rowEnc).length]? = some beh6 := by simp
  have m6 : (h.notices.xs.map rowEnc).length = h.notices.xs.length := List.length_map ..
  have k7 : (h.orders.xs.map rowEnc ++ [beh7])[(h.orders.xs.map rowEnc).length]? = some beh7 := by simp
  have m7 : (h.orders.xs.map rowEnc).length = h.orders.xs.length := List.length_map ..
  have k8 : (h.claims.xs.map rowEnc ++ [beh8])[(h.claims.xs.map rowEnc).length]? = some beh8 := by simp
  have m8 : (h.claims.xs.map rowEnc).length = h.claims.xs.length := List.length_map ..
  have k9 : (h.tasks.xs.map rowEnc ++ [beh9])[(h.tasks.xs.map rowEnc).length]? = some beh9 := by simp
  have m9 : (h.tasks.xs.map rowEnc).length = h.tasks.xs.length := List.length_map ..
  have k10 : (h.parcels.xs.map rowEnc ++ [beh10])[(h.parcels.xs.map rowEnc).length]? = some beh10 := by simp
  have m10 : (h.parcels.xs.map rowEnc).length = h.parcels.xs.length := List.length_map ..
  have k11 : (h.sent.xs.map rowEnc ++ [beh11])[(h.sent.xs.map rowEnc).length]? = some beh11 := by simp
  have m11 : (h.sent.xs.map rowEnc).length = h.sent.xs.length := List.length_map ..
  have k12 : (h.counted.xs.map rowEnc ++ [beh12])[(h.counted.xs.map rowEnc).length]? = some beh12 := by simp
  have m12 : (h.counted.xs.map rowEnc).length = h.counted.xs.length := List.length_map ..
  have k13 : (h.totals.xs.map rowEnc ++ [beh13])[(h.totals.xs.map rowEnc).length]? = some beh13 := by simp
  have m13 : (h.totals.xs.map rowEnc).length = h.totals.xs.length := List.length_map ..
  unfold c43
  repeat (first
    | refine r_call rfl (hsame) ?_ | refine r_slcK rfl rfl ?_ | refine r_mv_p rfl ?_ | refine r_doA rfl ?_ | refine r_fad rfl rfl ?_ | refine r_addA rfl rfl ?_ | refine r_loadB rfl rfl ?_
    | refine r_pickT rfl rfl rfl ?_ | refine r_sem rfl rfl rfl rfl ?_ | refine r_nil ?_ | refine r_iadA rfl rfl ?_ | refine r_box rfl rfl rfl ?_ | refine run_seq ?_ | refine run_reg ?_
    | refine run_regd rfl ?_ | refine run_ret ?_ | refine fin_seq ?_)
  exact fin_out rfl rfl
end Go.Fw
