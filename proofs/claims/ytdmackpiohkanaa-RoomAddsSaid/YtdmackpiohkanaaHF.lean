/-
  The laws of lots.
-/
import Derived.Test.YtdmackpiohkanaaHE
import Derived.Test.YtdmackpiohkanaaIrB
set_option linter.unusedVariables false
set_option linter.unusedSimpArgs false
set_option maxRecDepth 10000
namespace Go.Fw
open Go.Proofs

def Ls.nil {α : Type} : Ls α := ⟨[], []⟩
def House.zero : House := ⟨.nil, .nil, .nil, .nil, .nil, .nil, .nil, .nil, .nil, .nil, .nil, .nil, .nil, .nil, 0⟩
def nut : Str := ⟨#[110, 117, 116]⟩
def House.small9 : House := { House.zero with items := ⟨[{ Item.zero with code := nut, lots := true }], []⟩, lots := ⟨[⟨nut, ⟨#[97]⟩, 30⟩], []⟩ }
theorem small9 : Ret Try.prog 70 [] (.agg House.small9.enc) := by
  refine ret70 rfl fun hbd => ?_
  unfold c70
  repeat (first
    | refine r_sem rfl rfl rfl rfl ?_ | refine r_nil ?_ | refine r_storeAll rfl rfl rfl rfl rfl rfl ?_ | refine r_alloc rfl ?_ | refine r_bsl rfl rfl rfl rfl rfl rfl ?_
    | refine r_semF rfl rfl rfl rfl ?_ | refine run_seq ?_ | refine run_reg ?_ | refine run_ret ?_ | refine fin_seq ?_)
  exact fin_out rfl rfl
theorem awake9 : Ret Try.prog 29 [] (.v (.bool true)) := by
  refine ret29 rfl fun hbd => ?_
  unfold c29
  repeat (first
    | refine r_call rfl (small9) ?_ | refine r_call rfl (lotsFits House.small9 _ _ _) ?_ | refine r_call rfl (lotsDay House.small9 _ _) ?_ | refine r_mv_p rfl ?_ | refine r_doA rfl ?_
    | refine r_loadB rfl rfl ?_ | refine r_pickT rfl rfl rfl ?_ | refine r_sem rfl rfl rfl rfl ?_ | refine r_nil ?_ | refine r_storeAll rfl rfl rfl rfl rfl rfl ?_ | refine r_alloc rfl ?_
    | refine run_seq ?_ | refine run_reg ?_ | refine run_ret ?_ | refine fin_seq ?_)
  exact fin_out rfl rfl

theorem law_LotsDays (h : House) (i c : Str) : Ret Try.prog 4 [.agg h.enc, .v (.string i), .v (.string c)] (.v (.bool true)) := by
  refine ret4 rfl fun hbd => ?_
  unfold c4
  repeat (first
    | refine r_call rfl (small_ok h) ?_ | refine r_mv_p rfl ?_ | refine r_loadB rfl rfl ?_ | refine r_sem rfl rfl rfl rfl ?_ | refine r_nil ?_ | refine r_box rfl rfl rfl ?_
    | refine run_seq ?_ | refine run_reg ?_ | refine fin_seq ?_)
  refine run_cond rfl (fun h1 => ?_) (fun h1 => ?_)
  · repeat (first
      | refine r_call rfl (awake9) ?_ | refine r_mv_p rfl ?_ | refine r_nil ?_ | refine run_seq ?_ | refine run_reg ?_ | refine run_ret ?_ | refine fin_seq ?_ | refine fin_seq_r ?_)
    exact fin_out rfl rfl
  have h2 : decide (h.day i c = h.day i c) = true := by simp
  repeat (first
    | refine r_call rfl (lotsDay h i c) ?_ | refine r_call rfl (refDay h i c) ?_ | refine r_call rfl (awake9) ?_ | refine r_mv_p rfl ?_ | refine r_doA rfl ?_ | refine r_loadB rfl rfl ?_
    | refine r_pickT rfl rfl rfl ?_ | refine r_sem rfl rfl rfl rfl ?_ | refine r_nil ?_ | refine run_seq ?_ | refine run_regd rfl ?_ | refine run_skip ?_ | refine run_ret ?_
    | refine fin_seq ?_)
  exact fin_out rfl rfl

theorem law_LotsMay (h : House) (x : Lot) (qty : Int) : Ret Try.prog 5 [.agg h.enc, .agg x.enc, .v (.int .i64 qty)] (.v (.bool true)) := by
  refine ret5 rfl fun hbd => ?_
  unfold c5
  repeat (first
    | refine r_call rfl (small_ok h) ?_ | refine r_mv_p rfl ?_ | refine r_loadB rfl rfl ?_ | refine r_sem rfl rfl rfl rfl ?_ | refine r_nil ?_ | refine r_box rfl rfl rfl ?_
    | refine run_seq ?_ | refine run_reg ?_ | refine fin_seq ?_)
  refine run_cond rfl (fun h1 => ?_) (fun h1 => ?_)
  · repeat (first
      | refine r_call rfl (awake9) ?_ | refine r_mv_p rfl ?_ | refine r_nil ?_ | refine run_seq ?_ | refine run_reg ?_ | refine run_ret ?_ | refine fin_seq ?_ | refine fin_seq_r ?_)
    exact fin_out rfl rfl
  have h2 : decide (h.fits x.item x.code qty = h.fits x.item x.code qty) = true := by simp
  repeat (first
    | refine r_call rfl (lotsFits h x.item x.code qty) ?_ | refine r_call rfl (refFits h x.item x.code qty) ?_ | refine r_call rfl (awake9) ?_ | refine r_mv_p rfl ?_ | refine r_doA rfl ?_
    | refine r_fad rfl rfl ?_ | refine r_loadB rfl rfl ?_ | refine r_pickT rfl rfl rfl ?_ | refine r_sem rfl rfl rfl rfl ?_ | refine r_nil ?_ | refine run_seq ?_ | refine run_regd rfl ?_
    | refine run_skip ?_ | refine run_ret ?_ | refine fin_seq ?_)
  exact fin_out rfl rfl
end Go.Fw
