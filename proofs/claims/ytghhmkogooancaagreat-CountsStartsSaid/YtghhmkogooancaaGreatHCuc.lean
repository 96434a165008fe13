/-
  Counts: the laws CountsStarts and CountsNotes.
-/
import Derived.Test.YtghhmkogooancaaGreatHCua
import Derived.Test.YtghhmkogooancaaGreatHCub
import Derived.Test.YtghhmkogooancaaGreatHCs
import Derived.Test.YtghhmkogooancaaGreatIrI
set_option linter.unusedVariables false
set_option linter.unusedSimpArgs false
set_option maxRecDepth 10000
namespace Go.Fw
open Go.Proofs

theorem law_CountsStarts (h : House) (hx : h.Ok) (c : Str) : Ret Tryz.prog 6 [.agg h.enc, .v (.string c)] (.v (.bool true)) := by
  refine ret6 rfl fun hbd => ?_
  unfold c6
  repeat (first
    | refine r_call rfl (small_ok h) ?_ | refine r_mv_p rfl ?_ | refine r_loadB rfl rfl ?_ | refine r_sem rfl rfl rfl rfl ?_ | refine r_nil ?_ | refine r_box rfl rfl rfl ?_
    | refine run_seq ?_ | refine run_reg ?_ | refine fin_seq ?_)
  refine run_cond rfl (fun h1 => ?_) (fun h1 => ?_)
  · repeat (first
      | refine r_call rfl (awake10) ?_ | refine r_mv_p rfl ?_ | refine r_nil ?_ | refine run_seq ?_ | refine run_reg ?_ | refine run_ret ?_ | refine fin_seq ?_ | refine fin_seq_r ?_)
    exact fin_out rfl rfl
  have hs : h.small = true := by simpa using h1
  have hf := few_small hs
  obtain ⟨g, k, e, c1, c2, c3⟩ := two (count12 h.lent c (big80 (Nat.le_trans hf.bins (by decide))) (big64 (Nat.le_trans hf.counted (by decide)))) (refCount13 h c (big80 (Nat.le_trans hf.bins (by decide))) (big64 (Nat.le_trans hf.counted (by decide)))) (count_same (SameH.lent h) c true) (count_ok (House.lent_ok hx) c true)
  have ck := kept_ok h hx hs
  have he : decide (e = e) = true := by simp
  repeat (first
    | refine r_call rfl (lent_ok h hx hs) ?_ | refine r_call rfl (c1) ?_ | refine r_call rfl (c2) ?_ | refine r_call rfl (c3) ?_ | refine r_call rfl (ck) ?_
    | refine r_call rfl (awake10) ?_ | refine r_mv_p rfl ?_ | refine r_doA rfl ?_ | refine r_loadB rfl rfl ?_ | refine r_pickT rfl rfl rfl ?_ | refine r_sem rfl rfl rfl rfl ?_
    | refine r_nil ?_ | refine r_storeAll rfl rfl rfl rfl rfl rfl ?_ | refine r_alloc rfl ?_ | refine run_seq ?_ | refine run_reg ?_ | refine run_skip ?_ | refine run_ret ?_
    | refine fin_seq ?_)
  exact fin_out rfl rfl
theorem law_CountsNotes (h : House) (hx : h.Ok) (x : Counted) : Ret Tryz.prog 7 [.agg h.enc, .agg x.enc] (.v (.bool true)) := by
  refine ret7 rfl fun hbd => ?_
  unfold c7
  repeat (first
    | refine r_call rfl (small_ok h) ?_ | refine r_mv_p rfl ?_ | refine r_loadB rfl rfl ?_ | refine r_sem rfl rfl rfl rfl ?_ | refine r_nil ?_ | refine r_box rfl rfl rfl ?_
    | refine run_seq ?_ | refine run_reg ?_ | refine fin_seq ?_)
  refine run_cond rfl (fun h1 => ?_) (fun h1 => ?_)
  · repeat (first
      | refine r_call rfl (awake10) ?_ | refine r_mv_p rfl ?_ | refine r_nil ?_ | refine run_seq ?_ | refine run_reg ?_ | refine run_ret ?_ | refine fin_seq ?_ | refine fin_seq_r ?_)
    exact fin_out rfl rfl
  have hs : h.small = true := by simpa using h1
  have hf := few_small hs
  obtain ⟨g, k, e, c1, c2, c3⟩ := two (record15 h.lent x.key x.qty (big64 (Nat.le_trans hf.counted (by decide)))) (refRecord16 h x.key x.qty (big64 (Nat.le_trans hf.counted (by decide)))) (record_same (SameH.lent h) x.key x.qty) (record_ok (House.lent_ok hx) x.key x.qty)
  have ck := kept_ok h hx hs
  have he : decide (e = e) = true := by simp
  repeat (first
    | refine r_call rfl (lent_ok h hx hs) ?_ | refine r_call rfl (c1) ?_ | refine r_call rfl (c2) ?_ | refine r_call rfl (c3) ?_ | refine r_call rfl (ck) ?_
    | refine r_call rfl (awake10) ?_ | refine r_mv_p rfl ?_ | refine r_doA rfl ?_ | refine r_fad rfl rfl ?_ | refine r_loadB rfl rfl ?_ | refine r_pickT rfl rfl rfl ?_
    | refine r_sem rfl rfl rfl rfl ?_ | refine r_nil ?_ | refine r_storeAll rfl rfl rfl rfl rfl rfl ?_ | refine r_alloc rfl ?_ | refine run_seq ?_ | refine run_reg ?_ | refine run_skip ?_
    | refine run_ret ?_ | refine fin_seq ?_)
  exact fin_out rfl rfl
end Go.Fw
