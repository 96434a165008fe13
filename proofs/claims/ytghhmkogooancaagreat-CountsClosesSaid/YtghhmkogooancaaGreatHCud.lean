/-
  Counts: the laws CountsCloses and CountsDo.
-/
import Derived.Test.YtghhmkogooancaaGreatHCua
import Derived.Test.YtghhmkogooancaaGreatHCub
import Derived.Test.YtghhmkogooancaaGreatHCt
import Derived.Test.YtghhmkogooancaaGreatHCs
import Derived.Test.YtghhmkogooancaaGreatIrJ
set_option linter.unusedVariables false
set_option linter.unusedSimpArgs false
set_option maxRecDepth 10000
namespace Go.Fw
open Go.Proofs

theorem few_lent {h : House} (hs : h.small = true) : Few h.lent 400 := ⟨(few_small hs).quants, (few_small hs).totals, (few_small hs).bins, (few_small hs).counted⟩
theorem law_CountsCloses (h : House) (hx : h.Ok) (c r : Str) : Ret Tryz.prog 8 [.agg h.enc, .v (.string c), .v (.string r)] (.v (.bool true)) := by
  refine ret8 rfl fun hbd => ?_
  unfold c8
  repeat (first
    | refine r_call rfl (small_ok h) ?_ | refine r_mv_p rfl ?_ | refine r_loadB rfl rfl ?_ | refine r_sem rfl rfl rfl rfl ?_ | refine r_nil ?_ | refine r_box rfl rfl rfl ?_
    | refine run_seq ?_ | refine run_reg ?_ | refine fin_seq ?_)
  refine run_cond rfl (fun h1 => ?_) (fun h1 => ?_)
  · repeat (first
      | refine r_call rfl (awake10) ?_ | refine r_mv_p rfl ?_ | refine r_nil ?_ | refine run_seq ?_ | refine run_reg ?_ | refine run_ret ?_ | refine fin_seq ?_ | refine fin_seq_r ?_)
    exact fin_out rfl rfl
  have hs : h.small = true := by simpa using h1
  obtain ⟨g, k, e, c1, c2, c3⟩ := two (close17 h.lent c r (few_lent hs)) (refClose18 h c r (few_small hs)) (close_same (SameH.lent h) c r) (close_ok (House.lent_ok hx) c r)
  have ck := kept_ok h hx hs
  have he : decide (e = e) = true := by simp
  repeat (first
    | refine r_call rfl (lent_ok h hx hs) ?_ | refine r_call rfl (c1) ?_ | refine r_call rfl (c2) ?_ | refine r_call rfl (c3) ?_ | refine r_call rfl (ck) ?_
    | refine r_call rfl (awake10) ?_ | refine r_mv_p rfl ?_ | refine r_doA rfl ?_ | refine r_loadB rfl rfl ?_ | refine r_pickT rfl rfl rfl ?_ | refine r_sem rfl rfl rfl rfl ?_
    | refine r_nil ?_ | refine r_storeAll rfl rfl rfl rfl rfl rfl ?_ | refine r_alloc rfl ?_ | refine run_seq ?_ | refine run_reg ?_ | refine run_skip ?_ | refine run_ret ?_
    | refine fin_seq ?_)
  exact fin_out rfl rfl
set_option maxHeartbeats 16000000 in
theorem law_CountsDo (h : House) (hx : h.Ok) (x : Counted) (r : Str) : Ret Tryz.prog 3 [.agg h.enc, .agg x.enc, .v (.string r)] (.v (.bool true)) := by
  refine ret3 rfl fun hbd => ?_
  unfold c3
  repeat (first
    | refine r_call rfl (small_ok h) ?_ | refine r_mv_p rfl ?_ | refine r_loadB rfl rfl ?_ | refine r_sem rfl rfl rfl rfl ?_ | refine r_nil ?_ | refine r_box rfl rfl rfl ?_
    | refine run_seq ?_ | refine run_reg ?_ | refine fin_seq ?_)
  refine run_cond rfl (fun h1 => ?_) (fun h1 => ?_)
  · repeat (first
      | refine r_call rfl (awake10) ?_ | refine r_mv_p rfl ?_ | refine r_nil ?_ | refine run_seq ?_ | refine run_reg ?_ | refine run_ret ?_ | refine fin_seq ?_ | refine fin_seq_r ?_)
    exact fin_out rfl rfl
  have hs : h.small = true := by simpa using h1
  have hf := few_small hs
  obtain ⟨g1, k1, e1, a1, a2, a3⟩ := two (count12 h.lent x.bin (big80 (Nat.le_trans hf.bins (by decide))) (big64 (Nat.le_trans hf.counted (by decide)))) (refCount13 h x.bin (big80 (Nat.le_trans hf.bins (by decide))) (big64 (Nat.le_trans hf.counted (by decide)))) (count_same (SameH.lent h) x.bin true) (count_ok (House.lent_ok hx) x.bin true)
  obtain ⟨g2, k2, e2, b1, b2, b3⟩ := two (record15 h.lent x.key x.qty (big64 (Nat.le_trans hf.counted (by decide)))) (refRecord16 h x.key x.qty (big64 (Nat.le_trans hf.counted (by decide)))) (record_same (SameH.lent h) x.key x.qty) (record_ok (House.lent_ok hx) x.key x.qty)
  obtain ⟨g3, k3, e3, c1, c2, c3⟩ := two (close17 h.lent x.bin r (few_lent hs)) (refClose18 h x.bin r (few_small hs)) (close_same (SameH.lent h) x.bin r) (close_ok (House.lent_ok hx) x.bin r)
  obtain ⟨g4, k4, e4, d1, d2, d3⟩ := two (count19 h.lent x.bin (big80 (Nat.le_trans hf.bins (by decide))) (big64 (Nat.le_trans hf.counted (by decide)))) (refCount20 h x.bin (big80 (Nat.le_trans hf.bins (by decide))) (big64 (Nat.le_trans hf.counted (by decide)))) (count_same (SameH.lent h) x.bin false) (count_ok (House.lent_ok hx) x.bin false)
  have ck := kept_ok h hx hs
  have he1 : (!decide (e1 = e1)) = false := by simp
  have he2 : (!decide (e2 = e2)) = false := by simp
  have he3 : (!decide (e3 = e3)) = false := by simp
  have he4 : decide (e4 = e4) = true := by simp
  repeat (first
    | refine r_call rfl (lent_ok h hx hs) ?_ | refine r_call rfl (a1) ?_ | refine r_call rfl (a2) ?_ | refine r_call rfl (a3) ?_ | refine r_call rfl (b1) ?_ | refine r_call rfl (b2) ?_
    | refine r_call rfl (b3) ?_ | refine r_mv_p rfl ?_ | refine r_doA rfl ?_ | refine r_fad rfl rfl ?_ | refine r_loadB rfl rfl ?_ | refine r_pickF rfl rfl rfl ?_
    | refine r_sem rfl rfl rfl rfl ?_ | refine r_nil ?_ | refine r_storeAll rfl rfl rfl rfl rfl rfl ?_ | refine r_alloc rfl ?_ | refine run_seq ?_ | refine run_reg ?_ | refine run_skip ?_
    | refine fin_seq ?_ | refine run_condF rfl ?_)
  repeat (first
    | refine r_call rfl (c1) ?_ | refine r_call rfl (c2) ?_ | refine r_call rfl (c3) ?_ | refine r_call rfl (d1) ?_ | refine r_call rfl (d2) ?_ | refine r_call rfl (d3) ?_
    | refine r_call rfl (ck) ?_ | refine r_call rfl (awake10) ?_ | refine r_mv_p rfl ?_ | refine r_doA rfl ?_ | refine r_fad rfl rfl ?_ | refine r_loadB rfl rfl ?_
    | refine r_pickT rfl rfl rfl ?_ | refine r_pickF rfl rfl rfl ?_ | refine r_sem rfl rfl rfl rfl ?_ | refine r_nil ?_ | refine r_storeAll rfl rfl rfl rfl rfl rfl ?_ | refine run_seq ?_
    | refine run_reg ?_ | refine run_skip ?_ | refine run_ret ?_ | refine fin_seq ?_ | refine run_condF rfl ?_)
  exact fin_out rfl rfl
end Go.Fw
