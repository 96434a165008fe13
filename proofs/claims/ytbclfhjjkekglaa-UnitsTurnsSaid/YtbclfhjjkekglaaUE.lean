/-
  The laws of units: UnitsBases, UnitsAdds, UnitsBack.
-/
import Derived.Test.YtbclfhjjkekglaaUD
import Derived.Test.YtbclfhjjkekglaaIrB
set_option linter.unusedVariables false
set_option linter.unusedSimpArgs false
set_option maxRecDepth 10000
namespace Go.Fw
open Go.Proofs

set_option maxHeartbeats 4000000 in
theorem law_UnitsBases (x : It) (unit : Str) (n : Int) : Ret Try.prog 6 [.agg x.enc, .v (.string unit), .v (.int .i64 n)] (.v (.bool true)) := by
  refine ret6 rfl fun hbd => ?_
  have h9 := refBase9 x unit n
  rw [baseF_ref] at h9
  obtain ⟨⟨a, e⟩, hp⟩ : ∃ p, p = baseF (known x.us) unit n := ⟨_, rfl⟩
  have h8 := base8 x unit n
  rw [← hp] at h8 h9
  replace h8 : Ret Try.prog 8 [.agg x.enc, .v (.string unit), .v (.int .i64 n)] (.tup [.v (.int .i64 a), .v (.int .i64 e)]) := h8
  replace h9 : Ret Try.prog 9 [.agg x.enc, .v (.string unit), .v (.int .i64 n)] (.tup [.v (.int .i64 a), .v (.int .i64 e)]) := h9
  have h1 : decide (a = a) = true := by simp
  have h2 : decide (e = e) = true := by simp
  unfold c6
  repeat (first
    | refine r_call rfl (h8) ?_
    | refine r_call rfl (h9) ?_
    | refine r_call rfl (awake13) ?_
    | refine r_mv_p rfl ?_
    | refine r_do rfl (by first | with_reducible rfl | assumption | decide) ?_
    | refine r_skip rfl (by first | with_reducible rfl | assumption | decide) ?_
    | refine r_skipU rfl ?_
    | refine r_fad rfl rfl ?_
    | refine r_add rfl rfl (by omega) ?_
    | refine r_sub rfl rfl (by omega) ?_
    | refine r_loadAll rfl (by first | rfl | assumption) ?_
    | refine r_loadAllB rfl rfl (by first | rfl | assumption) ?_
    | refine r_pick_t rfl (by first | with_reducible rfl | assumption | decide) rfl rfl ?_
    | refine r_pick_f rfl (by first | with_reducible rfl | assumption | decide) rfl rfl ?_
    | refine r_sem rfl rfl rfl rfl ?_
    | refine r_nil ?_
    | refine r_iad rfl rfl (by omega) (by assumption) (by first | rfl | assumption | omega | (simp; done) | (simp; omega)) ?_
    | refine r_storeAll rfl rfl rfl rfl rfl rfl ?_
    | refine r_store rfl rfl rfl rfl (by decide) ?_
    | refine r_alloc rfl ?_
    | refine r_box rfl rfl rfl ?_
    | refine r_bsl rfl rfl rfl rfl rfl rfl ?_
    | refine r_bsl1 rfl (by assumption) rfl ?_
    | refine r_mkmap rfl ?_
    | refine r_mv_nil rfl ?_
    | refine r_mv_own rfl rfl ?_
    | refine r_mv_mp rfl rfl ?_
    | refine r_mv_row rfl rfl (by first | rfl | assumption | omega | (simp; done) | (simp; omega)) ?_
    | refine r_mv_rp rfl rfl (by first | rfl | assumption | omega | (simp; done) | (simp; omega)) ?_
    | refine r_fad_rp rfl rfl (by first | rfl | assumption | omega | (simp; done) | (simp; omega)) ?_
    | refine r_iad_row rfl rfl (by first | rfl | assumption | omega | (simp; done) | (simp; omega)) rfl (by first | rfl | assumption | omega | (simp; done) | (simp; omega)) ?_
    | refine r_skip0 rfl (by first | with_reducible rfl | assumption | decide) ?_
    | refine r_skipU0 rfl ?_
    | refine r_semF rfl rfl rfl rfl ?_
    | refine r_load_rp rfl rfl (by assumption) rfl ?_
    | refine r_len_row rfl rfl (by first | rfl | assumption | omega | (simp; done) | (simp; omega)) ?_
    | refine run_seq ?_
    | refine run_reg ?_
    | refine run_regd rfl ?_
    | refine run_block ?_
    | refine run_skip ?_
    | refine run_exit ?_
    | refine run_ret ?_
    | refine fin_seq ?_
    | refine fin_seq_e ?_
    | refine fin_seq_r ?_
    | refine fin_blk ?_
    | refine fin_blk_e ?_
    | refine fin_blk_x rfl ?_
    | refine fin_blk_r ?_
    | refine fin_loop_e ?_
    | refine fin_loop_r ?_
    | refine run_cond_t rfl (by first | with_reducible rfl | assumption | decide) ?_
    | refine run_cond_f rfl (by first | with_reducible rfl | assumption | decide) ?_)
  exact fin_out rfl rfl

/-! ### UnitsAdds -/
theorem baseF_ok {l : List U} {unit : Str} {n : Int} (h : (baseF l unit n).2 = 0) : ∃ u, l.find? (nmQ unit) = some u ∧ 1 ≤ n ∧ n ≤ 1000000000 / u.f ∧ (baseF l unit n).1 = n * u.f := by
  unfold baseF at h ⊢
  cases hf : l.find? (nmQ unit) with
  | none => simp [hf] at h
  | some u =>
    simp only [hf] at h ⊢
    split at h
    · cases h
    · rename_i h1
      split at h
      · cases h
      · rename_i h2
        exact ⟨u, rfl, by omega, by omega, by simp [h1, h2]⟩
set_option maxHeartbeats 4000000 in
theorem law_UnitsAdds (x : It) (unit : Str) (m n : Int) : Ret Try.prog 5 [.agg x.enc, .v (.string unit), .agg [.v (.int .i64 m), .v (.int .i64 n)]] (.v (.bool true)) := by
  refine ret5 rfl fun hbd => ?_
  obtain ⟨⟨a, e⟩, hp⟩ : ∃ p, p = baseF (known x.us) unit m := ⟨_, rfl⟩
  obtain ⟨⟨b, f⟩, hq⟩ : ∃ p, p = baseF (known x.us) unit n := ⟨_, rfl⟩
  have h1 := base8 x unit m
  have h2 := base8 x unit n
  rw [← hp] at h1
  rw [← hq] at h2
  replace h1 : Ret Try.prog 8 [.agg x.enc, .v (.string unit), .v (.int .i64 m)] (.tup [.v (.int .i64 a), .v (.int .i64 e)]) := h1
  replace h2 : Ret Try.prog 8 [.agg x.enc, .v (.string unit), .v (.int .i64 n)] (.tup [.v (.int .i64 b), .v (.int .i64 f)]) := h2
  unfold c5
  cases he : (!decide (e = 0)) with
  | true =>
    repeat (first
      | refine r_aad rfl rfl rfl (by decide) ?_
      | refine r_call rfl (h1) ?_
      | refine r_call rfl (h2) ?_
      | refine r_call rfl (awake13) ?_
      | refine r_mv_p rfl ?_
      | refine r_do rfl (by first | with_reducible rfl | assumption | decide) ?_
      | refine r_skip rfl (by first | with_reducible rfl | assumption | decide) ?_
      | refine r_skipU rfl ?_
      | refine r_fad rfl rfl ?_
      | refine r_add rfl rfl (by omega) ?_
      | refine r_sub rfl rfl (by omega) ?_
      | refine r_loadAll rfl (by first | rfl | assumption) ?_
      | refine r_loadAllB rfl rfl (by first | rfl | assumption) ?_
      | refine r_pick_t rfl (by first | with_reducible rfl | assumption | decide) rfl rfl ?_
      | refine r_pick_f rfl (by first | with_reducible rfl | assumption | decide) rfl rfl ?_
      | refine r_sem rfl rfl rfl rfl ?_
      | refine r_nil ?_
      | refine r_iad rfl rfl (by omega) (by assumption) (by first | rfl | assumption | omega | (simp; done) | (simp; omega)) ?_
      | refine r_storeAll rfl rfl rfl rfl rfl rfl ?_
      | refine r_store rfl rfl rfl rfl (by decide) ?_
      | refine r_alloc rfl ?_
      | refine r_box rfl rfl rfl ?_
      | refine r_bsl rfl rfl rfl rfl rfl rfl ?_
      | refine r_bsl1 rfl (by assumption) rfl ?_
      | refine r_mkmap rfl ?_
      | refine r_mv_nil rfl ?_
      | refine r_mv_own rfl rfl ?_
      | refine r_mv_mp rfl rfl ?_
      | refine r_mv_row rfl rfl (by first | rfl | assumption | omega | (simp; done) | (simp; omega)) ?_
      | refine r_mv_rp rfl rfl (by first | rfl | assumption | omega | (simp; done) | (simp; omega)) ?_
      | refine r_fad_rp rfl rfl (by first | rfl | assumption | omega | (simp; done) | (simp; omega)) ?_
      | refine r_iad_row rfl rfl (by first | rfl | assumption | omega | (simp; done) | (simp; omega)) rfl (by first | rfl | assumption | omega | (simp; done) | (simp; omega)) ?_
      | refine r_skip0 rfl (by first | with_reducible rfl | assumption | decide) ?_
      | refine r_skipU0 rfl ?_
      | refine r_semF rfl rfl rfl rfl ?_
      | refine r_load_rp rfl rfl (by assumption) rfl ?_
      | refine r_len_row rfl rfl (by first | rfl | assumption | omega | (simp; done) | (simp; omega)) ?_
      | refine run_seq ?_
      | refine run_reg ?_
      | refine run_regd rfl ?_
      | refine run_block ?_
      | refine run_skip ?_
      | refine run_exit ?_
      | refine run_ret ?_
      | refine fin_seq ?_
      | refine fin_seq_e ?_
      | refine fin_seq_r ?_
      | refine fin_blk ?_
      | refine fin_blk_e ?_
      | refine fin_blk_x rfl ?_
      | refine fin_blk_r ?_
      | refine fin_loop_e ?_
      | refine fin_loop_r ?_
      | refine run_cond_t rfl (by first | with_reducible rfl | assumption | decide) ?_
      | refine run_cond_f rfl (by first | with_reducible rfl | assumption | decide) ?_)
    exact fin_out rfl rfl
  | false =>
    cases hf : (!decide (f = 0)) with
    | true =>
      repeat (first
        | refine r_aad rfl rfl rfl (by decide) ?_
        | refine r_call rfl (h1) ?_
        | refine r_call rfl (h2) ?_
        | refine r_call rfl (awake13) ?_
        | refine r_mv_p rfl ?_
        | refine r_do rfl (by first | with_reducible rfl | assumption | decide) ?_
        | refine r_skip rfl (by first | with_reducible rfl | assumption | decide) ?_
        | refine r_skipU rfl ?_
        | refine r_fad rfl rfl ?_
        | refine r_add rfl rfl (by omega) ?_
        | refine r_sub rfl rfl (by omega) ?_
        | refine r_loadAll rfl (by first | rfl | assumption) ?_
        | refine r_loadAllB rfl rfl (by first | rfl | assumption) ?_
        | refine r_pick_t rfl (by first | with_reducible rfl | assumption | decide) rfl rfl ?_
        | refine r_pick_f rfl (by first | with_reducible rfl | assumption | decide) rfl rfl ?_
        | refine r_sem rfl rfl rfl rfl ?_
        | refine r_nil ?_
        | refine r_iad rfl rfl (by omega) (by assumption) (by first | rfl | assumption | omega | (simp; done) | (simp; omega)) ?_
        | refine r_storeAll rfl rfl rfl rfl rfl rfl ?_
        | refine r_store rfl rfl rfl rfl (by decide) ?_
        | refine r_alloc rfl ?_
        | refine r_box rfl rfl rfl ?_
        | refine r_bsl rfl rfl rfl rfl rfl rfl ?_
        | refine r_bsl1 rfl (by assumption) rfl ?_
        | refine r_mkmap rfl ?_
        | refine r_mv_nil rfl ?_
        | refine r_mv_own rfl rfl ?_
        | refine r_mv_mp rfl rfl ?_
        | refine r_mv_row rfl rfl (by first | rfl | assumption | omega | (simp; done) | (simp; omega)) ?_
        | refine r_mv_rp rfl rfl (by first | rfl | assumption | omega | (simp; done) | (simp; omega)) ?_
        | refine r_fad_rp rfl rfl (by first | rfl | assumption | omega | (simp; done) | (simp; omega)) ?_
        | refine r_iad_row rfl rfl (by first | rfl | assumption | omega | (simp; done) | (simp; omega)) rfl (by first | rfl | assumption | omega | (simp; done) | (simp; omega)) ?_
        | refine r_skip0 rfl (by first | with_reducible rfl | assumption | decide) ?_
        | refine r_skipU0 rfl ?_
        | refine r_semF rfl rfl rfl rfl ?_
        | refine r_load_rp rfl rfl (by assumption) rfl ?_
        | refine r_len_row rfl rfl (by first | rfl | assumption | omega | (simp; done) | (simp; omega)) ?_
        | refine run_seq ?_
        | refine run_reg ?_
        | refine run_regd rfl ?_
        | refine run_block ?_
        | refine run_skip ?_
        | refine run_exit ?_
        | refine run_ret ?_
        | refine fin_seq ?_
        | refine fin_seq_e ?_
        | refine fin_seq_r ?_
        | refine fin_blk ?_
        | refine fin_blk_e ?_
        | refine fin_blk_x rfl ?_
        | refine fin_blk_r ?_
        | refine fin_loop_e ?_
        | refine fin_loop_r ?_
        | refine run_cond_t rfl (by first | with_reducible rfl | assumption | decide) ?_
        | refine run_cond_f rfl (by first | with_reducible rfl | assumption | decide) ?_)
      exact fin_out rfl rfl
    | false =>
      have he' : e = 0 := by simpa using he
      have hf' : f = 0 := by simpa using hf
      obtain ⟨u, hu, m1, m2, m3⟩ := baseF_ok (l := known x.us) (unit := unit) (n := m) (by rw [← hp]; exact he')
      obtain ⟨u', hu', n1, n2, n3⟩ := baseF_ok (l := known x.us) (unit := unit) (n := n) (by rw [← hq]; exact hf')
      obtain rfl : u = u' := by rw [hu] at hu'; exact Option.some.inj hu'
      rw [← hp] at m3
      rw [← hq] at n3
      simp only at m3 n3
      have hg : 1 ≤ u.f := known_f _ u (List.mem_of_find?_eq_some hu)
      have hm : m * u.f ≤ 1000000000 := Int.mul_le_of_le_ediv (by omega) m2
      have hn : n * u.f ≤ 1000000000 := Int.mul_le_of_le_ediv (by omega) n2
      have hmm : m * 1 ≤ m * u.f := Int.mul_le_mul_of_nonneg_left hg (by omega)
      have hnn : n * 1 ≤ n * u.f := Int.mul_le_mul_of_nonneg_left hg (by omega)
      rw [← m3] at hm hmm
      rw [← n3] at hn hnn
      have hab : (m + n) * u.f = a + b := by rw [Int.add_mul, ← m3, ← n3]
      have h3 := base8 x unit (m + n)
      have hc : baseF (known x.us) unit (m + n) = if 1000000000 < a + b then (0, 10) else (a + b, 0) := by
        unfold baseF
        rw [hu]
        simp only
        rw [if_neg (by omega)]
        by_cases hbig : 1000000000 / u.f < m + n
        · rw [if_pos hbig, if_pos]
          have := (Int.ediv_lt_iff_lt_mul (show 0 < u.f by omega)).1 hbig
          omega
        · rw [if_neg hbig, if_neg, hab]
          have : (m + n) * u.f ≤ 1000000000 := Int.mul_le_of_le_ediv (by omega) (by omega)
          omega
      rw [hc] at h3
      have hs : -9223372036854775808 ≤ m + n ∧ m + n ≤ 9223372036854775807 := by omega
      have hs2 : -9223372036854775808 ≤ a + b ∧ a + b ≤ 9223372036854775807 := by omega
      by_cases hbig : 1000000000 < a + b
      · rw [if_pos hbig] at h3
        replace h3 : Ret Try.prog 8 [.agg x.enc, .v (.string unit), .v (.int .i64 (m + n))] (.tup [.v (.int .i64 0), .v (.int .i64 10)]) := h3
        have hd : decide ((1000000000 : Int) < a + b) = true := decide_eq_true hbig
        repeat (first
          | refine r_aad rfl rfl rfl (by decide) ?_
          | refine r_call rfl (h1) ?_
          | refine r_call rfl (h2) ?_
          | refine r_call rfl (h3) ?_
          | refine r_call rfl (awake13) ?_
          | refine r_mv_p rfl ?_
          | refine r_do rfl (by first | with_reducible rfl | assumption | decide) ?_
          | refine r_skip rfl (by first | with_reducible rfl | assumption | decide) ?_
          | refine r_skipU rfl ?_
          | refine r_fad rfl rfl ?_
          | refine r_add rfl rfl (by omega) ?_
          | refine r_sub rfl rfl (by omega) ?_
          | refine r_loadAll rfl (by first | rfl | assumption) ?_
          | refine r_loadAllB rfl rfl (by first | rfl | assumption) ?_
          | refine r_pick_t rfl (by first | with_reducible rfl | assumption | decide) rfl rfl ?_
          | refine r_pick_f rfl (by first | with_reducible rfl | assumption | decide) rfl rfl ?_
          | refine r_sem rfl rfl rfl rfl ?_
          | refine r_nil ?_
          | refine r_iad rfl rfl (by omega) (by assumption) (by first | rfl | assumption | omega | (simp; done) | (simp; omega)) ?_
          | refine r_storeAll rfl rfl rfl rfl rfl rfl ?_
          | refine r_store rfl rfl rfl rfl (by decide) ?_
          | refine r_alloc rfl ?_
          | refine r_box rfl rfl rfl ?_
          | refine r_bsl rfl rfl rfl rfl rfl rfl ?_
          | refine r_bsl1 rfl (by assumption) rfl ?_
          | refine r_mkmap rfl ?_
          | refine r_mv_nil rfl ?_
          | refine r_mv_own rfl rfl ?_
          | refine r_mv_mp rfl rfl ?_
          | refine r_mv_row rfl rfl (by first | rfl | assumption | omega | (simp; done) | (simp; omega)) ?_
          | refine r_mv_rp rfl rfl (by first | rfl | assumption | omega | (simp; done) | (simp; omega)) ?_
          | refine r_fad_rp rfl rfl (by first | rfl | assumption | omega | (simp; done) | (simp; omega)) ?_
          | refine r_iad_row rfl rfl (by first | rfl | assumption | omega | (simp; done) | (simp; omega)) rfl (by first | rfl | assumption | omega | (simp; done) | (simp; omega)) ?_
          | refine r_skip0 rfl (by first | with_reducible rfl | assumption | decide) ?_
          | refine r_skipU0 rfl ?_
          | refine r_semF rfl rfl rfl rfl ?_
          | refine r_load_rp rfl rfl (by assumption) rfl ?_
          | refine r_len_row rfl rfl (by first | rfl | assumption | omega | (simp; done) | (simp; omega)) ?_
          | refine run_seq ?_
          | refine run_reg ?_
          | refine run_regd rfl ?_
          | refine run_block ?_
          | refine run_skip ?_
          | refine run_exit ?_
          | refine run_ret ?_
          | refine fin_seq ?_
          | refine fin_seq_e ?_
          | refine fin_seq_r ?_
          | refine fin_blk ?_
          | refine fin_blk_e ?_
          | refine fin_blk_x rfl ?_
          | refine fin_blk_r ?_
          | refine fin_loop_e ?_
          | refine fin_loop_r ?_
          | refine run_cond_t rfl (by first | with_reducible rfl | assumption | decide) ?_
          | refine run_cond_f rfl (by first | with_reducible rfl | assumption | decide) ?_)
        exact fin_out rfl rfl
      · rw [if_neg hbig] at h3
        replace h3 : Ret Try.prog 8 [.agg x.enc, .v (.string unit), .v (.int .i64 (m + n))] (.tup [.v (.int .i64 (a + b)), .v (.int .i64 0)]) := h3
        have hd : decide ((1000000000 : Int) < a + b) = false := decide_eq_false hbig
        have hd2 : decide (a + b = a + b) = true := by simp
        have hd3 : decide (m ≤ a) = true := decide_eq_true (by omega)
        repeat (first
          | refine r_aad rfl rfl rfl (by decide) ?_
          | refine r_call rfl (h1) ?_
          | refine r_call rfl (h2) ?_
          | refine r_call rfl (h3) ?_
          | refine r_call rfl (awake13) ?_
          | refine r_mv_p rfl ?_
          | refine r_do rfl (by first | with_reducible rfl | assumption | decide) ?_
          | refine r_skip rfl (by first | with_reducible rfl | assumption | decide) ?_
          | refine r_skipU rfl ?_
          | refine r_fad rfl rfl ?_
          | refine r_add rfl rfl (by omega) ?_
          | refine r_sub rfl rfl (by omega) ?_
          | refine r_loadAll rfl (by first | rfl | assumption) ?_
          | refine r_loadAllB rfl rfl (by first | rfl | assumption) ?_
          | refine r_pick_t rfl (by first | with_reducible rfl | assumption | decide) rfl rfl ?_
          | refine r_pick_f rfl (by first | with_reducible rfl | assumption | decide) rfl rfl ?_
          | refine r_sem rfl rfl rfl rfl ?_
          | refine r_nil ?_
          | refine r_iad rfl rfl (by omega) (by assumption) (by first | rfl | assumption | omega | (simp; done) | (simp; omega)) ?_
          | refine r_storeAll rfl rfl rfl rfl rfl rfl ?_
          | refine r_store rfl rfl rfl rfl (by decide) ?_
          | refine r_alloc rfl ?_
          | refine r_box rfl rfl rfl ?_
          | refine r_bsl rfl rfl rfl rfl rfl rfl ?_
          | refine r_bsl1 rfl (by assumption) rfl ?_
          | refine r_mkmap rfl ?_
          | refine r_mv_nil rfl ?_
          | refine r_mv_own rfl rfl ?_
          | refine r_mv_mp rfl rfl ?_
          | refine r_mv_row rfl rfl (by first | rfl | assumption | omega | (simp; done) | (simp; omega)) ?_
          | refine r_mv_rp rfl rfl (by first | rfl | assumption | omega | (simp; done) | (simp; omega)) ?_
          | refine r_fad_rp rfl rfl (by first | rfl | assumption | omega | (simp; done) | (simp; omega)) ?_
          | refine r_iad_row rfl rfl (by first | rfl | assumption | omega | (simp; done) | (simp; omega)) rfl (by first | rfl | assumption | omega | (simp; done) | (simp; omega)) ?_
          | refine r_skip0 rfl (by first | with_reducible rfl | assumption | decide) ?_
          | refine r_skipU0 rfl ?_
          | refine r_semF rfl rfl rfl rfl ?_
          | refine r_load_rp rfl rfl (by assumption) rfl ?_
          | refine r_len_row rfl rfl (by first | rfl | assumption | omega | (simp; done) | (simp; omega)) ?_
          | refine run_seq ?_
          | refine run_reg ?_
          | refine run_regd rfl ?_
          | refine run_block ?_
          | refine run_skip ?_
          | refine run_exit ?_
          | refine run_ret ?_
          | refine fin_seq ?_
          | refine fin_seq_e ?_
          | refine fin_seq_r ?_
          | refine fin_blk ?_
          | refine fin_blk_e ?_
          | refine fin_blk_x rfl ?_
          | refine fin_blk_r ?_
          | refine fin_loop_e ?_
          | refine fin_loop_r ?_
          | refine run_cond_t rfl (by first | with_reducible rfl | assumption | decide) ?_
          | refine run_cond_f rfl (by first | with_reducible rfl | assumption | decide) ?_)
        exact fin_out rfl rfl

/-! ### UnitsBack -/
/-- How many base units a part is. -/
def kOf (K : List U) (v : U) : Int := (baseF K v.name v.f).1
def sumK (K : List U) (l : List U) : Int := (l.map (kOf K)).sum
theorem sum_append (a b : List Int) : (a ++ b).sum = a.sum + b.sum := by
  induction a with
  | nil => simp
  | cons x a ih => simp only [List.cons_append, List.sum_cons, ih]; omega
theorem foldl_back (K : List U) (hK : ∀ u ∈ K, 1 ≤ u.f ∧ K.find? (nmQ u.name) = some u) (base : Int) : ∀ (l : List U), (∀ u ∈ l, u ∈ K) → ∀ (p : List U × Int), (0 ≤ p.2 ∧ p.2 ≤ 1000000000 ∧ (∀ v ∈ p.1, baseF K v.name v.f = (kOf K v, 0) ∧ 1 ≤ kOf K v) ∧ sumK K p.1 + p.2 = base) →
    (0 ≤ (l.foldl sstep p).2 ∧ (l.foldl sstep p).2 ≤ 1000000000 ∧ (∀ v ∈ (l.foldl sstep p).1, baseF K v.name v.f = (kOf K v, 0) ∧ 1 ≤ kOf K v) ∧ sumK K (l.foldl sstep p).1 + (l.foldl sstep p).2 = base) ∧ ((p.2 = 0 ∨ ∃ u ∈ l, u.f = 1) → (l.foldl sstep p).2 = 0)
  | [], _, p, h => ⟨h, fun h0 => by
    rcases h0 with h0 | ⟨u, hu, _⟩
    · exact h0
    · simp at hu⟩
  | u :: l, hl, p, ⟨h1, h2, h3, h4⟩ => by
    obtain ⟨hf, hfind⟩ := hK u (hl u (by simp))
    have hstep : (0 ≤ (sstep p u).2 ∧ (sstep p u).2 ≤ 1000000000 ∧ (∀ v ∈ (sstep p u).1, baseF K v.name v.f = (kOf K v, 0) ∧ 1 ≤ kOf K v) ∧ sumK K (sstep p u).1 + (sstep p u).2 = base) ∧ ((p.2 = 0 ∨ u.f = 1) → (sstep p u).2 = 0) := by
      by_cases hle : u.f ≤ p.2
      · have he : sstep p u = (p.1 ++ [⟨u.name, p.2 / u.f⟩], p.2 % u.f) := by rw [sstep, if_pos hle]
        have hd1 : 1 ≤ p.2 / u.f := (Int.le_ediv_iff_mul_le (by omega)).2 (by omega)
        have hd2 : p.2 / u.f ≤ 1000000000 / u.f := Int.ediv_le_ediv (by omega) h2
        have hb : baseF K u.name (p.2 / u.f) = (p.2 / u.f * u.f, 0) := by
          unfold baseF
          rw [hfind]
          simp only
          rw [if_neg (by omega), if_neg (by omega)]
        have hk : kOf K ⟨u.name, p.2 / u.f⟩ = p.2 / u.f * u.f := by rw [kOf, hb]
        have hmod := Int.ediv_mul_add_emod p.2 u.f
        have hm0 := Int.emod_nonneg p.2 (show u.f ≠ 0 by omega)
        have hm1 := Int.emod_lt_of_pos p.2 (show 0 < u.f by omega)
        have hpos : 1 * 1 ≤ p.2 / u.f * u.f := Int.mul_le_mul hd1 hf (by omega) (by omega)
        rw [he]
        refine ⟨⟨hm0, by simp only; omega, fun v hv => ?_, ?_⟩, fun h0 => ?_⟩
        · rcases List.mem_append.1 hv with hv | hv
          · exact h3 v hv
          · simp at hv; subst hv
            rw [hk]
            exact ⟨hb, by omega⟩
        · simp only [sumK, List.map_append, sum_append, List.map_cons, List.map_nil, List.sum_cons, List.sum_nil, hk]
          have : sumK K p.1 = (p.1.map (kOf K)).sum := rfl
          omega
        · rcases h0 with h0 | h0
          · omega
          · simp only [h0, Int.emod_one]
      · have he : sstep p u = p := by rw [sstep, if_neg hle]
        rw [he]
        refine ⟨⟨h1, h2, h3, h4⟩, fun h0 => ?_⟩
        rcases h0 with h0 | h0 <;> omega
    obtain ⟨hs, hz⟩ := hstep
    obtain ⟨hr, hz2⟩ := foldl_back K hK base l (fun v hv => hl v (by simp [hv])) (sstep p u) hs
    refine ⟨hr, fun h0 => hz2 ?_⟩
    rcases h0 with h0 | ⟨v, hv, h0⟩
    · exact .inl (hz (.inl h0))
    · rcases List.mem_cons.1 hv with rfl | hv
      · exact .inl (hz (.inr h0))
      · exact .inr ⟨v, hv, h0⟩
theorem split_back (x : It) (base : Int) (h : 1 ≤ base ∧ base ≤ 1000000000) : (∀ v ∈ split x base, baseF (known x.us) v.name v.f = (kOf (known x.us) v, 0) ∧ 1 ≤ kOf (known x.us) v) ∧ sumK (known x.us) (split x base) = base := by
  have hK : ∀ u ∈ known x.us, 1 ≤ u.f ∧ (known x.us).find? (nmQ u.name) = some u := fun u hu => ⟨known_f _ u hu, find_name _ (known_nodup _) u hu⟩
  obtain ⟨⟨h1, h2, h3, h4⟩, h5⟩ := foldl_back (known x.us) hK base (sorted (known x.us)) (fun u hu => (sorted_perm _).mem_iff.1 hu) ([], base) ⟨by simp only; omega, h.2, by simp, by simp [sumK]⟩
  have h6 := h5 (.inr ⟨eachU, (sorted_perm _).mem_iff.2 (by simp [known]), rfl⟩)
  refine ⟨h3, ?_⟩
  rw [h6] at h4
  simpa [split, splitF] using h4
theorem split_none (x : It) (base : Int) (h : base < 1) : split x base = [] := by
  have key : ∀ (l : List U), (∀ u ∈ l, 1 ≤ u.f) → l.foldl sstep ([], base) = ([], base) := by
    intro l
    induction l with
    | nil => intro _; rfl
    | cons u l ih =>
      intro hl
      have : sstep ([], base) u = ([], base) := by
        have := hl u (by simp)
        rw [sstep, if_neg (by simp only; omega)]
      rw [List.foldl_cons, this]
      exact ih fun v hv => hl v (by simp [hv])
  rw [split, splitF, key _ fun u hu => known_f x.us u ((sorted_perm _).mem_iff.1 hu)]
theorem sumK_pos (K : List U) : ∀ (l : List U), (∀ v ∈ l, 1 ≤ kOf K v) → 0 ≤ sumK K l
  | [], _ => by simp [sumK]
  | v :: l, h => by
    have h1 := h v (by simp)
    have h2 := sumK_pos K l fun w hw => h w (by simp [hw])
    have : sumK K (v :: l) = kOf K v + sumK K l := by simp [sumK]
    omega
set_option maxHeartbeats 4000000 in
theorem law_UnitsBack (x : It) (base : Int) : Ret Try.prog 4 [.agg x.enc, .v (.int .i64 base)] (.v (.bool true)) := by
  refine ret4 rfl fun hbd => ?_
  unfold c4
  by_cases h1 : base < 1
  · have hd1 : decide (base < 1) = true := decide_eq_true h1
    have hd2 : decide (0 < base) = false := decide_eq_false (by omega)
    have hs : Ret Try.prog 11 [.agg x.enc, .v (.int .i64 base)] (.sl [] []) := by
      have := (split11 x base (by omega)).ret
      rwa [split_none x base h1] at this
    repeat (first
      | refine r_call rfl (hs) ?_
      | refine r_call rfl (awake13) ?_
      | refine r_mv_p rfl ?_
      | refine r_do rfl (by first | with_reducible rfl | assumption | decide) ?_
      | refine r_skip rfl (by first | with_reducible rfl | assumption | decide) ?_
      | refine r_skipU rfl ?_
      | refine r_fad rfl rfl ?_
      | refine r_add rfl rfl (by omega) ?_
      | refine r_sub rfl rfl (by omega) ?_
      | refine r_loadAll rfl (by first | rfl | assumption) ?_
      | refine r_loadAllB rfl rfl (by first | rfl | assumption) ?_
      | refine r_pick_t rfl (by first | with_reducible rfl | assumption | decide) rfl rfl ?_
      | refine r_pick_f rfl (by first | with_reducible rfl | assumption | decide) rfl rfl ?_
      | refine r_sem rfl rfl rfl rfl ?_
      | refine r_nil ?_
      | refine r_iad rfl rfl (by omega) (by assumption) (by first | rfl | assumption | omega | (simp; done) | (simp; omega)) ?_
      | refine r_storeAll rfl rfl rfl rfl rfl rfl ?_
      | refine r_store rfl rfl rfl rfl (by decide) ?_
      | refine r_alloc rfl ?_
      | refine r_box rfl rfl rfl ?_
      | refine r_bsl rfl rfl rfl rfl rfl rfl ?_
      | refine r_bsl1 rfl (by assumption) rfl ?_
      | refine r_mkmap rfl ?_
      | refine r_mv_nil rfl ?_
      | refine r_mv_own rfl rfl ?_
      | refine r_mv_mp rfl rfl ?_
      | refine r_mv_row rfl rfl (by first | rfl | assumption | omega | (simp; done) | (simp; omega)) ?_
      | refine r_mv_rp rfl rfl (by first | rfl | assumption | omega | (simp; done) | (simp; omega)) ?_
      | refine r_fad_rp rfl rfl (by first | rfl | assumption | omega | (simp; done) | (simp; omega)) ?_
      | refine r_iad_row rfl rfl (by first | rfl | assumption | omega | (simp; done) | (simp; omega)) rfl (by first | rfl | assumption | omega | (simp; done) | (simp; omega)) ?_
      | refine r_skip0 rfl (by first | with_reducible rfl | assumption | decide) ?_
      | refine r_skipU0 rfl ?_
      | refine r_semF rfl rfl rfl rfl ?_
      | refine r_load_rp rfl rfl (by assumption) rfl ?_
      | refine r_len_row rfl rfl (by first | rfl | assumption | omega | (simp; done) | (simp; omega)) ?_
      | refine run_seq ?_
      | refine run_reg ?_
      | refine run_regd rfl ?_
      | refine run_block ?_
      | refine run_skip ?_
      | refine run_exit ?_
      | refine run_ret ?_
      | refine fin_seq ?_
      | refine fin_seq_e ?_
      | refine fin_seq_r ?_
      | refine fin_blk ?_
      | refine fin_blk_e ?_
      | refine fin_blk_x rfl ?_
      | refine fin_blk_r ?_
      | refine fin_loop_e ?_
      | refine fin_loop_r ?_
      | refine run_cond_t rfl (by first | with_reducible rfl | assumption | decide) ?_
      | refine run_cond_f rfl (by first | with_reducible rfl | assumption | decide) ?_)
    exact fin_out rfl rfl
  have hd1 : decide (base < 1) = false := decide_eq_false h1
  by_cases h2 : 1000000000 < base
  · have hd2 : decide ((1000000000 : Int) < base) = true := decide_eq_true h2
    have hd3 : decide (0 < base) = true := decide_eq_true (by omega)
    repeat (first
      | refine r_call rfl (awake13) ?_
      | refine r_mv_p rfl ?_
      | refine r_do rfl (by first | with_reducible rfl | assumption | decide) ?_
      | refine r_skip rfl (by first | with_reducible rfl | assumption | decide) ?_
      | refine r_skipU rfl ?_
      | refine r_fad rfl rfl ?_
      | refine r_add rfl rfl (by omega) ?_
      | refine r_sub rfl rfl (by omega) ?_
      | refine r_loadAll rfl (by first | rfl | assumption) ?_
      | refine r_loadAllB rfl rfl (by first | rfl | assumption) ?_
      | refine r_pick_t rfl (by first | with_reducible rfl | assumption | decide) rfl rfl ?_
      | refine r_pick_f rfl (by first | with_reducible rfl | assumption | decide) rfl rfl ?_
      | refine r_sem rfl rfl rfl rfl ?_
      | refine r_nil ?_
      | refine r_iad rfl rfl (by omega) (by assumption) (by first | rfl | assumption | omega | (simp; done) | (simp; omega)) ?_
      | refine r_storeAll rfl rfl rfl rfl rfl rfl ?_
      | refine r_store rfl rfl rfl rfl (by decide) ?_
      | refine r_alloc rfl ?_
      | refine r_box rfl rfl rfl ?_
      | refine r_bsl rfl rfl rfl rfl rfl rfl ?_
      | refine r_bsl1 rfl (by assumption) rfl ?_
      | refine r_mkmap rfl ?_
      | refine r_mv_nil rfl ?_
      | refine r_mv_own rfl rfl ?_
      | refine r_mv_mp rfl rfl ?_
      | refine r_mv_row rfl rfl (by first | rfl | assumption | omega | (simp; done) | (simp; omega)) ?_
      | refine r_mv_rp rfl rfl (by first | rfl | assumption | omega | (simp; done) | (simp; omega)) ?_
      | refine r_fad_rp rfl rfl (by first | rfl | assumption | omega | (simp; done) | (simp; omega)) ?_
      | refine r_iad_row rfl rfl (by first | rfl | assumption | omega | (simp; done) | (simp; omega)) rfl (by first | rfl | assumption | omega | (simp; done) | (simp; omega)) ?_
      | refine r_skip0 rfl (by first | with_reducible rfl | assumption | decide) ?_
      | refine r_skipU0 rfl ?_
      | refine r_semF rfl rfl rfl rfl ?_
      | refine r_load_rp rfl rfl (by assumption) rfl ?_
      | refine r_len_row rfl rfl (by first | rfl | assumption | omega | (simp; done) | (simp; omega)) ?_
      | refine run_seq ?_
      | refine run_reg ?_
      | refine run_regd rfl ?_
      | refine run_block ?_
      | refine run_skip ?_
      | refine run_exit ?_
      | refine run_ret ?_
      | refine fin_seq ?_
      | refine fin_seq_e ?_
      | refine fin_seq_r ?_
      | refine fin_blk ?_
      | refine fin_blk_e ?_
      | refine fin_blk_x rfl ?_
      | refine fin_blk_r ?_
      | refine fin_loop_e ?_
      | refine fin_loop_r ?_
      | refine run_cond_t rfl (by first | with_reducible rfl | assumption | decide) ?_
      | refine run_cond_f rfl (by first | with_reducible rfl | assumption | decide) ?_)
    exact fin_out rfl rfl
  have hd2 : decide ((1000000000 : Int) < base) = false := decide_eq_false h2
  obtain ⟨hk, hsum⟩ := split_back x base ⟨by omega, by omega⟩
  have hs := (split11 x base (by omega)).ret
  obtain ⟨L, hL⟩ : ∃ L, L = split x base := ⟨_, rfl⟩
  rw [← hL] at hk hsum hs
  have hne : L ≠ [] := fun e => by rw [e] at hsum; simp [sumK] at hsum; omega
  repeat (first
    | refine r_call rfl (hs) ?_
    | refine r_mv_p rfl ?_
    | refine r_do rfl (by first | with_reducible rfl | assumption | decide) ?_
    | refine r_skip rfl (by first | with_reducible rfl | assumption | decide) ?_
    | refine r_skipU rfl ?_
    | refine r_fad rfl rfl ?_
    | refine r_add rfl rfl (by omega) ?_
    | refine r_sub rfl rfl (by omega) ?_
    | refine r_loadAll rfl (by first | rfl | assumption) ?_
    | refine r_loadAllB rfl rfl (by first | rfl | assumption) ?_
    | refine r_pick_t rfl (by first | with_reducible rfl | assumption | decide) rfl rfl ?_
    | refine r_pick_f rfl (by first | with_reducible rfl | assumption | decide) rfl rfl ?_
    | refine r_sem rfl rfl rfl rfl ?_
    | refine r_nil ?_
    | refine r_iad rfl rfl (by omega) (by assumption) (by first | rfl | assumption | omega | (simp; done) | (simp; omega)) ?_
    | refine r_storeAll rfl rfl rfl rfl rfl rfl ?_
    | refine r_store rfl rfl rfl rfl (by decide) ?_
    | refine r_alloc rfl ?_
    | refine r_box rfl rfl rfl ?_
    | refine r_bsl rfl rfl rfl rfl rfl rfl ?_
    | refine r_bsl1 rfl (by assumption) rfl ?_
    | refine r_mkmap rfl ?_
    | refine r_mv_nil rfl ?_
    | refine r_mv_own rfl rfl ?_
    | refine r_mv_mp rfl rfl ?_
    | refine r_mv_row rfl rfl (by first | rfl | assumption | omega | (simp; done) | (simp; omega)) ?_
    | refine r_mv_rp rfl rfl (by first | rfl | assumption | omega | (simp; done) | (simp; omega)) ?_
    | refine r_fad_rp rfl rfl (by first | rfl | assumption | omega | (simp; done) | (simp; omega)) ?_
    | refine r_iad_row rfl rfl (by first | rfl | assumption | omega | (simp; done) | (simp; omega)) rfl (by first | rfl | assumption | omega | (simp; done) | (simp; omega)) ?_
    | refine r_skip0 rfl (by first | with_reducible rfl | assumption | decide) ?_
    | refine r_skipU0 rfl ?_
    | refine r_semF rfl rfl rfl rfl ?_
    | refine r_load_rp rfl rfl (by assumption) rfl ?_
    | refine r_len_row rfl rfl (by first | rfl | assumption | omega | (simp; done) | (simp; omega)) ?_
    | refine run_seq ?_
    | refine run_reg ?_
    | refine run_regd rfl ?_
    | refine run_block ?_
    | refine run_skip ?_
    | refine run_exit ?_
    | refine run_ret ?_
    | refine fin_seq ?_
    | refine fin_seq_e ?_
    | refine fin_seq_r ?_
    | refine fin_blk ?_
    | refine fin_blk_e ?_
    | refine fin_blk_x rfl ?_
    | refine fin_blk_r ?_
    | refine fin_loop_e ?_
    | refine fin_loop_r ?_
    | refine run_cond_t rfl (by first | with_reducible rfl | assumption | decide) ?_
    | refine run_cond_f rfl (by first | with_reducible rfl | assumption | decide) ?_)
  refine run_weak (weak_S ?_ ?_) (run_inv (fun i : Nat => S [(1, .p (.v (.int .i64 base))), (2, .own 2 0), (5, .p (.sl (L.map U.enc) [])), (6, .p (.v (.int .i64 (sumK (known x.us) (L.take i))))), (7, .p (.v (.int .i64 (i : Nat))))] [(2, some (.box x.enc false))])
    (fun i => i ≤ L.length) (fun i => L.length - i) ?_ 0 (Nat.zero_le _))
  · exact ⟨rfl, rfl, rfl, rfl, rfl, trivial⟩
  · exact ⟨rfl, trivial⟩
  intro i hi ih
  have hll : L.length ≤ 5 := by
    have hkl := known_length x
    have := (splitF_le (sorted (known x.us)) (fun u hu => known_f x.us u ((sorted_perm _).mem_iff.1 hu)) base (by omega) (sorted (known x.us)).length).2
    rw [List.take_length, sorted_length] at this
    rw [hL]; exact Nat.le_trans this hkl
  repeat (first
    | refine r_mv_p rfl ?_
    | refine r_do rfl (by first | with_reducible rfl | assumption | decide) ?_
    | refine r_skip rfl (by first | with_reducible rfl | assumption | decide) ?_
    | refine r_skipU rfl ?_
    | refine r_fad rfl rfl ?_
    | refine r_add rfl rfl (by omega) ?_
    | refine r_sub rfl rfl (by omega) ?_
    | refine r_loadAll rfl (by first | rfl | assumption) ?_
    | refine r_loadAllB rfl rfl (by first | rfl | assumption) ?_
    | refine r_pick_t rfl (by first | with_reducible rfl | assumption | decide) rfl rfl ?_
    | refine r_pick_f rfl (by first | with_reducible rfl | assumption | decide) rfl rfl ?_
    | refine r_sem rfl rfl rfl rfl ?_
    | refine r_nil ?_
    | refine r_iad rfl rfl (by omega) (by assumption) (by first | rfl | assumption | omega | (simp; done) | (simp; omega)) ?_
    | refine r_storeAll rfl rfl rfl rfl rfl rfl ?_
    | refine r_store rfl rfl rfl rfl (by decide) ?_
    | refine r_alloc rfl ?_
    | refine r_box rfl rfl rfl ?_
    | refine r_bsl rfl rfl rfl rfl rfl rfl ?_
    | refine r_bsl1 rfl (by assumption) rfl ?_
    | refine r_mkmap rfl ?_
    | refine r_mv_nil rfl ?_
    | refine r_mv_own rfl rfl ?_
    | refine r_mv_mp rfl rfl ?_
    | refine r_mv_row rfl rfl (by first | rfl | assumption | omega | (simp; done) | (simp; omega)) ?_
    | refine r_mv_rp rfl rfl (by first | rfl | assumption | omega | (simp; done) | (simp; omega)) ?_
    | refine r_fad_rp rfl rfl (by first | rfl | assumption | omega | (simp; done) | (simp; omega)) ?_
    | refine r_iad_row rfl rfl (by first | rfl | assumption | omega | (simp; done) | (simp; omega)) rfl (by first | rfl | assumption | omega | (simp; done) | (simp; omega)) ?_
    | refine r_skip0 rfl (by first | with_reducible rfl | assumption | decide) ?_
    | refine r_skipU0 rfl ?_
    | refine r_semF rfl rfl rfl rfl ?_
    | refine r_load_rp rfl rfl (by assumption) rfl ?_
    | refine r_len_row rfl rfl (by first | rfl | assumption | omega | (simp; done) | (simp; omega)) ?_
    | refine run_seq ?_
    | refine run_reg ?_
    | refine run_regd rfl ?_
    | refine run_block ?_
    | refine run_skip ?_
    | refine run_exit ?_
    | refine run_ret ?_
    | refine fin_seq ?_
    | refine fin_seq_e ?_
    | refine fin_seq_r ?_
    | refine fin_blk ?_
    | refine fin_blk_e ?_
    | refine fin_blk_x rfl ?_
    | refine fin_blk_r ?_
    | refine fin_loop_e ?_
    | refine fin_loop_r ?_
    | refine run_cond_t rfl (by first | with_reducible rfl | assumption | decide) ?_
    | refine run_cond_f rfl (by first | with_reducible rfl | assumption | decide) ?_)
  refine run_cond rfl (fun h => ?_) (fun h => ?_)
  · have hlt : i < L.length := by simpa using h
    have hx : (L.map U.enc)[i]? = some L[i].enc := by simp [hlt]
    obtain ⟨v, hv⟩ : ∃ v, v = L[i] := ⟨_, rfl⟩
    have hvm : v ∈ L := by rw [hv]; exact List.getElem_mem hlt
    obtain ⟨hb, hk1⟩ := hk v hvm
    have h8 := base8 x v.name v.f
    rw [hb] at h8
    rw [← hv] at hx
    have hsp : L = L.take i ++ v :: L.drop (i + 1) := by rw [hv, List.getElem_cons_drop]; simp
    have hs1 : sumK (known x.us) (L.take (i + 1)) = sumK (known x.us) (L.take i) + kOf (known x.us) v := by
      rw [show L.take (i + 1) = L.take i ++ [v] by rw [hv]; simp]
      simp [sumK, sum_append]
    have hs0 : sumK (known x.us) (L.take i) + (kOf (known x.us) v + sumK (known x.us) (L.drop (i + 1))) = base := by
      have : sumK (known x.us) L = sumK (known x.us) (L.take i ++ v :: L.drop (i + 1)) := by rw [← hsp]
      rw [hsum] at this
      rw [this]
      simp [sumK, sum_append]
    have hp0 := sumK_pos (known x.us) (L.take i) fun w hw => (hk w (List.mem_of_mem_take hw)).2
    have hp1 := sumK_pos (known x.us) (L.drop (i + 1)) fun w hw => (hk w (List.mem_of_mem_drop hw)).2
    obtain ⟨a, ha⟩ : ∃ a, a = sumK (known x.us) (L.take i) := ⟨_, rfl⟩
    obtain ⟨k, hkk⟩ : ∃ k, k = kOf (known x.us) v := ⟨_, rfl⟩
    rw [← hkk] at h8 hk1 hs1 hs0
    rw [← ha] at hs1 hs0 hp0 ⊢
    replace h8 : Ret Try.prog 8 [.agg x.enc, .v (.string v.name), .v (.int .i64 v.f)] (.tup [.v (.int .i64 k), .v (.int .i64 0)]) := h8
    have hdk : decide (k < 1) = false := decide_eq_false (by omega)
    repeat (first
      | refine r_call rfl (h8) ?_
      | refine r_mv_p rfl ?_
      | refine r_do rfl (by first | with_reducible rfl | assumption | decide) ?_
      | refine r_skip rfl (by first | with_reducible rfl | assumption | decide) ?_
      | refine r_skipU rfl ?_
      | refine r_fad rfl rfl ?_
      | refine r_add rfl rfl (by omega) ?_
      | refine r_sub rfl rfl (by omega) ?_
      | refine r_loadAll rfl (by first | rfl | assumption) ?_
      | refine r_loadAllB rfl rfl (by first | rfl | assumption) ?_
      | refine r_pick_t rfl (by first | with_reducible rfl | assumption | decide) rfl rfl ?_
      | refine r_pick_f rfl (by first | with_reducible rfl | assumption | decide) rfl rfl ?_
      | refine r_sem rfl rfl rfl rfl ?_
      | refine r_nil ?_
      | refine r_iad rfl rfl (by omega) (by assumption) (by first | rfl | assumption | omega | (simp; done) | (simp; omega)) ?_
      | refine r_storeAll rfl rfl rfl rfl rfl rfl ?_
      | refine r_store rfl rfl rfl rfl (by decide) ?_
      | refine r_alloc rfl ?_
      | refine r_box rfl rfl rfl ?_
      | refine r_bsl rfl rfl rfl rfl rfl rfl ?_
      | refine r_bsl1 rfl (by assumption) rfl ?_
      | refine r_mkmap rfl ?_
      | refine r_mv_nil rfl ?_
      | refine r_mv_own rfl rfl ?_
      | refine r_mv_mp rfl rfl ?_
      | refine r_mv_row rfl rfl (by first | rfl | assumption | omega | (simp; done) | (simp; omega)) ?_
      | refine r_mv_rp rfl rfl (by first | rfl | assumption | omega | (simp; done) | (simp; omega)) ?_
      | refine r_fad_rp rfl rfl (by first | rfl | assumption | omega | (simp; done) | (simp; omega)) ?_
      | refine r_iad_row rfl rfl (by first | rfl | assumption | omega | (simp; done) | (simp; omega)) rfl (by first | rfl | assumption | omega | (simp; done) | (simp; omega)) ?_
      | refine r_skip0 rfl (by first | with_reducible rfl | assumption | decide) ?_
      | refine r_skipU0 rfl ?_
      | refine r_semF rfl rfl rfl rfl ?_
      | refine r_load_rp rfl rfl (by assumption) rfl ?_
      | refine r_len_row rfl rfl (by first | rfl | assumption | omega | (simp; done) | (simp; omega)) ?_
      | refine run_seq ?_
      | refine run_reg ?_
      | refine run_regd rfl ?_
      | refine run_block ?_
      | refine run_skip ?_
      | refine run_exit ?_
      | refine run_ret ?_
      | refine fin_seq ?_
      | refine fin_seq_e ?_
      | refine fin_seq_r ?_
      | refine fin_blk ?_
      | refine fin_blk_e ?_
      | refine fin_blk_x rfl ?_
      | refine fin_blk_r ?_
      | refine fin_loop_e ?_
      | refine fin_loop_r ?_
      | refine run_cond_t rfl (by first | with_reducible rfl | assumption | decide) ?_
      | refine run_cond_f rfl (by first | with_reducible rfl | assumption | decide) ?_)
    refine fin_loop (run_weak (weak_S ?_ ?_) (ih (i + 1) hlt (by omega)))
    · exact ⟨rfl, rfl, rfl, ti rfl hs1.symm, rfl, trivial⟩
    · exact ⟨rfl, trivial⟩
  · have hlt : i = L.length := by simp at h; omega
    have hE : L.take i = L := by rw [hlt]; simp
    rw [hE, hsum]
    have hd4 : decide (base = base) = true := by simp
    have hd5 : decide ((0 : Int) < (((L.map U.enc).length : Nat) : Int)) = true := decide_eq_true (by have := List.length_pos_iff.2 hne; simp; omega)
    repeat (first
      | refine r_call rfl (awake13) ?_
      | refine r_mv_p rfl ?_
      | refine r_do rfl (by first | with_reducible rfl | assumption | decide) ?_
      | refine r_skip rfl (by first | with_reducible rfl | assumption | decide) ?_
      | refine r_skipU rfl ?_
      | refine r_fad rfl rfl ?_
      | refine r_add rfl rfl (by omega) ?_
      | refine r_sub rfl rfl (by omega) ?_
      | refine r_loadAll rfl (by first | rfl | assumption) ?_
      | refine r_loadAllB rfl rfl (by first | rfl | assumption) ?_
      | refine r_pick_t rfl (by first | with_reducible rfl | assumption | decide) rfl rfl ?_
      | refine r_pick_f rfl (by first | with_reducible rfl | assumption | decide) rfl rfl ?_
      | refine r_sem rfl rfl rfl rfl ?_
      | refine r_nil ?_
      | refine r_iad rfl rfl (by omega) (by assumption) (by first | rfl | assumption | omega | (simp; done) | (simp; omega)) ?_
      | refine r_storeAll rfl rfl rfl rfl rfl rfl ?_
      | refine r_store rfl rfl rfl rfl (by decide) ?_
      | refine r_alloc rfl ?_
      | refine r_box rfl rfl rfl ?_
      | refine r_bsl rfl rfl rfl rfl rfl rfl ?_
      | refine r_bsl1 rfl (by assumption) rfl ?_
      | refine r_mkmap rfl ?_
      | refine r_mv_nil rfl ?_
      | refine r_mv_own rfl rfl ?_
      | refine r_mv_mp rfl rfl ?_
      | refine r_mv_row rfl rfl (by first | rfl | assumption | omega | (simp; done) | (simp; omega)) ?_
      | refine r_mv_rp rfl rfl (by first | rfl | assumption | omega | (simp; done) | (simp; omega)) ?_
      | refine r_fad_rp rfl rfl (by first | rfl | assumption | omega | (simp; done) | (simp; omega)) ?_
      | refine r_iad_row rfl rfl (by first | rfl | assumption | omega | (simp; done) | (simp; omega)) rfl (by first | rfl | assumption | omega | (simp; done) | (simp; omega)) ?_
      | refine r_skip0 rfl (by first | with_reducible rfl | assumption | decide) ?_
      | refine r_skipU0 rfl ?_
      | refine r_semF rfl rfl rfl rfl ?_
      | refine r_load_rp rfl rfl (by assumption) rfl ?_
      | refine r_len_row rfl rfl (by first | rfl | assumption | omega | (simp; done) | (simp; omega)) ?_
      | refine run_seq ?_
      | refine run_reg ?_
      | refine run_regd rfl ?_
      | refine run_block ?_
      | refine run_skip ?_
      | refine run_exit ?_
      | refine run_ret ?_
      | refine fin_seq ?_
      | refine fin_seq_e ?_
      | refine fin_seq_r ?_
      | refine fin_blk ?_
      | refine fin_blk_e ?_
      | refine fin_blk_x rfl ?_
      | refine fin_blk_r ?_
      | refine fin_loop_e ?_
      | refine fin_loop_r ?_
      | refine run_cond_t rfl (by first | with_reducible rfl | assumption | decide) ?_
      | refine run_cond_f rfl (by first | with_reducible rfl | assumption | decide) ?_)
    exact fin_out rfl rfl
end Go.Fw
