/-
  Counts: what is plain of a house; the balance of an item and lot.
-/
import Derived.Test.YtghhmkogooancaaGreatHX
import Derived.Test.YtghhmkogooancaaGreatIrM
import Derived.Test.YtghhmkogooancaaGreatHR
set_option linter.unusedVariables false
set_option linter.unusedSimpArgs false
set_option maxRecDepth 10000
namespace Go.Fw
open Go.Proofs

/-- Up to n, no name of the list stands there twice. -/
def Once {α κ : Type} (key : α → κ) (xs : List α) (n : Nat) : Prop := ∀ (i k : Nat) (x y : α), i < n → xs[i]? = some x → k < i → xs[k]? = some y → key y ≠ key x
theorem Once.zero {α κ : Type} {key : α → κ} {xs : List α} : Once key xs 0 := fun i k x y h => by omega
theorem Once.succ {α κ : Type} {key : α → κ} {xs : List α} {n : Nat} {x : α} (h : Once key xs n) (hx : xs[n]? = some x) (hn : ∀ k y, k < n → xs[k]? = some y → key y ≠ key x) : Once key xs (n + 1) := fun i k x' y' hi hx' hk hy' => by
  rcases Nat.lt_or_ge i n with h' | h'
  · exact h i k x' y' h' hx' hk hy'
  · obtain rfl : i = n := by omega
    rw [hx] at hx'; cases hx'
    exact hn k y' hk hy'
def qBad (q : Quant) : Bool := decide (q.held < 0) || decide (q.qty < q.held) || decide (q.qty < 1)
def cBad (c : Counted) : Bool := decide (c.qty < 0)
def Total.name (t : Total) : Str × Str := (t.item, t.lot)
/-- All up to n are good. -/
def AllOk {α : Type} (bad : α → Bool) (xs : List α) (n : Nat) : Prop := ∀ (i : Nat) (x : α), i < n → xs[i]? = some x → bad x = false
theorem AllOk.zero {α : Type} {bad : α → Bool} {xs : List α} : AllOk bad xs 0 := fun i x h => by omega
theorem AllOk.succ {α : Type} {bad : α → Bool} {xs : List α} {n : Nat} {x : α} (h : AllOk bad xs n) (hx : xs[n]? = some x) (hb : bad x = false) : AllOk bad xs (n + 1) := fun i x' hi hx' => by
  rcases Nat.lt_or_ge i n with h' | h'
  · exact h i x' h' hx'
  · obtain rfl : i = n := by omega
    rw [hx] at hx'; cases hx'
    exact hb
structure House.Plain (h : House) : Prop where
  goodQ : AllOk qBad h.quants.xs h.quants.xs.length
  onceQ : Once Quant.key h.quants.xs h.quants.xs.length
  onceT : Once Total.name h.totals.xs h.totals.xs.length
  goodC : AllOk cBad h.counted.xs h.counted.xs.length
  onceC : Once Counted.key h.counted.xs h.counted.xs.length

set_option maxHeartbeats 8000000 in
theorem plain22 (h : House) (r : Bool) (hr : r = true ↔ h.Plain) : Ret Tryz.prog 22 [.agg h.enc] (.v (.bool r)) := by
  refine ret22 rfl fun hbd => ?_
  have bq := bd_quants (hbd _ (List.mem_cons_self))
  have bt := bd_totals (hbd _ (List.mem_cons_self))
  have bc := bd_counted (hbd _ (List.mem_cons_self))
  clear hbd
  unfold c22
  repeat (first
    | refine r_mv_p rfl ?_ | refine r_nil ?_ | refine r_box rfl rfl rfl ?_ | refine run_seq ?_ | refine run_reg ?_ | refine run_block ?_ | refine fin_seq ?_)
  refine run_weak (weak_S ?_ ?_) (run_inv (fun i : Nat => S [(1, .own 1 0), (3, .p (.v (.int .i64 (i : Nat))))] [(1, some (.box h.enc false))])
    (fun i => i ≤ h.quants.xs.length ∧ AllOk qBad h.quants.xs i ∧ Once Quant.key h.quants.xs i) (fun i => h.quants.xs.length - i) ?_ 0 ⟨Nat.zero_le _, .zero, .zero⟩)
  · exact ⟨rfl, rfl, trivial⟩
  · exact ⟨rfl, trivial⟩
  rintro i ⟨hi, hg, ho⟩ ih
  repeat (first
    | refine r_mv_p rfl ?_ | refine r_fad rfl rfl ?_ | refine r_sem rfl rfl rfl rfl ?_ | refine r_nil ?_ | refine run_seq ?_ | refine run_reg ?_ | refine fin_seq ?_)
  refine run_cond rfl (fun h1 => ?_) (fun h1 => ?_)
  · have hlt : i < h.quants.xs.length := by simpa using h1
    have hx : (h.quants.xs.map Quant.enc)[i]? = some h.quants.xs[i].enc := by simp [hlt]
    have hxi : h.quants.xs[i]? = some h.quants.xs[i] := by simp [hlt]
    obtain ⟨q, hq⟩ : ∃ q, q = h.quants.xs[i] := ⟨_, rfl⟩
    rw [← hq] at hx hxi
    have hbad : qBad q = true → r = false := fun hb => by
      cases r
      · rfl
      · have := (hr.1 rfl).goodQ i q hlt hxi; rw [hb] at this; cases this
    cases e1 : decide (q.held < 0) with
    | true =>
      have hr0 := hbad (by unfold qBad; rw [e1]; rfl)
      subst hr0
      clear ih hr hbad
      repeat (first
        | refine r_mv_p rfl ?_ | refine r_skipA rfl ?_ | refine r_fad rfl rfl ?_ | refine r_loadA rfl ?_ | refine r_pickT rfl rfl rfl ?_ | refine r_sem rfl rfl rfl rfl ?_ | refine r_nil ?_
        | refine r_iadA rfl rfl ?_ | refine r_storeAll rfl rfl rfl rfl rfl rfl ?_ | refine r_alloc rfl ?_ | refine run_seq ?_ | refine run_reg ?_ | refine run_block ?_ | refine run_skip ?_
        | refine run_ret ?_ | refine fin_seq ?_ | refine fin_seq_r ?_ | refine fin_blk_r ?_ | refine fin_loop_r ?_ | refine run_condT rfl ?_)
      exact fin_out rfl rfl
    | false =>
    cases e2 : decide (q.qty < q.held) with
    | true =>
      have hr0 := hbad (by unfold qBad; rw [e1, e2]; rfl)
      subst hr0
      clear ih hr hbad
      repeat (first
        | refine r_mv_p rfl ?_ | refine r_doA rfl ?_ | refine r_skipA rfl ?_ | refine r_fad rfl rfl ?_ | refine r_loadA rfl ?_ | refine r_pickT rfl rfl rfl ?_ | refine r_pickF rfl rfl rfl ?_
        | refine r_sem rfl rfl rfl rfl ?_ | refine r_nil ?_ | refine r_iadA rfl rfl ?_ | refine r_storeAll rfl rfl rfl rfl rfl rfl ?_ | refine r_alloc rfl ?_ | refine run_seq ?_
        | refine run_reg ?_ | refine run_block ?_ | refine run_skip ?_ | refine run_ret ?_ | refine fin_seq ?_ | refine fin_seq_r ?_ | refine fin_blk_r ?_ | refine fin_loop_r ?_
        | refine run_condT rfl ?_)
      exact fin_out rfl rfl
    | false =>
    cases e3 : decide (q.qty < 1) with
    | true =>
      have hr0 := hbad (by unfold qBad; rw [e1, e2, e3]; rfl)
      subst hr0
      clear ih hr hbad
      repeat (first
        | refine r_mv_p rfl ?_ | refine r_doA rfl ?_ | refine r_fad rfl rfl ?_ | refine r_loadA rfl ?_ | refine r_pickF rfl rfl rfl ?_ | refine r_sem rfl rfl rfl rfl ?_ | refine r_nil ?_
        | refine r_iadA rfl rfl ?_ | refine r_storeAll rfl rfl rfl rfl rfl rfl ?_ | refine r_alloc rfl ?_ | refine run_seq ?_ | refine run_reg ?_ | refine run_block ?_ | refine run_skip ?_
        | refine run_ret ?_ | refine fin_seq ?_ | refine fin_seq_r ?_ | refine fin_blk_r ?_ | refine fin_loop_r ?_ | refine run_condT rfl ?_)
      exact fin_out rfl rfl
    | false =>
    have hgood : qBad q = false := by unfold qBad; rw [e1, e2, e3]; rfl
    clear hbad
    repeat (first
      | refine r_mv_p rfl ?_ | refine r_doA rfl ?_ | refine r_fad rfl rfl ?_ | refine r_loadA rfl ?_ | refine r_pickF rfl rfl rfl ?_ | refine r_sem rfl rfl rfl rfl ?_ | refine r_nil ?_
      | refine r_iadA rfl rfl ?_ | refine r_storeAll rfl rfl rfl rfl rfl rfl ?_ | refine r_alloc rfl ?_ | refine run_seq ?_ | refine run_reg ?_ | refine run_block ?_ | refine run_skip ?_
      | refine fin_seq ?_ | refine run_condF rfl ?_)
    refine run_weak (weak_S ?_ ?_) (run_inv (fun k : Nat => S [(1, .own 1 0), (3, .p (.v (.int .i64 (i : Nat)))), (4, .own 4 0), (5, .p (.v (.int .i64 (k : Nat))))] [(1, some (.box h.enc false)), (4, some (.box q.enc false))])
      (fun k => k ≤ i ∧ ∀ k' y, k' < k → h.quants.xs[k']? = some y → y.key ≠ q.key) (fun k => i - k) ?_ 0 ⟨Nat.zero_le _, fun k' y hk => by omega⟩)
    · exact ⟨rfl, rfl, rfl, rfl, trivial⟩
    · exact ⟨rfl, rfl, trivial⟩
    rintro k ⟨hk, hno⟩ ihk
    repeat (first
      | refine r_mv_p rfl ?_ | refine r_sem rfl rfl rfl rfl ?_ | refine r_nil ?_ | refine run_seq ?_ | refine run_reg ?_ | refine fin_seq ?_)
    refine run_cond rfl (fun h2 => ?_) (fun h2 => ?_)
    · have hki : k < i := by simpa using h2
      have hkl : k < h.quants.xs.length := by omega
      have hy : (h.quants.xs.map Quant.enc)[k]? = some h.quants.xs[k].enc := by simp [hkl]
      have hyk : h.quants.xs[k]? = some h.quants.xs[k] := by simp [hkl]
      obtain ⟨y, hye⟩ : ∃ y, y = h.quants.xs[k] := ⟨_, rfl⟩
      rw [← hye] at hy hyk
      have he := key_eqs y.key q.key
      cases hd : decide (y.key = q.key) with
      | true =>
        have hr0 : r = false := by
          cases r
          · rfl
          · exact absurd (of_decide_eq_true hd) ((hr.1 rfl).onceQ i k q y hlt hxi hki hyk)
        subst hr0
        rw [hd] at he
        clear ih ihk hr hx hxi
        repeat (first
          | refine r_eqsV rfl rfl he ?_ | refine r_mv_p rfl ?_ | refine r_fad rfl rfl ?_ | refine r_sem rfl rfl rfl rfl ?_ | refine r_nil ?_ | refine r_iadA rfl rfl ?_ | refine run_seq ?_
          | refine run_reg ?_ | refine run_regd rfl ?_ | refine run_block ?_ | refine run_skip ?_ | refine run_ret ?_ | refine fin_seq ?_ | refine fin_seq_r ?_ | refine fin_blk_r ?_
          | refine fin_loop_r ?_ | refine run_condT rfl ?_)
        exact fin_out rfl rfl
      | false =>
        rw [hd] at he
        have hnext := ihk (k + 1) ⟨hki, fun k' y' hk' hy' => by
          rcases Nat.lt_or_ge k' k with h' | h'
          · exact hno k' y' h' hy'
          · obtain rfl : k' = k := by omega
            rw [hyk] at hy'; cases hy'
            exact of_decide_eq_false hd⟩ (by omega)
        clear ih ihk hr hx hxi
        repeat (first
          | refine r_eqsV rfl rfl he ?_ | refine r_mv_p rfl ?_ | refine r_fad rfl rfl ?_ | refine r_addA rfl rfl ?_ | refine r_sem rfl rfl rfl rfl ?_ | refine r_nil ?_
          | refine r_iadA rfl rfl ?_ | refine run_seq ?_ | refine run_reg ?_ | refine run_regd rfl ?_ | refine run_block ?_ | refine run_skip ?_ | refine fin_seq ?_ | refine fin_blk ?_
          | refine run_condF rfl ?_)
        refine fin_loop (run_weak (weak_S ?_ ?_) hnext)
        · exact ⟨rfl, rfl, rfl, rfl, trivial⟩
        · exact ⟨rfl, rfl, trivial⟩
    · have hki : k = i := by simp at h2; omega
      have hnext := ih (i + 1) ⟨hlt, hg.succ hxi hgood, ho.succ hxi fun k' y hk' hy => hno k' y (by omega) hy⟩ (by omega)
      clear ih ihk hr hx hno
      repeat (first
        | refine r_mv_p rfl ?_ | refine r_addA rfl rfl ?_ | refine r_nil ?_ | refine run_reg ?_ | refine run_exit ?_ | refine fin_seq ?_ | refine fin_seq_e ?_ | refine fin_blk ?_
        | refine fin_blk_e ?_ | refine fin_loop_e ?_)
      refine fin_loop (run_weak (weak_S ?_ ?_) hnext)
      · exact ⟨rfl, rfl, trivial⟩
      · exact ⟨rfl, trivial⟩
  have hql : i = h.quants.xs.length := by simp at h1; omega
  clear ih h1
  rw [hql] at hg ho
  repeat (first
    | refine r_mv_p rfl ?_ | refine r_nil ?_ | refine run_seq ?_ | refine run_reg ?_ | refine run_block ?_ | refine run_exit ?_ | refine fin_seq ?_ | refine fin_seq_e ?_
    | refine fin_blk_e ?_ | refine fin_loop_e ?_)
  clear hql hi
  refine run_weak (weak_S ?_ ?_) (run_inv (fun i : Nat => S [(1, .own 1 0), (6, .p (.v (.int .i64 (i : Nat))))] [(1, some (.box h.enc false))])
    (fun i => i ≤ h.totals.xs.length ∧ Once Total.name h.totals.xs i) (fun i => h.totals.xs.length - i) ?_ 0 ⟨Nat.zero_le _, .zero⟩)
  · exact ⟨rfl, rfl, trivial⟩
  · exact ⟨rfl, trivial⟩
  rintro i ⟨hi, hot⟩ ih
  repeat (first
    | refine r_mv_p rfl ?_ | refine r_fad rfl rfl ?_ | refine r_sem rfl rfl rfl rfl ?_ | refine r_nil ?_ | refine run_seq ?_ | refine run_reg ?_ | refine fin_seq ?_)
  refine run_cond rfl (fun h1 => ?_) (fun h1 => ?_)
  · have hlt : i < h.totals.xs.length := by simpa using h1
    have hx : (h.totals.xs.map Total.enc)[i]? = some h.totals.xs[i].enc := by simp [hlt]
    have hxi : h.totals.xs[i]? = some h.totals.xs[i] := by simp [hlt]
    obtain ⟨q, hq⟩ : ∃ q, q = h.totals.xs[i] := ⟨_, rfl⟩
    rw [← hq] at hx hxi
    repeat (first
      | refine r_mv_p rfl ?_ | refine r_nil ?_ | refine run_seq ?_ | refine run_reg ?_ | refine run_block ?_ | refine run_skip ?_ | refine fin_seq ?_)
    refine run_weak (weak_S ?_ ?_) (run_inv (fun k : Nat => S [(1, .own 1 0), (6, .p (.v (.int .i64 (i : Nat)))), (7, .p (.v (.int .i64 (k : Nat))))] [(1, some (.box h.enc false))])
      (fun k => k ≤ i ∧ ∀ k' y, k' < k → h.totals.xs[k']? = some y → y.name ≠ q.name) (fun k => i - k) ?_ 0 ⟨Nat.zero_le _, fun k' y hk => by omega⟩)
    · exact ⟨rfl, rfl, rfl, trivial⟩
    · exact ⟨rfl, trivial⟩
    rintro k ⟨hk, hno⟩ ihk
    repeat (first
      | refine r_mv_p rfl ?_ | refine r_sem rfl rfl rfl rfl ?_ | refine r_nil ?_ | refine run_seq ?_ | refine run_reg ?_ | refine fin_seq ?_)
    refine run_cond rfl (fun h2 => ?_) (fun h2 => ?_)
    · have hki : k < i := by simpa using h2
      have hkl : k < h.totals.xs.length := by omega
      have hy : (h.totals.xs.map Total.enc)[k]? = some h.totals.xs[k].enc := by simp [hkl]
      have hyk : h.totals.xs[k]? = some h.totals.xs[k] := by simp [hkl]
      obtain ⟨y, hye⟩ : ∃ y, y = h.totals.xs[k] := ⟨_, rfl⟩
      rw [← hye] at hy hyk
      have hstep : y.name ≠ q.name → Run Tryz.prog _ _ _ _ := fun hne => ihk (k + 1) ⟨hki, fun k' y' hk' hy' => by
          rcases Nat.lt_or_ge k' k with h' | h'
          · exact hno k' y' h' hy'
          · obtain rfl : k' = k := by omega
            rw [hyk] at hy'; cases hy'
            exact hne⟩ (by omega)
      cases d1 : decide (y.item = q.item) with
      | true =>
        cases d2 : decide (y.lot = q.lot) with
        | true =>
          have hr0 : r = false := by
            cases r
            · rfl
            · exact absurd (show y.name = q.name from Prod.ext (of_decide_eq_true d1) (of_decide_eq_true d2)) ((hr.1 rfl).onceT i k q y hlt hxi hki hyk)
          subst hr0
          clear ih ihk hr hstep
          repeat (first
            | refine r_mv_p rfl ?_ | refine r_doA rfl ?_ | refine r_fad rfl rfl ?_ | refine r_pickT rfl rfl rfl ?_ | refine r_sem rfl rfl rfl rfl ?_ | refine r_nil ?_ | refine r_iadA rfl rfl ?_
            | refine run_seq ?_ | refine run_reg ?_ | refine run_regd rfl ?_ | refine run_block ?_ | refine run_skip ?_ | refine run_ret ?_ | refine fin_seq ?_ | refine fin_seq_r ?_
            | refine fin_blk_r ?_ | refine fin_loop_r ?_ | refine run_condT rfl ?_)
          exact fin_out rfl rfl
        | false =>
          have hnext := hstep fun e => of_decide_eq_false d2 (congrArg Prod.snd e)
          clear ih ihk hr hstep
          repeat (first
            | refine r_mv_p rfl ?_ | refine r_doA rfl ?_ | refine r_fad rfl rfl ?_ | refine r_addA rfl rfl ?_ | refine r_pickT rfl rfl rfl ?_ | refine r_sem rfl rfl rfl rfl ?_ | refine r_nil ?_
            | refine r_iadA rfl rfl ?_ | refine run_seq ?_ | refine run_reg ?_ | refine run_regd rfl ?_ | refine run_block ?_ | refine run_skip ?_ | refine fin_seq ?_ | refine fin_blk ?_
            | refine run_condF rfl ?_)
          refine fin_loop (run_weak (weak_S ?_ ?_) hnext)
          · exact ⟨rfl, rfl, rfl, trivial⟩
          · exact ⟨rfl, trivial⟩
      | false =>
        have hnext := hstep fun e => of_decide_eq_false d1 (congrArg Prod.fst e)
        clear ih ihk hr hstep
        repeat (first
          | refine r_mv_p rfl ?_ | refine r_skipA rfl ?_ | refine r_fad rfl rfl ?_ | refine r_addA rfl rfl ?_ | refine r_pickF rfl rfl rfl ?_ | refine r_sem rfl rfl rfl rfl ?_ | refine r_nil ?_
          | refine r_iadA rfl rfl ?_ | refine run_seq ?_ | refine run_reg ?_ | refine run_regd rfl ?_ | refine run_block ?_ | refine run_skip ?_ | refine fin_seq ?_ | refine fin_blk ?_
          | refine run_condF rfl ?_)
        refine fin_loop (run_weak (weak_S ?_ ?_) hnext)
        · exact ⟨rfl, rfl, rfl, trivial⟩
        · exact ⟨rfl, trivial⟩
    · have hki : k = i := by simp at h2; omega
      have hnext := ih (i + 1) ⟨hlt, hot.succ hxi fun k' y hk' hy => hno k' y (by omega) hy⟩ (by omega)
      clear ih ihk hr hx hno
      repeat (first
        | refine r_mv_p rfl ?_ | refine r_addA rfl rfl ?_ | refine r_nil ?_ | refine run_reg ?_ | refine run_exit ?_ | refine fin_seq ?_ | refine fin_seq_e ?_ | refine fin_blk ?_
        | refine fin_blk_e ?_ | refine fin_loop_e ?_)
      refine fin_loop (run_weak (weak_S ?_ ?_) hnext)
      · exact ⟨rfl, rfl, trivial⟩
      · exact ⟨rfl, trivial⟩
  have htl : i = h.totals.xs.length := by simp at h1; omega
  clear ih h1
  rw [htl] at hot
  repeat (first
    | refine r_mv_p rfl ?_ | refine r_nil ?_ | refine run_seq ?_ | refine run_reg ?_ | refine run_block ?_ | refine run_exit ?_ | refine fin_seq ?_ | refine fin_seq_e ?_
    | refine fin_blk_e ?_ | refine fin_loop_e ?_)
  clear htl hi
  refine run_weak (weak_S ?_ ?_) (run_inv (fun i : Nat => S [(1, .own 1 0), (8, .p (.v (.int .i64 (i : Nat))))] [(1, some (.box h.enc false))])
    (fun i => i ≤ h.counted.xs.length ∧ AllOk cBad h.counted.xs i ∧ Once Counted.key h.counted.xs i) (fun i => h.counted.xs.length - i) ?_ 0 ⟨Nat.zero_le _, .zero, .zero⟩)
  · exact ⟨rfl, rfl, trivial⟩
  · exact ⟨rfl, trivial⟩
  rintro i ⟨hi, hgc, hoc⟩ ih
  repeat (first
    | refine r_mv_p rfl ?_ | refine r_fad rfl rfl ?_ | refine r_sem rfl rfl rfl rfl ?_ | refine r_nil ?_ | refine run_seq ?_ | refine run_reg ?_ | refine fin_seq ?_)
  refine run_cond rfl (fun h1 => ?_) (fun h1 => ?_)
  · have hlt : i < h.counted.xs.length := by simpa using h1
    have hx : (h.counted.xs.map Counted.enc)[i]? = some h.counted.xs[i].enc := by simp [hlt]
    have hxi : h.counted.xs[i]? = some h.counted.xs[i] := by simp [hlt]
    obtain ⟨q, hq⟩ : ∃ q, q = h.counted.xs[i] := ⟨_, rfl⟩
    rw [← hq] at hx hxi
    cases e1 : decide (q.qty < 0) with
    | true =>
      have hr0 : r = false := by
        cases r
        · rfl
        · have := (hr.1 rfl).goodC i q hlt hxi
          unfold cBad at this; rw [e1] at this; cases this
      subst hr0
      clear ih hr
      repeat (first
        | refine r_mv_p rfl ?_ | refine r_fad rfl rfl ?_ | refine r_sem rfl rfl rfl rfl ?_ | refine r_nil ?_ | refine r_iadA rfl rfl ?_ | refine run_seq ?_ | refine run_reg ?_
        | refine run_block ?_ | refine run_skip ?_ | refine run_ret ?_ | refine fin_seq ?_ | refine fin_seq_r ?_ | refine fin_blk_r ?_ | refine fin_loop_r ?_ | refine run_condT rfl ?_)
      exact fin_out rfl rfl
    | false =>
    repeat (first
      | refine r_mv_p rfl ?_ | refine r_fad rfl rfl ?_ | refine r_sem rfl rfl rfl rfl ?_ | refine r_nil ?_ | refine r_iadA rfl rfl ?_ | refine run_seq ?_ | refine run_reg ?_
      | refine run_block ?_ | refine run_skip ?_ | refine fin_seq ?_ | refine run_condF rfl ?_)
    refine run_weak (weak_S ?_ ?_) (run_inv (fun k : Nat => S [(1, .own 1 0), (8, .p (.v (.int .i64 (i : Nat)))), (9, .p (.v (.int .i64 (k : Nat))))] [(1, some (.box h.enc false))])
      (fun k => k ≤ i ∧ ∀ k' y, k' < k → h.counted.xs[k']? = some y → y.key ≠ q.key) (fun k => i - k) ?_ 0 ⟨Nat.zero_le _, fun k' y hk => by omega⟩)
    · exact ⟨rfl, rfl, rfl, trivial⟩
    · exact ⟨rfl, trivial⟩
    rintro k ⟨hk, hno⟩ ihk
    repeat (first
      | refine r_mv_p rfl ?_ | refine r_sem rfl rfl rfl rfl ?_ | refine r_nil ?_ | refine run_seq ?_ | refine run_reg ?_ | refine fin_seq ?_)
    refine run_cond rfl (fun h2 => ?_) (fun h2 => ?_)
    · have hki : k < i := by simpa using h2
      have hkl : k < h.counted.xs.length := by omega
      have hy : (h.counted.xs.map Counted.enc)[k]? = some h.counted.xs[k].enc := by simp [hkl]
      have hyk : h.counted.xs[k]? = some h.counted.xs[k] := by simp [hkl]
      obtain ⟨y, hye⟩ : ∃ y, y = h.counted.xs[k] := ⟨_, rfl⟩
      rw [← hye] at hy hyk
      have he := key_eqs y.key q.key
      cases hd : decide (y.key = q.key) with
      | true =>
        have hr0 : r = false := by
          cases r
          · rfl
          · exact absurd (of_decide_eq_true hd) ((hr.1 rfl).onceC i k q y hlt hxi hki hyk)
        subst hr0
        rw [hd] at he
        clear ih ihk hr
        repeat (first
          | refine r_eqsV rfl rfl he ?_ | refine r_mv_p rfl ?_ | refine r_fad rfl rfl ?_ | refine r_sem rfl rfl rfl rfl ?_ | refine r_nil ?_ | refine r_iadA rfl rfl ?_ | refine run_seq ?_
          | refine run_reg ?_ | refine run_regd rfl ?_ | refine run_block ?_ | refine run_skip ?_ | refine run_ret ?_ | refine fin_seq ?_ | refine fin_seq_r ?_ | refine fin_blk_r ?_
          | refine fin_loop_r ?_ | refine run_condT rfl ?_)
        exact fin_out rfl rfl
      | false =>
        rw [hd] at he
        have hnext := ihk (k + 1) ⟨hki, fun k' y' hk' hy' => by
          rcases Nat.lt_or_ge k' k with h' | h'
          · exact hno k' y' h' hy'
          · obtain rfl : k' = k := by omega
            rw [hyk] at hy'; cases hy'
            exact of_decide_eq_false hd⟩ (by omega)
        clear ih ihk hr
        repeat (first
          | refine r_eqsV rfl rfl he ?_ | refine r_mv_p rfl ?_ | refine r_fad rfl rfl ?_ | refine r_addA rfl rfl ?_ | refine r_sem rfl rfl rfl rfl ?_ | refine r_nil ?_
          | refine r_iadA rfl rfl ?_ | refine run_seq ?_ | refine run_reg ?_ | refine run_regd rfl ?_ | refine run_block ?_ | refine run_skip ?_ | refine fin_seq ?_ | refine fin_blk ?_
          | refine run_condF rfl ?_)
        refine fin_loop (run_weak (weak_S ?_ ?_) hnext)
        · exact ⟨rfl, rfl, rfl, trivial⟩
        · exact ⟨rfl, trivial⟩
    · have hki : k = i := by simp at h2; omega
      have hnext := ih (i + 1) ⟨hlt, hgc.succ hxi e1, hoc.succ hxi fun k' y hk' hy => hno k' y (by omega) hy⟩ (by omega)
      clear ih ihk hr hx hno
      repeat (first
        | refine r_mv_p rfl ?_ | refine r_addA rfl rfl ?_ | refine r_nil ?_ | refine run_reg ?_ | refine run_exit ?_ | refine fin_seq ?_ | refine fin_seq_e ?_ | refine fin_blk ?_
        | refine fin_blk_e ?_ | refine fin_loop_e ?_)
      refine fin_loop (run_weak (weak_S ?_ ?_) hnext)
      · exact ⟨rfl, rfl, trivial⟩
      · exact ⟨rfl, trivial⟩
  have hcl : i = h.counted.xs.length := by simp at h1; omega
  clear ih h1
  rw [hcl] at hgc hoc
  have hr1 : r = true := hr.2 ⟨hg, ho, hot, hgc, hoc⟩
  subst hr1
  repeat (first
    | refine r_mv_p rfl ?_ | refine r_nil ?_ | refine run_seq ?_ | refine run_reg ?_ | refine run_exit ?_ | refine run_ret ?_ | refine fin_seq ?_ | refine fin_seq_e ?_
    | refine fin_blk_e ?_ | refine fin_loop_e ?_)
  exact fin_out rfl rfl

/-- What of an item and lot there should be by the totals, less what there is. -/
def House.balance (h : House) (i c : Str) : Int :=
  w64 (w64 (w64 (w64 (((h.total? i c).getD ⟨i, c, 0, 0, 0, 0⟩).tin - ((h.total? i c).getD ⟨i, c, 0, 0, 0, 0⟩).out) + ((h.total? i c).getD ⟨i, c, 0, 0, 0, 0⟩).back) + ((h.total? i c).getD ⟨i, c, 0, 0, 0, 0⟩).fixed) - h.sum i c)
theorem balance26 (h : House) (i c : Str) : Ret Tryz.prog 26 [.agg h.enc, .v (.string i), .v (.string c)] (.v (.int .i64 (h.balance i c))) := by
  refine ret26 rfl fun hbd => ?_
  have ct := refFindTotal h i c
  have cs := total74 h i c
  unfold House.balance
  unfold totalOut at ct
  generalize (h.total? i c).isSome = b at *
  generalize (h.total? i c).getD ⟨i, c, 0, 0, 0, 0⟩ = t at *
  generalize h.sum i c = n at *
  unfold c26
  repeat (first
    | refine r_call rfl (ct) ?_ | refine r_call rfl (cs) ?_ | refine r_mv_p rfl ?_ | refine r_fad rfl rfl ?_ | refine r_loadB rfl rfl ?_ | refine r_sem rfl rfl rfl rfl ?_
    | refine r_nil ?_ | refine r_storeAll rfl rfl rfl rfl rfl rfl ?_ | refine r_alloc rfl ?_ | refine r_box rfl rfl rfl ?_ | refine run_seq ?_ | refine run_reg ?_ | refine run_regd rfl ?_
    | refine run_ret ?_ | refine fin_seq ?_)
  exact fin_out rfl rfl
end Go.Fw
