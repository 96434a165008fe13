/-
  Counts: what was counted is made true; by the program and by the document.
-/
import Derived.Test.YtghhmkogooancaaGreatHCo
import Derived.Test.YtghhmkogooancaaGreatHCoB
set_option linter.unusedVariables false
set_option linter.unusedSimpArgs false
set_option maxRecDepth 10000
namespace Go.Fw
open Go.Proofs

/-! ### One quant -/
def House.was (h : House) (c : Counted) : Quant := (h.quant? c.key).getD Quant.zero
def House.more (h : House) (c : Counted) : Int := w64 (c.qty - (h.was c).qty)
def House.now (h : House) (c : Counted) : Quant := ⟨c.bin, c.item, c.lot, c.status, c.qty, (h.was c).held⟩
def House.tot (h : House) (i c : Str) : Total := (h.total? i c).getD ⟨i, c, 0, 0, 0, 0⟩
def House.tells (h : House) (c : Counted) : Bool := (h.total? c.item c.lot).isSome || !decide (h.more c = 0)
def House.toTotal (h : House) (c : Counted) : Total := { h.tot c.item c.lot with fixed := w64 ((h.tot c.item c.lot).fixed + h.more c) }
def House.counts (h : House) (c : Counted) : House := if h.tells c = true then (h.setQuant (h.now c)).withTotal (h.toTotal c) else h.setQuant (h.now c)
def House.setE (h : House) (c : Counted) : Int :=
  if c.qty < (h.was c).held then 28
  else if ((!(h.quant? c.key).isSome && decide (0 < c.qty)) && decide (256 ≤ h.quants.xs.length)) = true then 16
  else 0
def House.setC (h : House) (c : Counted) : House × Int := if h.setE c = 0 then (h.counts c, 0) else (House.zero, h.setE c)
def House.setAll (h : House) : List Counted → House × Int
  | [] => (h, 0)
  | c :: cs => if h.setE c = 0 then (h.counts c).setAll cs else (House.zero, h.setE c)
def House.twice (h : House) (c : Counted) : Bool := ((h.item? c.item).getD Item.zero).serial && decide (1 < h.sum c.item c.lot)
def House.closed (g : House) (c : Str) (b : Bin) (cs : List Counted) : House × Int :=
  if cs.any g.twice = true then (House.zero, 22)
  else if beyond (g.load c) b = true then (House.zero, 26)
  else g.count c false
def House.close (h : House) (c r : Str) : House × Int :=
  if nameE r ≠ 0 then (House.zero, nameE r)
  else if h.frozenE c ≠ 0 then (House.zero, h.frozenE c)
  else if (h.setAll (h.counted.xs.filter (inBin c))).2 ≠ 0 then (House.zero, (h.setAll (h.counted.xs.filter (inBin c))).2)
  else (h.setAll (h.counted.xs.filter (inBin c))).1.closed c ((h.bin? c).getD Bin.zero) (h.counted.xs.filter (inBin c))

theorem dropL_length {α : Type} (cmp : α → α → Int) (x : α) (xs : List α) : (dropL cmp x xs).length ≤ xs.length := by
  unfold dropL
  split
  · simp; omega
  · simp
theorem setQuant_len (h : House) (q : Quant) : (h.setQuant q).quants.xs.length ≤ h.quants.xs.length + 1 := by
  unfold House.setQuant
  split
  · exact Nat.le_trans (dropL_length quantCmp q h.quants.xs) (Nat.le_succ _)
  · exact (put_length quantCmp q h.quants.xs).2
/-- No list is very long. -/
structure Few (h : House) (n : Nat) : Prop where
  quants : h.quants.xs.length ≤ n
  totals : h.totals.xs.length ≤ n
  bins : h.bins.xs.length ≤ n
  counted : h.counted.xs.length ≤ n
theorem setQuant_same (h : House) (q : Quant) : (h.setQuant q).totals = h.totals ∧ (h.setQuant q).bins = h.bins ∧ (h.setQuant q).counted = h.counted ∧ (h.setQuant q).items = h.items ∧ (h.setQuant q).lots = h.lots ∧ (h.setQuant q).zones = h.zones := by
  unfold House.setQuant
  split <;> exact ⟨rfl, rfl, rfl, rfl, rfl, rfl⟩
theorem counts_few {h : House} {n : Nat} (hf : Few h n) (c : Counted) : Few (h.counts c) (n + 1) := by
  obtain ⟨s1, s2, s3, -⟩ := setQuant_same h (h.now c)
  have hl := setQuant_len h (h.now c)
  have f1 := hf.quants
  have f2 := hf.totals
  have f3 := hf.bins
  have f4 := hf.counted
  unfold House.counts
  split
  · refine ⟨by show (h.setQuant (h.now c)).quants.xs.length ≤ _; omega, ?_, by show (h.setQuant (h.now c)).bins.xs.length ≤ _; rw [s2]; omega, by show (h.setQuant (h.now c)).counted.xs.length ≤ _; rw [s3]; omega⟩
    have := (put_length totalCmp (h.toTotal c) (h.setQuant (h.now c)).totals.xs).2
    rw [s1] at this
    show (putL totalCmp (h.toTotal c) (h.setQuant (h.now c)).totals.xs).length ≤ _
    rw [s1]; omega
  · exact ⟨by omega, by rw [s1]; omega, by rw [s2]; omega, by rw [s3]; omega⟩

theorem total_some {h : House} {i c : Str} : findB (fun y : Total => decide (totalCmp y ⟨i, c, 0, 0, 0, 0⟩ = 0)) h.totals.xs = (h.total? i c).isSome := by
  have hq : (fun y : Total => decide (totalCmp y ⟨i, c, 0, 0, 0, 0⟩ = 0)) = fun y => decide (y.item = i) && decide (y.lot = c) := by
    funext y; rw [Bool.eq_iff_iff]; simp [total0]
  rw [hq, findB_find]; rfl
theorem total_at {h : House} {i c : Str} {t : Total} (ht : h.total? i c = some t) : 0 ≤ findI (fun y : Total => decide (totalCmp y ⟨i, c, 0, 0, 0, 0⟩ = 0)) h.totals.xs ∧ (h.totals.xs.map Total.enc)[(findI (fun y : Total => decide (totalCmp y ⟨i, c, 0, 0, 0, 0⟩ = 0)) h.totals.xs).toNat]? = some t.enc := by
  have hq : (fun y : Total => decide (totalCmp y ⟨i, c, 0, 0, 0, 0⟩ = 0)) = fun y => decide (y.item = i) && decide (y.lot = c) := by
    funext y; rw [Bool.eq_iff_iff]; simp [total0]
  rw [hq]
  have h0 : 0 ≤ firstI (fun y : Total => decide (y.item = i) && decide (y.lot = c)) h.totals.xs 0 := by
    rcases Int.lt_or_le (firstI (fun y : Total => decide (y.item = i) && decide (y.lot = c)) h.totals.xs 0) 0 with h1 | h1
    · have := find_none h1
      unfold House.total? at ht
      rw [this] at ht; cases ht
    · exact h1
  obtain ⟨x, g1, g2, g3⟩ := find_first h0
  have hx : x = t := by
    have : h.totals.xs.find? (fun y : Total => decide (y.item = i) && decide (y.lot = c)) = some t := ht
    rw [g2] at this; cases this; rfl
  subst hx
  have hi : findI (fun y : Total => decide (y.item = i) && decide (y.lot = c)) h.totals.xs = firstI (fun y : Total => decide (y.item = i) && decide (y.lot = c)) h.totals.xs 0 := if_pos h0
  rw [hi]
  exact ⟨h0, by rw [List.getElem?_map, g1]; rfl⟩
theorem big72 {n : Nat} (h : n ≤ 1000) : (n + 1) * 72 ≤ 140737488355328 := Nat.le_trans (Nat.mul_le_mul_right 72 (show n + 1 ≤ 1001 by omega)) (by decide)
theorem big72' {n : Nat} (h : n ≤ 1000) : n * 72 ≤ 140737488355328 := Nat.le_trans (Nat.mul_le_mul_right 72 h) (by decide)
theorem big64 {n : Nat} (h : n ≤ 1000) : (n + 1) * 64 ≤ 140737488355328 := Nat.le_trans (Nat.mul_le_mul_right 64 (show n + 1 ≤ 1001 by omega)) (by decide)
theorem big80 {n : Nat} (h : n ≤ 1000) : (n + 1) * 80 ≤ 140737488355328 := Nat.le_trans (Nat.mul_le_mul_right 80 (show n + 1 ≤ 1001 by omega)) (by decide)
/-- The end of a set: the total. -/
def afterQ (h : House) (c : Counted) : House := h.setQuant (h.now c)
set_option maxHeartbeats 16000000 in
theorem set71 (h : House) (c : Counted) (hf : Few h 1000) : Ret Tryz.prog 71 [.agg h.enc, .agg c.enc] (houseOut (h.setC c)) := by
  refine ret71 rfl fun hbd => ?_
  have hq := findQuant h c.key
  have hwas : (h.was c) = (h.quant? c.key).getD Quant.zero := rfl
  have hll : (h.quants.xs.map Quant.enc).length = h.quants.xs.length := List.length_map ..
  have hS : h.setE c = if c.qty < (h.was c).held then 28 else if ((!(h.quant? c.key).isSome && decide (0 < c.qty)) && decide (256 ≤ h.quants.xs.length)) = true then 16 else 0 := rfl
  have hmore : h.more c = w64 (c.qty - (h.was c).qty) := rfl
  have hdrop := dropR100 Quant.enc (fun _ => rfl) 116 quantCmp order116 (h.now c) h.quants.xs h.quants.sp (big72' hf.quants)
  have hput := put101 Quant.enc (fun _ => rfl) 116 quantCmp order116 (h.now c) h.quants.xs h.quants.sp (big72 hf.quants)
  have hnow : h.now c = ⟨c.bin, c.item, c.lot, c.status, c.qty, (h.was c).held⟩ := rfl
  unfold House.setC
  unfold quantOut at hq
  rw [← hwas] at hq
  obtain ⟨wq, hwq⟩ : ∃ wq, wq = h.was c := ⟨_, rfl⟩
  have hfind : Ret Tryz.prog 103 [.agg [.clo 134 []], .sl (h.totals.xs.map Total.enc) h.totals.sp, .agg (Total.enc ⟨c.item, c.lot, 0, 0, 0, 0⟩)] (.tup [.v (.int .i64 (findI (fun y : Total => decide (totalCmp y ⟨c.item, c.lot, 0, 0, 0, 0⟩ = 0)) h.totals.xs)), .v (.bool (h.total? c.item c.lot).isSome)]) := by
    have := find103 Total.enc (fun _ => rfl) 134 totalCmp order134 ⟨c.item, c.lot, 0, 0, 0, 0⟩ h.totals.xs h.totals.sp
    rw [total_some] at this; exact this
  have hputT := put104 Total.enc (fun _ => rfl) 134 totalCmp order134 (h.toTotal c) h.totals.xs h.totals.sp (big64 hf.totals)
  unfold c71
  cases k1 : decide (c.qty < (h.was c).held) with
  | true =>
    rw [hS, if_pos (of_decide_eq_true k1), if_neg (by decide)]
    repeat (first
      | refine r_call rfl (hq) ?_ | refine r_mv_p rfl ?_ | refine r_fad rfl rfl ?_ | refine r_loadB rfl rfl ?_ | refine r_sem rfl rfl rfl rfl ?_ | refine r_nil ?_
      | refine r_storeAll rfl rfl rfl rfl rfl rfl ?_ | refine r_alloc rfl ?_ | refine r_box rfl rfl rfl ?_ | refine run_seq ?_ | refine run_reg ?_ | refine run_block ?_ | refine run_ret ?_
      | refine fin_seq ?_ | refine fin_seq_r ?_ | refine fin_blk_r ?_ | refine run_condT rfl ?_)
    exact fin_out rfl rfl
  | false =>
    rw [if_neg (of_decide_eq_false k1)] at hS
    by_cases hfull : ((!(h.quant? c.key).isSome && decide (0 < c.qty)) && decide (256 ≤ h.quants.xs.length)) = true
    · rw [hS, if_pos hfull, if_neg (by decide)]
      simp only [Bool.and_eq_true] at hfull
      obtain ⟨⟨f1, f2⟩, f3⟩ := hfull
      have f4 : decide ((256 : Int) ≤ (((h.quants.xs.map Quant.enc).length : Nat) : Int)) = true := by rw [hll]; have := of_decide_eq_true f3; simp; omega
      repeat (first
        | refine r_call rfl (hq) ?_ | refine r_mv_p rfl ?_ | refine r_doA rfl ?_ | refine r_fad rfl rfl ?_ | refine r_loadB rfl rfl ?_ | refine r_pickT rfl rfl rfl ?_
        | refine r_sem rfl rfl rfl rfl ?_ | refine r_nil ?_ | refine r_storeAll rfl rfl rfl rfl rfl rfl ?_ | refine r_alloc rfl ?_ | refine r_box rfl rfl rfl ?_ | refine run_seq ?_
        | refine run_reg ?_ | refine run_block ?_ | refine run_ret ?_ | refine fin_seq ?_ | refine fin_seq_r ?_ | refine fin_blk_r ?_ | refine run_condT rfl ?_ | refine run_condF rfl ?_)
      exact fin_out rfl rfl
    · rw [hS, if_neg hfull, if_pos rfl]
      -- past the guards
      repeat (first
        | refine r_call rfl (hq) ?_ | refine r_mv_p rfl ?_ | refine r_fad rfl rfl ?_ | refine r_loadB rfl rfl ?_ | refine r_sem rfl rfl rfl rfl ?_ | refine r_nil ?_
        | refine r_storeAll rfl rfl rfl rfl rfl rfl ?_ | refine r_alloc rfl ?_ | refine r_box rfl rfl rfl ?_ | refine run_seq ?_ | refine run_reg ?_ | refine run_block ?_ | refine fin_seq ?_
        | refine run_condF rfl ?_)
      refine run_reg_join (S [(2, .own 2 0), (3, .own 3 0), (4, .own 4 0), (6, .own 6 0), (26, .p (.v (.bool false)))] [(2, some (.box h.enc false)), (3, some (.box c.enc false)), (4, some (.box House.zero.enc false)), (6, some (.box (h.was c).enc false))]) ?_ ?_
      · cases f1 : (!(h.quant? c.key).isSome) with
        | false =>
          repeat (first
            | refine r_mv_p rfl ?_ | refine r_skipA rfl ?_ | refine r_pickF rfl rfl rfl ?_ | refine r_nil ?_)
          exact ⟨weak_S ⟨rfl, rfl, rfl, rfl, rfl, trivial⟩ ⟨rfl, rfl, rfl, rfl, trivial⟩⟩
        | true =>
          cases f2 : decide (0 < c.qty) with
          | false =>
            repeat (first
              | refine r_mv_p rfl ?_ | refine r_doA rfl ?_ | refine r_skipA rfl ?_ | refine r_fad rfl rfl ?_ | refine r_pickT rfl rfl rfl ?_ | refine r_pickF rfl rfl rfl ?_
              | refine r_sem rfl rfl rfl rfl ?_ | refine r_nil ?_)
            exact ⟨weak_S ⟨rfl, rfl, rfl, rfl, tb rfl rfl, trivial⟩ ⟨rfl, rfl, rfl, rfl, trivial⟩⟩
          | true =>
            have f4 : decide ((256 : Int) ≤ (((h.quants.xs.map Quant.enc).length : Nat) : Int)) = false := by
              rw [hll]
              have : ¬ 256 ≤ h.quants.xs.length := fun e => hfull (by rw [f1, f2, decide_eq_true e]; rfl)
              simp; omega
            repeat (first
              | refine r_mv_p rfl ?_ | refine r_doA rfl ?_ | refine r_fad rfl rfl ?_ | refine r_pickT rfl rfl rfl ?_ | refine r_sem rfl rfl rfl rfl ?_ | refine r_nil ?_)
            exact ⟨weak_S ⟨rfl, rfl, rfl, rfl, tb rfl f4, trivial⟩ ⟨rfl, rfl, rfl, rfl, trivial⟩⟩
      clear hq hS hfull
      repeat (first
        | refine r_mv_p rfl ?_ | refine r_fad rfl rfl ?_ | refine r_sem rfl rfl rfl rfl ?_ | refine r_nil ?_ | refine r_store rfl rfl rfl rfl (And.intro rfl (Nat.le_of_ble_eq_true rfl)) ?_
        | refine run_seq ?_ | refine run_reg ?_ | refine run_regs rfl ?_ | refine fin_far rfl ?_ | refine run_skip ?_ | refine fin_seq ?_ | refine fin_blk ?_ | refine run_condF rfl ?_)
      refine run_join (S [(2, .own 2 0), (3, .own 3 0), (4, .own 4 0), (8, .p (.v (.int .i64 (h.more c))))] [(2, some (.box (afterQ h c).enc false)), (3, some (.box c.enc false)), (4, some (.box House.zero.enc false))]) ?_ ?_
      · refine run_cond rfl (fun h0 => ?_) (fun h0 => ?_)
        · have hE : afterQ h c = h.dropQuant (h.now c) := by unfold afterQ House.setQuant; rw [if_pos (show (h.now c).qty = 0 from of_decide_eq_true h0)]
          repeat (first
            | refine r_call rfl (rows85) ?_ | refine r_call rfl (hdrop) ?_ | refine r_fad rfl rfl ?_ | refine r_loadB rfl rfl ?_ | refine r_sem rfl rfl rfl rfl ?_ | refine r_nil ?_
            | refine r_store rfl rfl rfl rfl (And.intro rfl (Nat.le_of_ble_eq_true rfl)) ?_ | refine run_regd rfl ?_)
          refine ⟨.inl ⟨rfl, weak_S ?_ ?_⟩⟩
          · exact ⟨rfl, rfl, rfl, rfl, trivial⟩
          · exact ⟨by rw [hE]; rfl, rfl, rfl, trivial⟩
        · have hE : afterQ h c = h.withQuant (h.now c) := by unfold afterQ House.setQuant; rw [if_neg (show ¬ (h.now c).qty = 0 from of_decide_eq_false h0)]
          repeat (first
            | refine r_call rfl (rows85) ?_ | refine r_call rfl (hput) ?_ | refine r_fad rfl rfl ?_ | refine r_loadB rfl rfl ?_ | refine r_sem rfl rfl rfl rfl ?_ | refine r_nil ?_
            | refine r_store rfl rfl rfl rfl (And.intro rfl (Nat.le_of_ble_eq_true rfl)) ?_ | refine run_regd rfl ?_)
          refine ⟨.inl ⟨rfl, weak_S ?_ ?_⟩⟩
          · exact ⟨rfl, rfl, rfl, rfl, trivial⟩
          · exact ⟨by rw [hE]; rfl, rfl, rfl, trivial⟩
      obtain ⟨s1, -⟩ := setQuant_same h (h.now c)
      have hC : h.counts c = if h.tells c = true then (afterQ h c).withTotal (h.toTotal c) else afterQ h c := rfl
      have hsl : ∀ g : House, g = afterQ h c → g.totals = h.totals := fun g hg => by rw [hg]; exact s1
      obtain ⟨g, hg⟩ : ∃ g, g = afterQ h c := ⟨_, rfl⟩
      have hgt := hsl g hg
      rw [← hg] at hC ⊢
      rw [hC]
      have hfind' : Ret Tryz.prog 103 [.agg [.clo 134 []], .sl (g.totals.xs.map Total.enc) g.totals.sp, .agg (Total.enc ⟨c.item, c.lot, 0, 0, 0, 0⟩)] (.tup [.v (.int .i64 (findI (fun y : Total => decide (totalCmp y ⟨c.item, c.lot, 0, 0, 0, 0⟩ = 0)) h.totals.xs)), .v (.bool (h.total? c.item c.lot).isSome)]) := by rw [hgt]; exact hfind
      have hputT' : Ret Tryz.prog 104 [.agg [.clo 134 []], .sl (g.totals.xs.map Total.enc) g.totals.sp, .agg (h.toTotal c).enc] (.sl ((putL totalCmp (h.toTotal c) g.totals.xs).map Total.enc) []) := by rw [hgt]; exact hputT
      have htt : ∀ t, h.total? c.item c.lot = some t → 0 ≤ findI (fun y : Total => decide (totalCmp y ⟨c.item, c.lot, 0, 0, 0, 0⟩ = 0)) h.totals.xs ∧ (g.totals.xs.map Total.enc)[(findI (fun y : Total => decide (totalCmp y ⟨c.item, c.lot, 0, 0, 0, 0⟩ = 0)) h.totals.xs).toNat]? = some t.enc := fun t ht => by rw [hgt]; exact total_at ht
      clear hfind hputT hdrop hput hsl s1 hC
      generalize findI (fun y : Total => decide (totalCmp y ⟨c.item, c.lot, 0, 0, 0, 0⟩ = 0)) h.totals.xs = ix at *
      have hmm : ∀ t, h.tot c.item c.lot = t → h.toTotal c = { t with fixed := IntKind.i64.wrap (t.fixed + h.more c) } := fun t ht => by rw [← ht]; rfl
      cases ht : h.total? c.item c.lot with
      | some t =>
        have htl : h.tells c = true := by unfold House.tells; rw [ht]; rfl
        obtain ⟨i1, i2⟩ := htt t ht
        obtain ⟨kx, rfl⟩ : ∃ kx : Nat, ix = kx := ⟨ix.toNat, (Int.toNat_of_nonneg i1).symm⟩
        rw [Int.toNat_natCast] at i2
        rw [if_pos htl]
        have htot : h.tot c.item c.lot = t := by unfold House.tot; rw [ht]; rfl
        have hT := hmm t htot
        rw [ht] at hfind'
        rw [Option.isSome_some] at hfind'
        rw [hT] at hputT' ⊢
        generalize h.more c = mo at *
        repeat (first
          | refine r_call rfl (rows102) ?_ | refine r_call rfl (hfind') ?_ | refine r_call rfl (hputT') ?_ | refine r_mv_p rfl ?_ | refine r_skipA rfl ?_ | refine r_fad rfl rfl ?_
          | refine r_loadA rfl ?_ | refine r_loadB rfl rfl ?_ | refine r_pickT rfl rfl rfl ?_ | refine r_sem rfl rfl rfl rfl ?_ | refine r_nil ?_ | refine r_iadA rfl rfl ?_
          | refine r_storeAll rfl rfl rfl rfl rfl rfl ?_ | refine r_store rfl rfl rfl rfl (And.intro rfl (Nat.le_of_ble_eq_true rfl)) ?_ | refine r_alloc rfl ?_ | refine run_seq ?_
          | refine run_reg ?_ | refine run_regd rfl ?_ | refine run_ret ?_ | refine fin_seq ?_ | refine run_condT rfl ?_)
        exact fin_out rfl rfl
      | none =>
        have htot : h.tot c.item c.lot = ⟨c.item, c.lot, 0, 0, 0, 0⟩ := by unfold House.tot; rw [ht]; rfl
        have hT := hmm _ htot
        rw [ht] at hfind'
        rw [Option.isSome_none] at hfind'
        have htl : h.tells c = !decide (h.more c = 0) := by unfold House.tells; rw [ht]; rfl
        rw [htl]
        rw [hT] at hputT' ⊢
        generalize h.more c = mo at *
        cases hm : (!decide (mo = 0)) with
        | true =>
          rw [if_pos rfl]
          repeat (first
            | refine r_call rfl (rows102) ?_ | refine r_call rfl (hfind') ?_ | refine r_call rfl (hputT') ?_ | refine r_mv_p rfl ?_ | refine r_doA rfl ?_ | refine r_fad rfl rfl ?_
            | refine r_loadB rfl rfl ?_ | refine r_pickF rfl rfl rfl ?_ | refine r_sem rfl rfl rfl rfl ?_ | refine r_nil ?_ | refine r_storeAll rfl rfl rfl rfl rfl rfl ?_
            | refine r_store rfl rfl rfl rfl (And.intro rfl (Nat.le_of_ble_eq_true rfl)) ?_ | refine r_alloc rfl ?_ | refine run_seq ?_ | refine run_reg ?_ | refine run_regd rfl ?_
            | refine run_skip ?_ | refine run_ret ?_ | refine fin_seq ?_ | refine run_condT rfl ?_ | refine run_condF rfl ?_)
          exact fin_out rfl rfl
        | false =>
          rw [if_neg (by decide)]
          repeat (first
            | refine r_call rfl (rows102) ?_ | refine r_call rfl (hfind') ?_ | refine r_mv_p rfl ?_ | refine r_doA rfl ?_ | refine r_fad rfl rfl ?_ | refine r_loadB rfl rfl ?_
            | refine r_pickF rfl rfl rfl ?_ | refine r_sem rfl rfl rfl rfl ?_ | refine r_nil ?_ | refine r_storeAll rfl rfl rfl rfl rfl rfl ?_ | refine r_alloc rfl ?_ | refine run_seq ?_
            | refine run_reg ?_ | refine run_regd rfl ?_ | refine run_skip ?_ | refine run_ret ?_ | refine fin_seq ?_ | refine run_condF rfl ?_)
          exact fin_out rfl rfl
end Go.Fw
