/-
  Room: other sizes, other capacities; by the program and by the document.
-/
import Derived.Test.YtdmackpiohkanaaHZa
set_option linter.unusedVariables false
set_option linter.unusedSimpArgs false
set_option maxRecDepth 10000
namespace Go.Fw
open Go.Proofs

theorem badM_no {m v w : Int} (k1 : decide (v < 0) = false) (k2 : decide (m < v) = false) (k3 : decide (w < 0) = false) (k4 : decide (m < w) = false) : ¬ badM m v w = true := by
  simp only [badM, k1, k2, k3, k4]; decide
/-! ### Another capacity -/
theorem fullC (h : House) {c : Str} {b : Bin} (hc : h.bin? c = some b) (v w : Int) : Ret Try.prog 118 [.agg h.enc, .agg ({ b with volume := v, weight := w } : Bin).enc] (.v (.bool (beyond (h.load c) { b with volume := v, weight := w }))) := by
  have hl : c = b.code := (bin_code hc).symm
  subst hl
  exact full118 h { b with volume := v, weight := w }
set_option maxHeartbeats 8000000 in
theorem limit56 (h : House) (c : Str) (v w : Int) (hbig : (h.bins.xs.length + 1) * 80 ≤ 140737488355328) : Ret Try.prog 56 [.agg h.enc, .v (.string c), .v (.int .i64 v), .v (.int .i64 w)] (houseOut (h.limit c v w)) := by
  refine ret56 rfl fun hbd => ?_
  have hf := findBin h c
  unfold c56
  unfold House.limit
  cases hc : h.bin? c with
  | none =>
    simp only [hc, itemOut_none, itemOut_some, binOut_none, binOut_some] at hf
    repeat (first
      | refine r_call rfl (hf) ?_ | refine r_mv_p rfl ?_ | refine r_loadB rfl rfl ?_ | refine r_sem rfl rfl rfl rfl ?_ | refine r_nil ?_ | refine r_storeAll rfl rfl rfl rfl rfl rfl ?_
      | refine r_alloc rfl ?_ | refine r_box rfl rfl rfl ?_ | refine run_seq ?_ | refine run_reg ?_ | refine run_block ?_ | refine run_ret ?_ | refine fin_seq ?_ | refine fin_seq_r ?_
      | refine fin_blk_r ?_ | refine run_condT rfl ?_)
    exact fin_out rfl rfl
  | some b =>
    simp only [hc, itemOut_none, itemOut_some, binOut_none, binOut_some] at hf
    simp only
    have h2 := beyond117 (h.load c) { b with volume := v, weight := w }
    have hp := put122 Bin.enc (fun _ => rfl) 149 binCmp order149 { b with volume := v, weight := w } h.bins.xs h.bins.sp hbig
    cases k1 : decide (v < 0) with
    | true =>
      rw [if_pos (show badM 1000000000000 v w = true by simp only [badM, k1, Bool.true_or])]
      repeat (first
        | refine r_call rfl (hf) ?_ | refine r_mv_p rfl ?_ | refine r_skipA rfl ?_ | refine r_loadB rfl rfl ?_ | refine r_pickT rfl rfl rfl ?_ | refine r_sem rfl rfl rfl rfl ?_
        | refine r_nil ?_ | refine r_storeAll rfl rfl rfl rfl rfl rfl ?_ | refine r_alloc rfl ?_ | refine r_box rfl rfl rfl ?_ | refine run_seq ?_ | refine run_reg ?_ | refine run_block ?_
        | refine run_ret ?_ | refine fin_seq ?_ | refine fin_seq_r ?_ | refine fin_blk_r ?_ | refine run_condT rfl ?_ | refine run_condF rfl ?_)
      exact fin_out rfl rfl
    | false =>
      cases k2 : decide ((1000000000000 : Int) < v) with
      | true =>
        rw [if_pos (show badM 1000000000000 v w = true by simp only [badM, k2, Bool.true_or, Bool.or_true])]
        repeat (first
          | refine r_call rfl (hf) ?_ | refine r_mv_p rfl ?_ | refine r_doA rfl ?_ | refine r_skipA rfl ?_ | refine r_loadB rfl rfl ?_ | refine r_pickT rfl rfl rfl ?_
          | refine r_pickF rfl rfl rfl ?_ | refine r_sem rfl rfl rfl rfl ?_ | refine r_nil ?_ | refine r_storeAll rfl rfl rfl rfl rfl rfl ?_ | refine r_alloc rfl ?_
          | refine r_box rfl rfl rfl ?_ | refine run_seq ?_ | refine run_reg ?_ | refine run_block ?_ | refine run_ret ?_ | refine fin_seq ?_ | refine fin_seq_r ?_ | refine fin_blk_r ?_
          | refine run_condT rfl ?_ | refine run_condF rfl ?_)
        exact fin_out rfl rfl
      | false =>
        cases k3 : decide (w < 0) with
        | true =>
          rw [if_pos (show badM 1000000000000 v w = true by simp only [badM, k3, Bool.true_or, Bool.or_true])]
          repeat (first
            | refine r_call rfl (hf) ?_ | refine r_mv_p rfl ?_ | refine r_doA rfl ?_ | refine r_skipA rfl ?_ | refine r_loadB rfl rfl ?_ | refine r_pickT rfl rfl rfl ?_
            | refine r_pickF rfl rfl rfl ?_ | refine r_sem rfl rfl rfl rfl ?_ | refine r_nil ?_ | refine r_storeAll rfl rfl rfl rfl rfl rfl ?_ | refine r_alloc rfl ?_
            | refine r_box rfl rfl rfl ?_ | refine run_seq ?_ | refine run_reg ?_ | refine run_block ?_ | refine run_ret ?_ | refine fin_seq ?_ | refine fin_seq_r ?_ | refine fin_blk_r ?_
            | refine run_condT rfl ?_ | refine run_condF rfl ?_)
          exact fin_out rfl rfl
        | false =>
          cases k4 : decide ((1000000000000 : Int) < w) with
          | true =>
            rw [if_pos (show badM 1000000000000 v w = true by simp only [badM, k4, Bool.true_or, Bool.or_true])]
            repeat (first
              | refine r_call rfl (hf) ?_ | refine r_mv_p rfl ?_ | refine r_doA rfl ?_ | refine r_loadB rfl rfl ?_ | refine r_pickF rfl rfl rfl ?_ | refine r_sem rfl rfl rfl rfl ?_
              | refine r_nil ?_ | refine r_storeAll rfl rfl rfl rfl rfl rfl ?_ | refine r_alloc rfl ?_ | refine r_box rfl rfl rfl ?_ | refine run_seq ?_ | refine run_reg ?_ | refine run_block ?_
              | refine run_ret ?_ | refine fin_seq ?_ | refine fin_seq_r ?_ | refine fin_blk_r ?_ | refine run_condT rfl ?_ | refine run_condF rfl ?_)
            exact fin_out rfl rfl
          | false =>
            rw [if_neg (badM_no k1 k2 k3 k4)]
            cases he : beyond (h.load c) { b with volume := v, weight := w } with
            | true =>
              rw [he] at h2
              repeat (first
                | refine r_call rfl (hf) ?_ | refine r_call rfl (h2) ?_ | refine r_call rfl (load115 h c) ?_ | refine r_mv_p rfl ?_ | refine r_doA rfl ?_ | refine r_fad rfl rfl ?_
                | refine r_loadB rfl rfl ?_ | refine r_pickF rfl rfl rfl ?_ | refine r_sem rfl rfl rfl rfl ?_ | refine r_nil ?_ | refine r_storeAll rfl rfl rfl rfl rfl rfl ?_
                | refine r_store rfl rfl rfl rfl (And.intro rfl (Nat.le_of_ble_eq_true rfl)) ?_ | refine r_alloc rfl ?_ | refine r_box rfl rfl rfl ?_ | refine run_seq ?_ | refine run_reg ?_
                | refine run_regd rfl ?_ | refine run_block ?_ | refine run_skip ?_ | refine run_ret ?_ | refine fin_seq ?_ | refine fin_seq_r ?_ | refine fin_blk ?_ | refine run_condT rfl ?_
                | refine run_condF rfl ?_)
              exact fin_out rfl rfl
            | false =>
              rw [he] at h2
              repeat (first
                | refine r_call rfl (hf) ?_ | refine r_call rfl (h2) ?_ | refine r_call rfl (load115 h c) ?_ | refine r_call rfl (rows121) ?_ | refine r_call rfl (hp) ?_ | refine r_mv_p rfl ?_
                | refine r_doA rfl ?_ | refine r_fad rfl rfl ?_ | refine r_loadB rfl rfl ?_ | refine r_pickF rfl rfl rfl ?_ | refine r_sem rfl rfl rfl rfl ?_ | refine r_nil ?_
                | refine r_storeAll rfl rfl rfl rfl rfl rfl ?_ | refine r_store rfl rfl rfl rfl (And.intro rfl (Nat.le_of_ble_eq_true rfl)) ?_ | refine r_alloc rfl ?_ | refine r_box rfl rfl rfl ?_
                | refine run_seq ?_ | refine run_reg ?_ | refine run_regd rfl ?_ | refine run_block ?_ | refine run_skip ?_ | refine run_ret ?_ | refine fin_seq ?_ | refine fin_blk ?_
                | refine run_condF rfl ?_)
              exact fin_out rfl rfl
set_option maxHeartbeats 8000000 in
theorem refLimit57 (h : House) (c : Str) (v w : Int) (hbig : (h.bins.xs.length + 1) * 80 ≤ 140737488355328) : Ret Try.prog 57 [.agg h.enc, .v (.string c), .v (.int .i64 v), .v (.int .i64 w)] (houseOut (h.limit c v w)) := by
  refine ret57 rfl fun hbd => ?_
  have hf := refFindBin h c
  unfold c57
  unfold House.limit
  cases hc : h.bin? c with
  | none =>
    simp only [hc, itemOut_none, itemOut_some, binOut_none, binOut_some] at hf
    repeat (first
      | refine r_call rfl (hf) ?_ | refine r_mv_p rfl ?_ | refine r_loadB rfl rfl ?_ | refine r_sem rfl rfl rfl rfl ?_ | refine r_nil ?_ | refine r_storeAll rfl rfl rfl rfl rfl rfl ?_
      | refine r_alloc rfl ?_ | refine r_box rfl rfl rfl ?_ | refine run_seq ?_ | refine run_reg ?_ | refine run_ret ?_ | refine fin_seq ?_ | refine fin_seq_r ?_ | refine run_condT rfl ?_)
    exact fin_out rfl rfl
  | some b =>
    simp only [hc, itemOut_none, itemOut_some, binOut_none, binOut_some] at hf
    simp only
    have h2 := fullC h hc v w
    have hp := refwithBin h { b with volume := v, weight := w } hbig
    cases k1 : decide (v < 0) with
    | true =>
      rw [if_pos (show badM 1000000000000 v w = true by simp only [badM, k1, Bool.true_or])]
      repeat (first
        | refine r_call rfl (hf) ?_ | refine r_mv_p rfl ?_ | refine r_skipA rfl ?_ | refine r_loadB rfl rfl ?_ | refine r_pickT rfl rfl rfl ?_ | refine r_sem rfl rfl rfl rfl ?_
        | refine r_nil ?_ | refine r_storeAll rfl rfl rfl rfl rfl rfl ?_ | refine r_alloc rfl ?_ | refine r_box rfl rfl rfl ?_ | refine run_seq ?_ | refine run_reg ?_ | refine run_skip ?_
        | refine run_ret ?_ | refine fin_seq ?_ | refine fin_seq_r ?_ | refine run_condT rfl ?_ | refine run_condF rfl ?_)
      exact fin_out rfl rfl
    | false =>
      cases k2 : decide ((1000000000000 : Int) < v) with
      | true =>
        rw [if_pos (show badM 1000000000000 v w = true by simp only [badM, k2, Bool.true_or, Bool.or_true])]
        repeat (first
          | refine r_call rfl (hf) ?_ | refine r_mv_p rfl ?_ | refine r_doA rfl ?_ | refine r_skipA rfl ?_ | refine r_loadB rfl rfl ?_ | refine r_pickT rfl rfl rfl ?_
          | refine r_pickF rfl rfl rfl ?_ | refine r_sem rfl rfl rfl rfl ?_ | refine r_nil ?_ | refine r_storeAll rfl rfl rfl rfl rfl rfl ?_ | refine r_alloc rfl ?_
          | refine r_box rfl rfl rfl ?_ | refine run_seq ?_ | refine run_reg ?_ | refine run_skip ?_ | refine run_ret ?_ | refine fin_seq ?_ | refine fin_seq_r ?_ | refine run_condT rfl ?_
          | refine run_condF rfl ?_)
        exact fin_out rfl rfl
      | false =>
        cases k3 : decide (w < 0) with
        | true =>
          rw [if_pos (show badM 1000000000000 v w = true by simp only [badM, k3, Bool.true_or, Bool.or_true])]
          repeat (first
            | refine r_call rfl (hf) ?_ | refine r_mv_p rfl ?_ | refine r_doA rfl ?_ | refine r_skipA rfl ?_ | refine r_loadB rfl rfl ?_ | refine r_pickT rfl rfl rfl ?_
            | refine r_pickF rfl rfl rfl ?_ | refine r_sem rfl rfl rfl rfl ?_ | refine r_nil ?_ | refine r_storeAll rfl rfl rfl rfl rfl rfl ?_ | refine r_alloc rfl ?_
            | refine r_box rfl rfl rfl ?_ | refine run_seq ?_ | refine run_reg ?_ | refine run_skip ?_ | refine run_ret ?_ | refine fin_seq ?_ | refine fin_seq_r ?_ | refine run_condT rfl ?_
            | refine run_condF rfl ?_)
          exact fin_out rfl rfl
        | false =>
          cases k4 : decide ((1000000000000 : Int) < w) with
          | true =>
            rw [if_pos (show badM 1000000000000 v w = true by simp only [badM, k4, Bool.true_or, Bool.or_true])]
            repeat (first
              | refine r_call rfl (hf) ?_ | refine r_mv_p rfl ?_ | refine r_doA rfl ?_ | refine r_loadB rfl rfl ?_ | refine r_pickF rfl rfl rfl ?_ | refine r_sem rfl rfl rfl rfl ?_
              | refine r_nil ?_ | refine r_storeAll rfl rfl rfl rfl rfl rfl ?_ | refine r_alloc rfl ?_ | refine r_box rfl rfl rfl ?_ | refine run_seq ?_ | refine run_reg ?_ | refine run_skip ?_
              | refine run_ret ?_ | refine fin_seq ?_ | refine fin_seq_r ?_ | refine run_condT rfl ?_ | refine run_condF rfl ?_)
            exact fin_out rfl rfl
          | false =>
            rw [if_neg (badM_no k1 k2 k3 k4)]
            cases he : beyond (h.load c) { b with volume := v, weight := w } with
            | true =>
              rw [he] at h2
              repeat (first
                | refine r_call rfl (hf) ?_ | refine r_call rfl (h2) ?_ | refine r_mv_p rfl ?_ | refine r_doA rfl ?_ | refine r_fad rfl rfl ?_ | refine r_loadB rfl rfl ?_
                | refine r_pickF rfl rfl rfl ?_ | refine r_sem rfl rfl rfl rfl ?_ | refine r_nil ?_ | refine r_storeAll rfl rfl rfl rfl rfl rfl ?_
                | refine r_store rfl rfl rfl rfl (And.intro rfl (Nat.le_of_ble_eq_true rfl)) ?_ | refine r_alloc rfl ?_ | refine r_box rfl rfl rfl ?_ | refine run_seq ?_ | refine run_reg ?_
                | refine run_skip ?_ | refine run_ret ?_ | refine fin_seq ?_ | refine fin_seq_r ?_ | refine run_condT rfl ?_ | refine run_condF rfl ?_)
              exact fin_out rfl rfl
            | false =>
              rw [he] at h2
              repeat (first
                | refine r_call rfl (hf) ?_ | refine r_call rfl (h2) ?_ | refine r_call rfl (hp) ?_ | refine r_mv_p rfl ?_ | refine r_doA rfl ?_ | refine r_fad rfl rfl ?_ | refine r_loadB rfl rfl ?_
                | refine r_pickF rfl rfl rfl ?_ | refine r_sem rfl rfl rfl rfl ?_ | refine r_nil ?_ | refine r_storeAll rfl rfl rfl rfl rfl rfl ?_
                | refine r_store rfl rfl rfl rfl (And.intro rfl (Nat.le_of_ble_eq_true rfl)) ?_ | refine r_alloc rfl ?_ | refine r_box rfl rfl rfl ?_ | refine run_seq ?_ | refine run_reg ?_
                | refine run_skip ?_ | refine run_ret ?_ | refine fin_seq ?_ | refine run_condF rfl ?_)
              exact fin_out rfl rfl

/-! ### Another size -/
theorem closure120 (c i : Str) (b : Bin) (hb : b.code = c) (q : Quant) : Ret Try.prog 120 [.agg q.enc, .ref b.enc 0, .ref [.v (.string i)] 0] (.v (.bool (stQ c i q))) := by
  subst hb
  refine ret120 rfl fun hbd => ?_
  unfold c120
  unfold stQ
  cases h1 : decide (q.bin = b.code) with
  | true =>
    repeat (first
      | refine r_mv_p rfl ?_ | refine r_doA rfl ?_ | refine r_fad rfl rfl ?_ | refine r_pickT rfl rfl rfl ?_ | refine r_sem rfl rfl rfl rfl ?_ | refine r_nil ?_
      | refine r_box rfl rfl rfl ?_ | refine run_seq ?_ | refine run_reg ?_ | refine run_ret ?_ | refine fin_seq ?_)
    exact fin_out rfl rfl
  | false =>
    repeat (first
      | refine r_mv_p rfl ?_ | refine r_skipA rfl ?_ | refine r_fad rfl rfl ?_ | refine r_pickF rfl rfl rfl ?_ | refine r_sem rfl rfl rfl rfl ?_ | refine r_nil ?_
      | refine r_box rfl rfl rfl ?_ | refine run_seq ?_ | refine run_reg ?_ | refine run_ret ?_ | refine fin_seq ?_)
    exact fin_out rfl rfl
theorem indexFunc148 (f : FuncId) (caps : List PV) (q : Quant → Bool) (xs : List Quant) (sp : List (List PV)) (hq : ∀ x ∈ xs, Ret Try.prog f (.agg x.enc :: caps) (.v (.bool (q x)))) :
    Ret Try.prog 148 [.sl (xs.map Quant.enc) sp, .clo f caps] (.v (.int .i64 (firstI q xs 0))) := by
  refine ret148 rfl fun hbd => ?_
  have hb : xs.length ≤ 9223372036854775807 := by
    have := hbd _ (List.mem_cons_self)
    simp only [PV.bd, PV.bd1, List.length_append, List.length_map, maxLen] at this
    omega
  unfold c148
  repeat (first
    | refine r_mv_p rfl ?_ | refine r_sem rfl rfl rfl rfl ?_ | refine r_nil ?_ | refine run_seq ?_ | refine run_reg ?_ | refine run_block ?_ | refine fin_seq ?_)
  refine run_weak (weak_S ?_ ?_) (run_inv (fun i : Nat => S [(0, .p (.sl (xs.map Quant.enc) sp)), (1, .p (.clo f caps)), (4, .p (.v (.int .i64 0))), (7, .p (.v (.int .i64 ((xs.map Quant.enc).length : Nat)))), (8, .p (.v (.int .i64 (i : Nat))))] [])
    (fun i => i ≤ xs.length ∧ firstI q xs 0 = firstI q (xs.drop i) i) (fun i => xs.length - i) ?_ 0 ⟨Nat.zero_le _, rfl⟩)
  · exact ⟨rfl, rfl, rfl, rfl, rfl, trivial⟩
  · trivial
  intro i hi ih
  obtain ⟨hi, hfst⟩ := hi
  repeat (first
    | refine r_sem rfl rfl rfl rfl ?_ | refine r_nil ?_ | refine run_seq ?_ | refine run_reg ?_ | refine fin_seq ?_)
  refine run_cond rfl (fun h => ?_) (fun h => ?_)
  · have hlt : i < xs.length := by simpa using h
    have hx : (xs.map Quant.enc)[i]? = some xs[i].enc := by simp [hlt]
    have hdrop : xs.drop i = xs[i] :: xs.drop (i + 1) := List.drop_eq_getElem_cons hlt
    repeat (first
      | refine r_callv rfl (hq xs[i] (by simp)) ?_ | refine r_mv_p rfl ?_ | refine r_loadA rfl ?_ | refine r_nil ?_ | refine r_iadA rfl rfl ?_ | refine run_seq ?_ | refine run_reg ?_
      | refine run_block ?_ | refine run_skip ?_ | refine fin_seq ?_)
    refine run_cond rfl (fun h2 => ?_) (fun h2 => ?_)
    · repeat (first
        | refine r_mv_p rfl ?_ | refine r_nil ?_ | refine run_seq ?_ | refine run_reg ?_ | refine run_ret ?_ | refine fin_seq ?_ | refine fin_seq_r ?_ | refine fin_blk_r ?_
        | refine fin_loop_r ?_)
      exact fin_out rfl (by rw [hfst, hdrop]; simp [firstI, h2])
    · repeat (first
        | refine r_mv_p rfl ?_ | refine r_addA rfl rfl ?_ | refine r_nil ?_ | refine run_reg ?_ | refine run_skip ?_ | refine fin_seq ?_ | refine fin_blk ?_)
      refine fin_loop (run_weak (weak_S ?_ ?_) (ih (i + 1) ⟨hlt, ?_⟩ (by omega)))
      · exact ⟨rfl, rfl, rfl, rfl, rfl, trivial⟩
      · trivial
      · rw [hfst, hdrop]; simp [firstI, h2]
  · have hlt : i = xs.length := by simp at h; omega
    repeat (first
      | refine r_mv_p rfl ?_ | refine r_nil ?_ | refine run_seq ?_ | refine run_reg ?_ | refine run_exit ?_ | refine run_ret ?_ | refine fin_seq ?_ | refine fin_seq_e ?_
      | refine fin_blk_e ?_ | refine fin_loop_e ?_)
    exact fin_out rfl (by rw [hfst, hlt]; simp [firstI])
theorem first_any {α : Type} (q : α → Bool) (xs : List α) : decide (0 ≤ firstI q xs 0) = xs.any q := by
  have h := findB_find (q := q) (xs := xs)
  unfold findB at h
  rw [h]
  cases hf : xs.find? q with
  | none =>
    symm
    rw [Option.isSome_none, List.any_eq_false]
    exact List.find?_eq_none.1 hf
  | some y =>
    symm
    rw [Option.isSome_some, List.any_eq_true]
    exact ⟨y, List.mem_of_find?_eq_some hf, List.find?_some hf⟩
theorem contains119 (f : FuncId) (caps : List PV) (q : Quant → Bool) (xs : List Quant) (sp : List (List PV)) (hq : ∀ x ∈ xs, Ret Try.prog f (.agg x.enc :: caps) (.v (.bool (q x)))) :
    Ret Try.prog 119 [.sl (xs.map Quant.enc) sp, .clo f caps] (.v (.bool (xs.any q))) := by
  refine ret119 rfl fun hbd => ?_
  unfold c119
  repeat (first
    | refine r_call rfl (indexFunc148 f caps q xs sp hq) ?_ | refine r_mv_p rfl ?_ | refine r_sem rfl rfl rfl rfl ?_ | refine r_nil ?_ | refine run_seq ?_ | refine run_reg ?_
    | refine run_ret ?_ | refine fin_seq ?_)
  exact fin_out rfl (by rw [first_any])
def badBin (g : House) (i : Str) (b : Bin) : Bool := g.stands b.code i && g.full b
theorem resize_cases (h : House) (i : Str) (v w : Int) {x : Item} (hx : h.item? i = some x) (hm : ¬ badM 1000000 v w = true) : h.resize i v w = if (h.withItem { x with volume := v, weight := w }).bins.xs.any (badBin (h.withItem { x with volume := v, weight := w }) i) = true then (House.zero, 26) else (h.withItem { x with volume := v, weight := w }, 0) := by
  unfold House.resize
  rw [hx]
  simp only
  rw [if_neg hm]; rfl
theorem resize_bad (h : House) (i : Str) (v w : Int) {x : Item} (hx : h.item? i = some x) (hm : badM 1000000 v w = true) : h.resize i v w = (House.zero, 5) := by
  unfold House.resize
  rw [hx]
  simp only
  rw [if_pos hm]
theorem any_take_succ {α : Type} (q : α → Bool) (xs : List α) (i : Nat) (hi : i < xs.length) : (xs.take (i + 1)).any q = ((xs.take i).any q || q xs[i]) := by
  rw [← List.take_append_getElem hi, List.any_append]; simp
theorem any_of_at {α : Type} (q : α → Bool) (xs : List α) (i : Nat) (hi : i < xs.length) (h : q xs[i] = true) : xs.any q = true := List.any_eq_true.2 ⟨xs[i], List.getElem_mem hi, h⟩
set_option maxHeartbeats 16000000 in
theorem resize54 (h : House) (i : Str) (v w : Int) (hbig : (h.items.xs.length + 1) * 136 ≤ 140737488355328) (hbb : h.bins.xs.length ≤ 9223372036854775806) : Ret Try.prog 54 [.agg h.enc, .v (.string i), .v (.int .i64 v), .v (.int .i64 w)] (houseOut (h.resize i v w)) := by
  refine ret54 rfl fun hbd => ?_
  have hf := itemsFind h i
  unfold c54
  cases hc : h.item? i with
  | none =>
    have hR : h.resize i v w = (House.zero, 12) := by unfold House.resize; rw [hc]
    rw [hR]
    simp only [hc, itemOut_none, itemOut_some, binOut_none, binOut_some] at hf
    repeat (first
      | refine r_call rfl (hf) ?_ | refine r_mv_p rfl ?_ | refine r_loadB rfl rfl ?_ | refine r_sem rfl rfl rfl rfl ?_ | refine r_nil ?_ | refine r_storeAll rfl rfl rfl rfl rfl rfl ?_
      | refine r_alloc rfl ?_ | refine r_box rfl rfl rfl ?_ | refine run_seq ?_ | refine run_reg ?_ | refine run_block ?_ | refine run_ret ?_ | refine fin_seq ?_ | refine fin_seq_r ?_
      | refine fin_blk_r ?_ | refine run_condT rfl ?_)
    exact fin_out rfl rfl
  | some x =>
    simp only [hc, itemOut_none, itemOut_some, binOut_none, binOut_some] at hf
    have hp := put89 Item.enc (fun _ => rfl) 131 itemCmp items_order { x with volume := v, weight := w } h.items.xs h.items.sp hbig
    cases k1 : decide (v < 0) with
    | true =>
      rw [resize_bad h i v w hc (by simp only [badM, k1, Bool.true_or])]
      repeat (first
        | refine r_call rfl (hf) ?_ | refine r_mv_p rfl ?_ | refine r_skipA rfl ?_ | refine r_loadB rfl rfl ?_ | refine r_pickT rfl rfl rfl ?_ | refine r_sem rfl rfl rfl rfl ?_
        | refine r_nil ?_ | refine r_storeAll rfl rfl rfl rfl rfl rfl ?_ | refine r_alloc rfl ?_ | refine r_box rfl rfl rfl ?_ | refine run_seq ?_ | refine run_reg ?_ | refine run_block ?_
        | refine run_ret ?_ | refine fin_seq ?_ | refine fin_seq_r ?_ | refine fin_blk_r ?_ | refine run_condT rfl ?_ | refine run_condF rfl ?_)
      exact fin_out rfl rfl
    | false =>
      cases k2 : decide ((1000000 : Int) < v) with
      | true =>
        rw [resize_bad h i v w hc (by simp only [badM, k2, Bool.true_or, Bool.or_true])]
        repeat (first
          | refine r_call rfl (hf) ?_ | refine r_mv_p rfl ?_ | refine r_doA rfl ?_ | refine r_skipA rfl ?_ | refine r_loadB rfl rfl ?_ | refine r_pickT rfl rfl rfl ?_
          | refine r_pickF rfl rfl rfl ?_ | refine r_sem rfl rfl rfl rfl ?_ | refine r_nil ?_ | refine r_storeAll rfl rfl rfl rfl rfl rfl ?_ | refine r_alloc rfl ?_
          | refine r_box rfl rfl rfl ?_ | refine run_seq ?_ | refine run_reg ?_ | refine run_block ?_ | refine run_ret ?_ | refine fin_seq ?_ | refine fin_seq_r ?_ | refine fin_blk_r ?_
          | refine run_condT rfl ?_ | refine run_condF rfl ?_)
        exact fin_out rfl rfl
      | false =>
        cases k3 : decide (w < 0) with
        | true =>
          rw [resize_bad h i v w hc (by simp only [badM, k3, Bool.true_or, Bool.or_true])]
          repeat (first
            | refine r_call rfl (hf) ?_ | refine r_mv_p rfl ?_ | refine r_doA rfl ?_ | refine r_skipA rfl ?_ | refine r_loadB rfl rfl ?_ | refine r_pickT rfl rfl rfl ?_
            | refine r_pickF rfl rfl rfl ?_ | refine r_sem rfl rfl rfl rfl ?_ | refine r_nil ?_ | refine r_storeAll rfl rfl rfl rfl rfl rfl ?_ | refine r_alloc rfl ?_
            | refine r_box rfl rfl rfl ?_ | refine run_seq ?_ | refine run_reg ?_ | refine run_block ?_ | refine run_ret ?_ | refine fin_seq ?_ | refine fin_seq_r ?_ | refine fin_blk_r ?_
            | refine run_condT rfl ?_ | refine run_condF rfl ?_)
          exact fin_out rfl rfl
        | false =>
          cases k4 : decide ((1000000 : Int) < w) with
          | true =>
            rw [resize_bad h i v w hc (by simp only [badM, k4, Bool.true_or, Bool.or_true])]
            repeat (first
              | refine r_call rfl (hf) ?_ | refine r_mv_p rfl ?_ | refine r_doA rfl ?_ | refine r_loadB rfl rfl ?_ | refine r_pickF rfl rfl rfl ?_ | refine r_sem rfl rfl rfl rfl ?_
              | refine r_nil ?_ | refine r_storeAll rfl rfl rfl rfl rfl rfl ?_ | refine r_alloc rfl ?_ | refine r_box rfl rfl rfl ?_ | refine run_seq ?_ | refine run_reg ?_ | refine run_block ?_
              | refine run_ret ?_ | refine fin_seq ?_ | refine fin_seq_r ?_ | refine fin_blk_r ?_ | refine run_condT rfl ?_ | refine run_condF rfl ?_)
            exact fin_out rfl rfl
          | false =>
            rw [resize_cases h i v w hc (badM_no k1 k2 k3 k4)]
            repeat (first
              | refine r_call rfl (hf) ?_ | refine r_call rfl (rowsItems) ?_ | refine r_call rfl (hp) ?_ | refine r_mv_p rfl ?_ | refine r_doA rfl ?_ | refine r_fad rfl rfl ?_
              | refine r_loadB rfl rfl ?_ | refine r_pickF rfl rfl rfl ?_ | refine r_sem rfl rfl rfl rfl ?_ | refine r_nil ?_ | refine r_storeAll rfl rfl rfl rfl rfl rfl ?_
              | refine r_store rfl rfl rfl rfl (And.intro rfl (Nat.le_of_ble_eq_true rfl)) ?_ | refine r_alloc rfl ?_ | refine r_box rfl rfl rfl ?_ | refine run_seq ?_ | refine run_reg ?_
              | refine run_regd rfl ?_ | refine run_block ?_ | refine run_skip ?_ | refine fin_seq ?_ | refine fin_blk ?_ | refine run_condF rfl ?_)
            obtain ⟨g, hg⟩ : ∃ g, g = h.withItem { x with volume := v, weight := w } := ⟨_, rfl⟩
            have hgb : h.bins = g.bins := by rw [hg]; rfl
            have hgq : h.quants = g.quants := by rw [hg]; rfl
            rw [← hg]
            clear hp
            refine run_weak (weak_fzB (d := 5) rfl) (run_weak (weak_S ?_ ?_) (run_inv (fun k : Nat => S [(4, .own 4 0), (5, .own 5 0), (8, .own 8 0), (52, .p (.sl (g.bins.xs.map Bin.enc) g.bins.sp)), (53, .p (.v (.int .i64 ((g.bins.xs.map Bin.enc).length : Nat)))), (54, .p (.v (.int .i64 (k : Nat))))] [(4, some (.box g.enc false)), (5, some (.box [.v (.string i)] true)), (8, some (.box House.zero.enc false))])
              (fun k => k ≤ g.bins.xs.length ∧ (g.bins.xs.take k).any (badBin g i) = false) (fun k => g.bins.xs.length - k) ?_ 0 ⟨Nat.zero_le _, by simp⟩))
            · exact ⟨rfl, rfl, rfl, tp rfl (by rw [← hgb]; rfl), tp rfl (by rw [← hgb]), rfl, trivial⟩
            · exact ⟨by rw [hg]; rfl, rfl, rfl, trivial⟩
            rintro k ⟨hk, hno⟩ ih
            rw [hgb] at hbb
            repeat (first
              | refine r_sem rfl rfl rfl rfl ?_ | refine r_nil ?_ | refine run_seq ?_ | refine run_reg ?_ | refine fin_seq ?_)
            refine run_cond rfl (fun h1 => ?_) (fun h1 => ?_)
            · have hlt : k < g.bins.xs.length := by simpa using h1
              have hbk : (g.bins.xs.map Bin.enc)[k]? = some g.bins.xs[k].enc := by simp [hlt]
              obtain ⟨b, hb⟩ : ∃ b, b = g.bins.xs[k] := ⟨_, rfl⟩
              have hat := any_take_succ (badBin g i) g.bins.xs k hlt
              have hany := any_of_at (badBin g i) g.bins.xs k hlt
              rw [← hb] at hbk hat hany
              have hct : Ret Try.prog 119 [.sl (g.quants.xs.map Quant.enc) g.quants.sp, .clo 120 [.ref b.enc 0, .ref [.v (.string i)] 0]] (.v (.bool (g.stands b.code i))) := contains119 120 _ (stQ b.code i) g.quants.xs g.quants.sp (fun q _ => closure120 b.code i b rfl q)
              cases hst : g.stands b.code i with
              | true =>
                rw [hst] at hct
                have h2 : Ret Try.prog 117 [.agg (amEnc (g.load b.code)), .agg b.enc] (.v (.bool (g.full b))) := beyond117 (g.load b.code) b
                cases hfu : g.full b with
                | true =>
                  rw [hfu] at h2
                  rw [if_pos (hany (by rw [badBin, hst, hfu]; rfl))]
                  repeat (first
                    | refine r_call rfl (hct) ?_ | refine r_call rfl (load115 g b.code) ?_ | refine r_call rfl (h2) ?_ | refine r_mv_p rfl ?_ | refine r_doA rfl ?_ | refine r_fad rfl rfl ?_
                    | refine r_loadA rfl ?_ | refine r_loadB rfl rfl ?_ | refine r_pickT rfl rfl rfl ?_ | refine r_sem rfl rfl rfl rfl ?_ | refine r_nil ?_ | refine r_iadA rfl rfl ?_
                    | refine r_storeAll rfl rfl rfl rfl rfl rfl ?_ | refine r_alloc rfl ?_ | refine r_semF rfl rfl rfl rfl ?_ | refine run_seq ?_ | refine run_reg ?_ | refine run_regd rfl ?_
                    | refine run_block ?_ | refine run_skip ?_ | refine run_ret ?_ | refine fin_seq ?_ | refine fin_seq_r ?_ | refine fin_blk_r ?_ | refine fin_loop_r ?_ | refine run_condT rfl ?_)
                  exact fin_out rfl rfl
                | false =>
                  rw [hfu] at h2
                  repeat (first
                    | refine r_call rfl (hct) ?_ | refine r_call rfl (load115 g b.code) ?_ | refine r_call rfl (h2) ?_ | refine r_mv_p rfl ?_ | refine r_doA rfl ?_ | refine r_fad rfl rfl ?_
                    | refine r_addA rfl rfl ?_ | refine r_loadA rfl ?_ | refine r_loadB rfl rfl ?_ | refine r_pickT rfl rfl rfl ?_ | refine r_sem rfl rfl rfl rfl ?_ | refine r_nil ?_
                    | refine r_iadA rfl rfl ?_ | refine r_storeAll rfl rfl rfl rfl rfl rfl ?_ | refine r_alloc rfl ?_ | refine r_semF rfl rfl rfl rfl ?_ | refine run_seq ?_ | refine run_reg ?_
                    | refine run_regd rfl ?_ | refine run_block ?_ | refine run_skip ?_ | refine fin_seq ?_ | refine fin_blk ?_ | refine run_condF rfl ?_)
                  refine fin_loop (run_weak (weak_S ?_ ?_) (ih (k + 1) ⟨hlt, ?_⟩ (by omega)))
                  · exact ⟨rfl, rfl, rfl, rfl, rfl, rfl, trivial⟩
                  · exact ⟨rfl, rfl, rfl, trivial⟩
                  · rw [hat, hno, badBin, hst, hfu]; rfl
              | false =>
                rw [hst] at hct
                repeat (first
                  | refine r_call rfl (hct) ?_ | refine r_mv_p rfl ?_ | refine r_skipA rfl ?_ | refine r_fad rfl rfl ?_ | refine r_addA rfl rfl ?_ | refine r_loadA rfl ?_
                  | refine r_pickF rfl rfl rfl ?_ | refine r_sem rfl rfl rfl rfl ?_ | refine r_nil ?_ | refine r_iadA rfl rfl ?_ | refine r_storeAll rfl rfl rfl rfl rfl rfl ?_ | refine r_alloc rfl ?_
                  | refine r_semF rfl rfl rfl rfl ?_ | refine run_seq ?_ | refine run_reg ?_ | refine run_regd rfl ?_ | refine run_block ?_ | refine run_skip ?_ | refine fin_seq ?_ | refine fin_blk ?_
                  | refine run_condF rfl ?_)
                refine fin_loop (run_weak (weak_S ?_ ?_) (ih (k + 1) ⟨hlt, ?_⟩ (by omega)))
                · exact ⟨rfl, rfl, rfl, rfl, rfl, rfl, trivial⟩
                · exact ⟨rfl, rfl, rfl, trivial⟩
                · rw [hat, hno, badBin, hst]; rfl
            · have hlt : k = g.bins.xs.length := by simp at h1; omega
              rw [if_neg (show ¬ g.bins.xs.any (badBin g i) = true by rw [← List.take_length (l := g.bins.xs), ← hlt, hno]; simp)]
              repeat (first
                | refine r_mv_p rfl ?_ | refine r_loadB rfl rfl ?_ | refine r_nil ?_ | refine r_storeAll rfl rfl rfl rfl rfl rfl ?_ | refine run_seq ?_ | refine run_reg ?_ | refine run_exit ?_
                | refine run_ret ?_ | refine fin_seq ?_ | refine fin_seq_e ?_ | refine fin_blk_e ?_ | refine fin_loop_e ?_)
              exact fin_out rfl rfl
set_option maxHeartbeats 16000000 in
theorem refResize55 (h : House) (i : Str) (v w : Int) (hbig : (h.items.xs.length + 1) * 136 ≤ 140737488355328) (hbb : h.bins.xs.length ≤ 9223372036854775806) (hbq : h.quants.xs.length ≤ 9223372036854775806) : Ret Try.prog 55 [.agg h.enc, .v (.string i), .v (.int .i64 v), .v (.int .i64 w)] (houseOut (h.resize i v w)) := by
  refine ret55 rfl fun hbd => ?_
  have hf := refFindItem h i
  unfold c55
  cases hc : h.item? i with
  | none =>
    have hR : h.resize i v w = (House.zero, 12) := by unfold House.resize; rw [hc]
    rw [hR]
    simp only [hc, itemOut_none, itemOut_some, binOut_none, binOut_some] at hf
    repeat (first
      | refine r_call rfl (hf) ?_ | refine r_mv_p rfl ?_ | refine r_loadB rfl rfl ?_ | refine r_sem rfl rfl rfl rfl ?_ | refine r_nil ?_ | refine r_storeAll rfl rfl rfl rfl rfl rfl ?_
      | refine r_alloc rfl ?_ | refine r_box rfl rfl rfl ?_ | refine run_seq ?_ | refine run_reg ?_ | refine run_ret ?_ | refine fin_seq ?_ | refine fin_seq_r ?_ | refine run_condT rfl ?_)
    exact fin_out rfl rfl
  | some x =>
    simp only [hc, itemOut_none, itemOut_some, binOut_none, binOut_some] at hf
    have hp := refwithItem h { x with volume := v, weight := w } hbig
    cases k1 : decide (v < 0) with
    | true =>
      rw [resize_bad h i v w hc (by simp only [badM, k1, Bool.true_or])]
      repeat (first
        | refine r_call rfl (hf) ?_ | refine r_mv_p rfl ?_ | refine r_skipA rfl ?_ | refine r_loadB rfl rfl ?_ | refine r_pickT rfl rfl rfl ?_ | refine r_sem rfl rfl rfl rfl ?_
        | refine r_nil ?_ | refine r_storeAll rfl rfl rfl rfl rfl rfl ?_ | refine r_alloc rfl ?_ | refine r_box rfl rfl rfl ?_ | refine run_seq ?_ | refine run_reg ?_ | refine run_skip ?_
        | refine run_ret ?_ | refine fin_seq ?_ | refine fin_seq_r ?_ | refine run_condT rfl ?_ | refine run_condF rfl ?_)
      exact fin_out rfl rfl
    | false =>
      cases k2 : decide ((1000000 : Int) < v) with
      | true =>
        rw [resize_bad h i v w hc (by simp only [badM, k2, Bool.true_or, Bool.or_true])]
        repeat (first
          | refine r_call rfl (hf) ?_ | refine r_mv_p rfl ?_ | refine r_doA rfl ?_ | refine r_skipA rfl ?_ | refine r_loadB rfl rfl ?_ | refine r_pickT rfl rfl rfl ?_
          | refine r_pickF rfl rfl rfl ?_ | refine r_sem rfl rfl rfl rfl ?_ | refine r_nil ?_ | refine r_storeAll rfl rfl rfl rfl rfl rfl ?_ | refine r_alloc rfl ?_
          | refine r_box rfl rfl rfl ?_ | refine run_seq ?_ | refine run_reg ?_ | refine run_skip ?_ | refine run_ret ?_ | refine fin_seq ?_ | refine fin_seq_r ?_ | refine run_condT rfl ?_
          | refine run_condF rfl ?_)
        exact fin_out rfl rfl
      | false =>
        cases k3 : decide (w < 0) with
        | true =>
          rw [resize_bad h i v w hc (by simp only [badM, k3, Bool.true_or, Bool.or_true])]
          repeat (first
            | refine r_call rfl (hf) ?_ | refine r_mv_p rfl ?_ | refine r_doA rfl ?_ | refine r_skipA rfl ?_ | refine r_loadB rfl rfl ?_ | refine r_pickT rfl rfl rfl ?_
            | refine r_pickF rfl rfl rfl ?_ | refine r_sem rfl rfl rfl rfl ?_ | refine r_nil ?_ | refine r_storeAll rfl rfl rfl rfl rfl rfl ?_ | refine r_alloc rfl ?_
            | refine r_box rfl rfl rfl ?_ | refine run_seq ?_ | refine run_reg ?_ | refine run_skip ?_ | refine run_ret ?_ | refine fin_seq ?_ | refine fin_seq_r ?_ | refine run_condT rfl ?_
            | refine run_condF rfl ?_)
          exact fin_out rfl rfl
        | false =>
          cases k4 : decide ((1000000 : Int) < w) with
          | true =>
            rw [resize_bad h i v w hc (by simp only [badM, k4, Bool.true_or, Bool.or_true])]
            repeat (first
              | refine r_call rfl (hf) ?_ | refine r_mv_p rfl ?_ | refine r_doA rfl ?_ | refine r_loadB rfl rfl ?_ | refine r_pickF rfl rfl rfl ?_ | refine r_sem rfl rfl rfl rfl ?_
              | refine r_nil ?_ | refine r_storeAll rfl rfl rfl rfl rfl rfl ?_ | refine r_alloc rfl ?_ | refine r_box rfl rfl rfl ?_ | refine run_seq ?_ | refine run_reg ?_ | refine run_skip ?_
              | refine run_ret ?_ | refine fin_seq ?_ | refine fin_seq_r ?_ | refine run_condT rfl ?_ | refine run_condF rfl ?_)
            exact fin_out rfl rfl
          | false =>
            rw [resize_cases h i v w hc (badM_no k1 k2 k3 k4)]
            obtain ⟨g, hg⟩ : ∃ g, g = h.withItem { x with volume := v, weight := w } := ⟨_, rfl⟩
            have hgb : h.bins = g.bins := by rw [hg]; rfl
            have hgq : h.quants = g.quants := by rw [hg]; rfl
            rw [hgb] at hbb
            rw [hgq] at hbq
            rw [← hg] at hp ⊢
            repeat (first
              | refine r_call rfl (hf) ?_ | refine r_call rfl (hp) ?_ | refine r_mv_p rfl ?_ | refine r_doA rfl ?_ | refine r_fad rfl rfl ?_ | refine r_loadB rfl rfl ?_
              | refine r_pickF rfl rfl rfl ?_ | refine r_sem rfl rfl rfl rfl ?_ | refine r_nil ?_ | refine r_storeAll rfl rfl rfl rfl rfl rfl ?_
              | refine r_store rfl rfl rfl rfl (And.intro rfl (Nat.le_of_ble_eq_true rfl)) ?_ | refine r_alloc rfl ?_ | refine r_box rfl rfl rfl ?_ | refine run_seq ?_ | refine run_reg ?_
              | refine run_block ?_ | refine run_skip ?_ | refine fin_seq ?_ | refine run_condF rfl ?_)
            clear hp
            refine run_weak (weak_S ?_ ?_) (run_inv (fun k : Nat => S [(1, .p (.v (.string i))), (8, .own 8 0), (12, .own 12 0), (13, .p (.v (.int .i64 (k : Nat))))] [(8, some (.box House.zero.enc false)), (12, some (.box g.enc false))])
              (fun k => k ≤ g.bins.xs.length ∧ (g.bins.xs.take k).any (badBin g i) = false) (fun k => g.bins.xs.length - k) ?_ 0 ⟨Nat.zero_le _, by simp⟩)
            · exact ⟨rfl, rfl, rfl, rfl, trivial⟩
            · exact ⟨rfl, rfl, trivial⟩
            rintro k ⟨hk, hno⟩ ih
            repeat (first
              | refine r_mv_p rfl ?_ | refine r_fad rfl rfl ?_ | refine r_sem rfl rfl rfl rfl ?_ | refine r_nil ?_ | refine run_seq ?_ | refine run_reg ?_ | refine fin_seq ?_)
            refine run_cond rfl (fun h1 => ?_) (fun h1 => ?_)
            · have hlt : k < g.bins.xs.length := by simpa using h1
              have hbk : (g.bins.xs.map Bin.enc)[k]? = some g.bins.xs[k].enc := by simp [hlt]
              obtain ⟨b, hb⟩ : ∃ b, b = g.bins.xs[k] := ⟨_, rfl⟩
              have hat := any_take_succ (badBin g i) g.bins.xs k hlt
              have hany := any_of_at (badBin g i) g.bins.xs k hlt
              rw [← hb] at hbk hat hany
              repeat (first
                | refine r_mv_p rfl ?_ | refine r_nil ?_ | refine run_seq ?_ | refine run_reg ?_ | refine run_block ?_ | refine run_skip ?_ | refine fin_seq ?_)
              refine run_weak (weak_S ?_ ?_) (run_inv (fun n : Nat => S [(1, .p (.v (.string i))), (8, .own 8 0), (12, .own 12 0), (13, .p (.v (.int .i64 (k : Nat)))), (14, .p (.v (.bool ((g.quants.xs.take n).any (stQ b.code i))))), (15, .p (.v (.int .i64 (n : Nat))))] [(8, some (.box House.zero.enc false)), (12, some (.box g.enc false))])
                (fun n => n ≤ g.quants.xs.length) (fun n => g.quants.xs.length - n) ?_ 0 (Nat.zero_le _))
              · exact ⟨rfl, rfl, rfl, rfl, rfl, rfl, trivial⟩
              · exact ⟨rfl, rfl, trivial⟩
              intro n hn ih2
              repeat (first
                | refine r_mv_p rfl ?_ | refine r_fad rfl rfl ?_ | refine r_sem rfl rfl rfl rfl ?_ | refine r_nil ?_ | refine run_seq ?_ | refine run_reg ?_ | refine fin_seq ?_)
              refine run_cond rfl (fun h3 => ?_) (fun h3 => ?_)
              · have hln : n < g.quants.xs.length := by simpa using h3
                have hqn : (g.quants.xs.map Quant.enc)[n]? = some g.quants.xs[n].enc := by simp [hln]
                have hs := any_take_succ (stQ b.code i) g.quants.xs n hln
                obtain ⟨q, hq⟩ : ∃ q, q = g.quants.xs[n] := ⟨_, rfl⟩
                rw [← hq] at hqn hs
                obtain ⟨o, ho⟩ : ∃ o, o = (g.quants.xs.take n).any (stQ b.code i) := ⟨_, rfl⟩
                rw [← ho] at hs ⊢
                cases o with
                | true =>
                  repeat (first
                    | refine r_mv_p rfl ?_ | refine r_skipA rfl ?_ | refine r_skipU rfl ?_ | refine r_addA rfl rfl ?_ | refine r_pickT rfl rfl rfl ?_ | refine r_nil ?_ | refine run_seq ?_
                    | refine run_reg ?_ | refine run_regd rfl ?_ | refine run_block ?_ | refine run_skip ?_ | refine fin_seq ?_ | refine fin_blk ?_)
                  refine fin_loop (run_weak (weak_S ?_ ?_) (ih2 (n + 1) hln (by omega)))
                  · exact ⟨rfl, rfl, rfl, rfl, tb rfl (by rw [hs]; rfl), rfl, trivial⟩
                  · exact ⟨rfl, rfl, trivial⟩
                | false =>
                  cases hqb : decide (q.bin = b.code) with
                  | true =>
                    repeat (first
                      | refine r_mv_p rfl ?_ | refine r_doA rfl ?_ | refine r_fad rfl rfl ?_ | refine r_addA rfl rfl ?_ | refine r_pickT rfl rfl rfl ?_ | refine r_pickF rfl rfl rfl ?_
                      | refine r_sem rfl rfl rfl rfl ?_ | refine r_nil ?_ | refine r_iadA rfl rfl ?_ | refine run_seq ?_ | refine run_reg ?_ | refine run_regd rfl ?_ | refine run_block ?_
                      | refine run_skip ?_ | refine fin_seq ?_ | refine fin_blk ?_)
                    refine fin_loop (run_weak (weak_S ?_ ?_) (ih2 (n + 1) hln (by omega)))
                    · exact ⟨rfl, rfl, rfl, rfl, tb rfl (by rw [hs, stQ, hqb]; rfl), rfl, trivial⟩
                    · exact ⟨rfl, rfl, trivial⟩
                  | false =>
                    repeat (first
                      | refine r_mv_p rfl ?_ | refine r_doA rfl ?_ | refine r_skipA rfl ?_ | refine r_fad rfl rfl ?_ | refine r_addA rfl rfl ?_ | refine r_pickF rfl rfl rfl ?_
                      | refine r_sem rfl rfl rfl rfl ?_ | refine r_nil ?_ | refine r_iadA rfl rfl ?_ | refine run_seq ?_ | refine run_reg ?_ | refine run_regd rfl ?_ | refine run_block ?_
                      | refine run_skip ?_ | refine fin_seq ?_ | refine fin_blk ?_)
                    refine fin_loop (run_weak (weak_S ?_ ?_) (ih2 (n + 1) hln (by omega)))
                    · exact ⟨rfl, rfl, rfl, rfl, tb rfl (by rw [hs, stQ, hqb]; rfl), rfl, trivial⟩
                    · exact ⟨rfl, rfl, trivial⟩
              · have hln : n = g.quants.xs.length := by simp at h3; omega
                clear ih2
                have hst0 : (g.quants.xs.take n).any (stQ b.code i) = g.stands b.code i := by rw [hln, List.take_length]; rfl
                rw [hst0]
                have h2 := full118 g b
                cases hst : g.stands b.code i with
                | true =>
                  cases hfu : g.full b with
                  | true =>
                    rw [hfu] at h2
                    rw [if_pos (hany (by rw [badBin, hst, hfu]; rfl))]
                    repeat (first
                      | refine r_call rfl (h2) ?_ | refine r_mv_p rfl ?_ | refine r_doA rfl ?_ | refine r_fad rfl rfl ?_ | refine r_loadA rfl ?_ | refine r_loadB rfl rfl ?_ | refine r_pickT rfl rfl rfl ?_
                      | refine r_sem rfl rfl rfl rfl ?_ | refine r_nil ?_ | refine r_iadA rfl rfl ?_ | refine r_storeAll rfl rfl rfl rfl rfl rfl ?_ | refine run_seq ?_ | refine run_reg ?_
                      | refine run_regd rfl ?_ | refine run_exit ?_ | refine run_ret ?_ | refine fin_seq ?_ | refine fin_seq_e ?_ | refine fin_seq_r ?_ | refine fin_blk_e ?_ | refine fin_blk_r ?_
                      | refine fin_loop_e ?_ | refine fin_loop_r ?_ | refine run_condT rfl ?_)
                    exact fin_out rfl rfl
                  | false =>
                    rw [hfu] at h2
                    repeat (first
                      | refine r_call rfl (h2) ?_ | refine r_mv_p rfl ?_ | refine r_doA rfl ?_ | refine r_fad rfl rfl ?_ | refine r_addA rfl rfl ?_ | refine r_loadA rfl ?_ | refine r_loadB rfl rfl ?_
                      | refine r_pickT rfl rfl rfl ?_ | refine r_sem rfl rfl rfl rfl ?_ | refine r_nil ?_ | refine r_iadA rfl rfl ?_ | refine run_seq ?_ | refine run_reg ?_ | refine run_regd rfl ?_
                      | refine run_skip ?_ | refine run_exit ?_ | refine fin_seq ?_ | refine fin_seq_e ?_ | refine fin_blk ?_ | refine fin_blk_e ?_ | refine fin_loop_e ?_ | refine run_condF rfl ?_)
                    refine fin_loop (run_weak (weak_S ?_ ?_) (ih (k + 1) ⟨hlt, ?_⟩ (by omega)))
                    · exact ⟨rfl, rfl, rfl, rfl, trivial⟩
                    · exact ⟨rfl, rfl, trivial⟩
                    · rw [hat, hno, badBin, hst, hfu]; rfl
                | false =>
                  repeat (first
                    | refine r_mv_p rfl ?_ | refine r_skipA rfl ?_ | refine r_addA rfl rfl ?_ | refine r_pickF rfl rfl rfl ?_ | refine r_nil ?_ | refine run_seq ?_ | refine run_reg ?_
                    | refine run_regd rfl ?_ | refine run_skip ?_ | refine run_exit ?_ | refine fin_seq ?_ | refine fin_seq_e ?_ | refine fin_blk ?_ | refine fin_blk_e ?_ | refine fin_loop_e ?_
                    | refine run_condF rfl ?_)
                  refine fin_loop (run_weak (weak_S ?_ ?_) (ih (k + 1) ⟨hlt, ?_⟩ (by omega)))
                  · exact ⟨rfl, rfl, rfl, rfl, trivial⟩
                  · exact ⟨rfl, rfl, trivial⟩
                  · rw [hat, hno, badBin, hst]; rfl
            · have hlt : k = g.bins.xs.length := by simp at h1; omega
              rw [if_neg (show ¬ g.bins.xs.any (badBin g i) = true by rw [← List.take_length (l := g.bins.xs), ← hlt, hno]; simp)]
              repeat (first
                | refine r_mv_p rfl ?_ | refine r_loadB rfl rfl ?_ | refine r_nil ?_ | refine r_storeAll rfl rfl rfl rfl rfl rfl ?_ | refine run_seq ?_ | refine run_reg ?_ | refine run_exit ?_
                | refine run_ret ?_ | refine fin_seq ?_ | refine fin_seq_e ?_ | refine fin_blk_e ?_ | refine fin_loop_e ?_)
              exact fin_out rfl rfl
end Go.Fw
