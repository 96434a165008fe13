/-
  Counts: how a quant is put or dropped, what is noted, a count that is closed; by the document.
-/
import Derived.Test.YtghhmkogooancaaGreatHCp
set_option linter.unusedVariables false
set_option linter.unusedSimpArgs false
set_option maxRecDepth 10000
namespace Go.Fw
open Go.Proofs

/-! ### The document's drop -/
/-- What is left of the first i things. -/
def left {α : Type} (q : α → Bool) (xs : List α) (i : Nat) : List α := if findB q xs = true then (xs.take i).take (findI q xs).toNat ++ (xs.take i).drop ((findI q xs).toNat + 1) else xs.take i
theorem left_len {α : Type} (q : α → Bool) (xs : List α) {i : Nat} (hi : i ≤ xs.length) : (left q xs i).length ≤ i := by
  unfold left
  split <;> simp <;> omega
theorem left_zero {α : Type} (q : α → Bool) (xs : List α) : left q xs 0 = [] := by unfold left; split <;> simp
theorem left_all (x : Quant) (xs : List Quant) {i : Nat} (hi : i = xs.length) : left (eqQ quantCmp x) xs i = dropL quantCmp x xs := by
  unfold left dropL
  rw [hi, List.take_length]
/-- How far the first one was met. -/
theorem left_before {α : Type} {q : α → Bool} {xs : List α} {i : Nat} (hi : i < xs.length) (hno : ∀ j y, j < i → xs[j]? = some y → q y = false) (hq : q xs[i] = false) : left q xs (i + 1) = left q xs i ++ [xs[i]] := by
  have htake : xs.take (i + 1) = xs.take i ++ [xs[i]] := by simp
  unfold left
  split
  · rename_i hB
    obtain ⟨k, z, hk, hz, hqz, _⟩ := findB_first hB
    have hik : i < k := by
      rcases Nat.lt_trichotomy k i with h | h | h
      · rw [hno k z h hz] at hqz; cases hqz
      · subst h
        obtain ⟨_, rfl⟩ := List.getElem?_eq_some_iff.1 hz
        rw [hq] at hqz; cases hqz
      · exact h
    have hl : (xs.take i).length = i := by simp; omega
    have hl2 : (xs.take (i + 1)).length = i + 1 := by simp; omega
    rw [hk]
    show (xs.take (i + 1)).take k ++ (xs.take (i + 1)).drop (k + 1) = (xs.take i).take k ++ (xs.take i).drop (k + 1) ++ [xs[i]]
    have t1 : (xs.take (i + 1)).take k = xs.take (i + 1) := List.take_of_length_le (by omega)
    have t2 : (xs.take (i + 1)).drop (k + 1) = [] := List.drop_eq_nil_of_le (by omega)
    have t3 : (xs.take i).take k = xs.take i := List.take_of_length_le (by omega)
    have t4 : (xs.take i).drop (k + 1) = [] := List.drop_eq_nil_of_le (by omega)
    rw [t1, t2, t3, t4, htake]
    simp
  · exact htake
theorem left_at {α : Type} {q : α → Bool} {xs : List α} {i : Nat} (hi : i < xs.length) (hno : ∀ j y, j < i → xs[j]? = some y → q y = false) (hq : q xs[i] = true) : left q xs (i + 1) = left q xs i := by
  have htake : xs.take (i + 1) = xs.take i ++ [xs[i]] := by simp
  have hB : findB q xs = true := by
    cases h : findB q xs with
    | true => rfl
    | false => rw [findB_none.1 h _ (List.getElem_mem hi)] at hq; cases hq
  obtain ⟨k, z, hk, hz, hqz, hlo⟩ := findB_first hB
  have hik : k = i := by
    rcases Nat.lt_trichotomy k i with h | h | h
    · rw [hno k z h hz] at hqz; cases hqz
    · exact h
    · rw [hlo i xs[i] h (by simp)] at hq; cases hq
  have hl : (xs.take i).length = i := by simp; omega
  unfold left
  rw [if_pos hB, if_pos hB, hk, hik]
  show (xs.take (i + 1)).take i ++ (xs.take (i + 1)).drop (i + 1) = (xs.take i).take i ++ (xs.take i).drop (i + 1)
  rw [htake, List.take_append_of_le_length (by omega), List.drop_eq_nil_of_le (by simp; omega), List.drop_eq_nil_of_le (by omega)]
theorem left_behind {α : Type} {q : α → Bool} {xs : List α} {i k : Nat} (hi : i < xs.length) (hB : findB q xs = true) (hk : findI q xs = k) (hki : k < i) : left q xs (i + 1) = left q xs i ++ [xs[i]] := by
  have htake : xs.take (i + 1) = xs.take i ++ [xs[i]] := by simp
  have hl : (xs.take i).length = i := by simp; omega
  unfold left
  rw [if_pos hB, if_pos hB, hk]
  show (xs.take (i + 1)).take k ++ (xs.take (i + 1)).drop (k + 1) = (xs.take i).take k ++ (xs.take i).drop (k + 1) ++ [xs[i]]
  rw [htake, List.take_append_of_le_length (by omega), List.drop_append_of_le_length (by omega), List.append_assoc]
theorem found_at {α : Type} {q : α → Bool} {xs : List α} {i : Nat} (hi : i < xs.length) (hno : ∀ j y, j < i → xs[j]? = some y → q y = false) (hq : q xs[i] = true) : findB q xs = true ∧ findI q xs = i := by
  have hB : findB q xs = true := by
    cases h : findB q xs with
    | true => rfl
    | false => rw [findB_none.1 h _ (List.getElem_mem hi)] at hq; cases hq
  obtain ⟨k, z, hk, hz, hqz, hlo⟩ := findB_first hB
  refine ⟨hB, ?_⟩
  rw [hk]
  congr 1
  rcases Nat.lt_trichotomy k i with h | h | h
  · rw [hno k z h hz] at hqz; cases hqz
  · exact h
  · rw [hlo i xs[i] h (by simp)] at hq; cases hq
/-- Where the loop stands: not met yet, or met at k. -/
def Met {α : Type} (q : α → Bool) (xs : List α) (i : Nat) (done : Bool) : Prop := (done = false ∧ ∀ j y, j < i → xs[j]? = some y → q y = false) ∨ (done = true ∧ findB q xs = true ∧ ∃ k : Nat, findI q xs = k ∧ k < i)
set_option maxHeartbeats 16000000 in
theorem refDrop109 (x : Quant) (xs : List Quant) (sp : List (List PV)) (hbig : (xs.length + 1) * 72 ≤ 140737488355328) :
    Ret Tryz.prog 109 [.sl (xs.map Quant.enc) sp, .agg x.enc, .clo 110 []] (.sl ((dropL quantCmp x xs).map Quant.enc) []) := by
  refine RetN.ret (ty := 59) (es := 6) ?_
  refine row109 rfl fun hbd => ?_
  have hlen63 : xs.length ≤ 9223372036854775806 := by omega
  unfold c109
  repeat (first
    | refine r_mv_p rfl ?_ | refine r_nil ?_ | refine r_box rfl rfl rfl ?_ | refine r_mv_nil rfl ?_ | refine run_seq ?_ | refine run_reg ?_ | refine run_block ?_ | refine fin_seq ?_)
  refine run_weak (weak_nilRow 7 34 59 6 rfl rfl) (run_weak (weak_S ?_ ?_) (run_inv (fun p : Nat × Bool => S [(0, .p (.sl (xs.map Quant.enc) sp)), (2, .p (.clo 110 [])), (4, .own 4 0), (7, .row 34 ((left (eqQ quantCmp x) xs p.1).map Quant.enc).length), (8, .p (.v (.bool p.2))), (9, .p (.v (.int .i64 (p.1 : Nat))))] [(4, some (.box x.enc false)), (34, some (.row 59 6 ((left (eqQ quantCmp x) xs p.1).map Quant.enc) false))])
    (fun p => p.1 ≤ xs.length ∧ Met (eqQ quantCmp x) xs p.1 p.2) (fun p => xs.length - p.1) ?_ (0, false) ⟨Nat.zero_le _, .inl ⟨rfl, fun j y hj => by omega⟩⟩))
  · exact ⟨rfl, rfl, rfl, by simp only [left_zero]; rfl, rfl, rfl, trivial⟩
  · exact ⟨rfl, by simp only [left_zero]; rfl, trivial⟩
  rintro ⟨i, d⟩ ⟨hi, hmet⟩ ih
  simp only at hi hmet
  repeat (first
    | refine r_mv_p rfl ?_ | refine r_sem rfl rfl rfl rfl ?_ | refine r_nil ?_ | refine run_seq ?_ | refine run_reg ?_ | refine fin_seq ?_)
  refine run_cond rfl (fun h1 => ?_) (fun h1 => ?_)
  · have hlt : i < xs.length := by simpa using h1
    have hx : (xs.map Quant.enc)[i]? = some xs[i].enc := by simp [hlt]
    have ho := rorder110 xs[i] x
    have he : ∀ z ∈ [xs[i].enc], z.length = 6 := by intro z hz; simp at hz; subst hz; rfl
    have hll := left_len (eqQ quantCmp x) xs hi
    have hl1 : (((left (eqQ quantCmp x) xs i).map Quant.enc).length + [xs[i].enc].length) * 72 ≤ 140737488355328 := by simp only [List.length_map, List.length_cons, List.length_nil]; omega
    have hnext := ih (i + 1, d)
    have hnextT := ih (i + 1, true)
    clear ih
    rcases hmet with ⟨rfl, hno⟩ | ⟨rfl, hB, k, hk, hki⟩
    · have hs1 : (!((i, false) : Nat × Bool).snd) = true := rfl
      cases hq : decide (quantCmp xs[i] x = 0) with
      | true =>
        have hq' : eqQ quantCmp x xs[i] = true := hq
        have hE := left_at hlt hno hq'
        obtain ⟨hB, hk⟩ := found_at hlt hno hq'
        repeat (first
          | refine r_callv rfl (ho) ?_ | refine r_mv_p rfl ?_ | refine r_doA rfl ?_ | refine r_addA rfl rfl ?_ | refine r_loadA rfl ?_ | refine r_loadB rfl rfl ?_
          | refine r_pickT rfl rfl rfl ?_ | refine r_sem rfl rfl rfl rfl ?_ | refine r_nil ?_ | refine r_iadA rfl rfl ?_ | refine run_seq ?_ | refine run_reg ?_ | refine run_regd rfl ?_
          | refine run_block ?_ | refine run_skip ?_ | refine run_exit ?_ | refine fin_seq ?_ | refine fin_seq_e ?_ | refine fin_blk_e ?_ | refine run_condT rfl ?_)
        refine fin_loop (run_weak (weak_S ?_ ?_) (hnextT ⟨hlt, .inr ⟨rfl, hB, i, hk, Nat.lt_succ_self i⟩⟩ (by simp only; omega)))
        · exact ⟨rfl, rfl, rfl, by simp only; rw [hE]; rfl, rfl, rfl, trivial⟩
        · exact ⟨rfl, by simp only; rw [hE]; rfl, trivial⟩
      | false =>
        have hq' : eqQ quantCmp x xs[i] = false := hq
        have hE : (left (eqQ quantCmp x) xs (i + 1)).map Quant.enc = (left (eqQ quantCmp x) xs i).map Quant.enc ++ [xs[i].enc] := by rw [left_before hlt hno hq', List.map_append]; rfl
        repeat (first
          | refine r_callv rfl (ho) ?_ | refine r_appRow (fs := [33]) rfl rfl rfl rfl rfl rfl he hl1 (by decide) (Or.inl rfl) ?_ | refine r_mv_p rfl ?_ | refine r_doA rfl ?_
          | refine r_addA rfl rfl ?_ | refine r_loadA rfl ?_ | refine r_loadB rfl rfl ?_ | refine r_pickT rfl rfl rfl ?_ | refine r_sem rfl rfl rfl rfl ?_ | refine r_nil ?_
          | refine r_iadA rfl rfl ?_ | refine r_bsl rfl rfl rfl rfl rfl rfl ?_ | refine r_mv_rowA rfl rfl ?_ | refine run_seq ?_ | refine run_reg ?_ | refine run_regd rfl ?_
          | refine run_block ?_ | refine run_skip ?_ | refine fin_seq ?_ | refine fin_blk ?_ | refine run_condF rfl ?_)
        refine fin_loop (run_weak (weak_S ?_ ?_) (hnext ⟨hlt, .inl ⟨rfl, fun j y hj hy => ?_⟩⟩ (by simp only; omega)))
        · exact ⟨rfl, rfl, rfl, by simp only; rw [hE, List.length_append]; rfl, rfl, rfl, trivial⟩
        · exact ⟨rfl, by simp only; rw [hE]; rfl, trivial⟩
        · rcases Nat.lt_or_ge j i with hj' | hj'
          · exact hno j y hj' hy
          · obtain rfl : j = i := by simp only at hj; omega
            obtain ⟨_, rfl⟩ := List.getElem?_eq_some_iff.1 hy
            exact hq'
    · have hs1 : (!((i, true) : Nat × Bool).snd) = false := rfl
      have hE : (left (eqQ quantCmp x) xs (i + 1)).map Quant.enc = (left (eqQ quantCmp x) xs i).map Quant.enc ++ [xs[i].enc] := by rw [left_behind hlt hB hk hki, List.map_append]; rfl
      repeat (first
        | refine r_appRow (fs := [33]) rfl rfl rfl rfl rfl rfl he hl1 (by decide) (Or.inl rfl) ?_ | refine r_mv_p rfl ?_ | refine r_skipA rfl ?_ | refine r_addA rfl rfl ?_
        | refine r_loadA rfl ?_ | refine r_pickF rfl rfl rfl ?_ | refine r_sem rfl rfl rfl rfl ?_ | refine r_nil ?_ | refine r_iadA rfl rfl ?_ | refine r_bsl rfl rfl rfl rfl rfl rfl ?_
        | refine r_mv_rowA rfl rfl ?_ | refine run_seq ?_ | refine run_reg ?_ | refine run_regd rfl ?_ | refine run_block ?_ | refine run_skip ?_ | refine fin_seq ?_ | refine fin_blk ?_
        | refine run_condF rfl ?_)
      refine fin_loop (run_weak (weak_S ?_ ?_) (hnext ⟨hlt, .inr ⟨rfl, hB, k, hk, by simp only; omega⟩⟩ (by simp only; omega)))
      · exact ⟨rfl, rfl, rfl, by simp only; rw [hE, List.length_append]; rfl, rfl, rfl, trivial⟩
      · exact ⟨rfl, by simp only; rw [hE]; rfl, trivial⟩
  · have hlt : i = xs.length := by simp at h1; omega
    clear ih
    have hE := left_all x xs hlt
    rw [hE]
    repeat (first
      | refine r_nil ?_ | refine r_mv_rowA rfl rfl ?_ | refine run_seq ?_ | refine run_reg ?_ | refine run_exit ?_ | refine run_ret ?_ | refine fin_seq ?_ | refine fin_seq_e ?_
      | refine fin_blk_e ?_ | refine fin_loop_e ?_)
    exact fin_row rfl rfl rfl rfl
set_option maxHeartbeats 4000000 in
theorem refSetQuant79 (h : House) (q : Quant) (hf : h.quants.xs.length ≤ 1000) : Ret Tryz.prog 79 [.agg h.enc, .agg q.enc] (.agg (h.setQuant q).enc) := by
  refine ret79 rfl fun hbd => ?_
  have hd := refDrop109 q h.quants.xs h.quants.sp (big72 hf)
  have hp := refPut111 Quant.enc (fun _ => rfl) 110 quantCmp rorder110 q h.quants.xs h.quants.sp (big72 hf)
  unfold House.setQuant
  unfold c79
  cases h0 : decide (q.qty = 0) with
  | true =>
    rw [if_pos (of_decide_eq_true h0)]
    repeat (first
      | refine r_call rfl (hd) ?_ | refine r_fad rfl rfl ?_ | refine r_loadB rfl rfl ?_ | refine r_sem rfl rfl rfl rfl ?_ | refine r_nil ?_ | refine r_storeAll rfl rfl rfl rfl rfl rfl ?_
      | refine r_store rfl rfl rfl rfl (And.intro rfl (Nat.le_of_ble_eq_true rfl)) ?_ | refine r_alloc rfl ?_ | refine r_box rfl rfl rfl ?_ | refine run_seq ?_ | refine run_reg ?_
      | refine run_ret ?_ | refine fin_seq ?_ | refine fin_seq_r ?_ | refine run_condT rfl ?_)
    exact fin_out rfl rfl
  | false =>
    rw [if_neg (of_decide_eq_false h0)]
    repeat (first
      | refine r_call rfl (hp) ?_ | refine r_fad rfl rfl ?_ | refine r_loadB rfl rfl ?_ | refine r_sem rfl rfl rfl rfl ?_ | refine r_nil ?_ | refine r_storeAll rfl rfl rfl rfl rfl rfl ?_
      | refine r_store rfl rfl rfl rfl (And.intro rfl (Nat.le_of_ble_eq_true rfl)) ?_ | refine r_alloc rfl ?_ | refine r_box rfl rfl rfl ?_ | refine run_seq ?_ | refine run_reg ?_
      | refine run_skip ?_ | refine run_ret ?_ | refine fin_seq ?_ | refine run_condF rfl ?_)
    exact fin_out rfl rfl
end Go.Fw
