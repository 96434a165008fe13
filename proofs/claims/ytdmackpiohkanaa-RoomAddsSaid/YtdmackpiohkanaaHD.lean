/-
  What is found in a house: items, lots.
-/
import Derived.Test.YtdmackpiohkanaaHC
set_option linter.unusedVariables false
set_option linter.unusedSimpArgs false
set_option maxRecDepth 10000
namespace Go.Fw
open Go.Proofs

theorem bd_items {h : House} (hbd : (PV.agg h.enc).bd) : h.items.xs.length ≤ 9223372036854775807 := by
  have := hbd (h.items.pv Item.enc) (by simp [House.enc])
  simp only [Ls.pv, PV.bd1, List.length_append, List.length_map, maxLen] at this
  omega
theorem bd_lots {h : House} (hbd : (PV.agg h.enc).bd) : h.lots.xs.length ≤ 9223372036854775807 := by
  have := hbd (h.lots.pv Lot.enc) (by simp [House.enc])
  simp only [Ls.pv, PV.bd1, List.length_append, List.length_map, maxLen] at this
  omega
theorem bd_quants {h : House} (hbd : (PV.agg h.enc).bd) : h.quants.xs.length ≤ 9223372036854775807 := by
  have := hbd (h.quants.pv Quant.enc) (by simp [House.enc])
  simp only [Ls.pv, PV.bd1, List.length_append, List.length_map, maxLen] at this
  omega

theorem find_first {α : Type} {q : α → Bool} {xs : List α} (h : 0 ≤ firstI q xs 0) : ∃ x, xs[(firstI q xs 0).toNat]? = some x ∧ xs.find? q = some x ∧ (firstI q xs 0).toNat < xs.length := by
  obtain ⟨k, x, h1, h2, h3, h4⟩ := firstI_pos h
  refine ⟨x, by rw [h1]; simpa using h2, ?_, ?_⟩
  · rw [List.find?_eq_some_iff_getElem]
    have hk : k < xs.length := (List.getElem?_eq_some_iff.1 h2).1
    refine ⟨h3, k, hk, (List.getElem?_eq_some_iff.1 h2).2, fun j hj => ?_⟩
    have := h4 j xs[j] hj (by simp)
    simpa using this
  · rw [h1]; have := (List.getElem?_eq_some_iff.1 h2).1; simpa using this
theorem find_none {α : Type} {q : α → Bool} {xs : List α} (h : firstI q xs 0 < 0) : xs.find? q = none := by
  rw [List.find?_eq_none]
  intro x hx
  simp [firstI_neg.1 h x hx]

def Item.zero : Item := ⟨⟨#[]⟩, ⟨#[]⟩, 0, ⟨#[]⟩, 0, ⟨#[]⟩, 0, ⟨#[]⟩, 0, 0, 0, false, false, false⟩
def Lot.zero : Lot := ⟨⟨#[]⟩, ⟨#[]⟩, 0⟩
/-- What is found of an item. -/
def House.item? (h : House) (c : Str) : Option Item := h.items.xs.find? fun y => decide (y.code = c)
def House.lot? (h : House) (i c : Str) : Option Lot := h.lots.xs.find? fun y => decide (y.item = i) && decide (y.code = c)
def itemOut (o : Option Item) : PV := .tup [.agg (o.getD Item.zero).enc, .v (.bool o.isSome)]
def lotOut (o : Option Lot) : PV := .tup [.agg (o.getD Lot.zero).enc, .v (.bool o.isSome)]

theorem itemCmp_eq (y : Item) (c : Str) : decide (itemCmp y { Item.zero with code := c } = 0) = decide (y.code = c) := by
  rw [decide_eq_decide]
  exact cmpS_eq
theorem lotCmp_eq (y x : Lot) : lotCmp y x = 0 ↔ y.item = x.item ∧ y.code = x.code := by
  simp only [lotCmp, orI]
  by_cases h : cmpS y.item x.item = 0
  · rw [if_pos h]
    have h1 := cmpS_eq.1 h
    by_cases h2 : cmpS y.code x.code = 0
    · rw [if_pos h2]; simp [h1, cmpS_eq.1 h2]
    · rw [if_neg h2]; simp [h1, h2]; exact fun e => h2 (cmpS_eq.2 e)
  · rw [if_neg h]
    constructor
    · exact fun e => absurd e h
    · exact fun e => absurd (cmpS_eq.2 e.1) h

theorem itemsFind (h : House) (c : Str) : Ret Try.prog 38 [.agg h.enc, .v (.string c)] (itemOut (h.item? c)) := by
  refine ret38 rfl fun hbd => ?_
  have hq : (fun y : Item => decide (itemCmp y { Item.zero with code := c } = 0)) = fun y => decide (y.code = c) := by funext y; exact itemCmp_eq y c
  have hf := find91 Item.enc (fun _ => rfl) 131 itemCmp items_order { Item.zero with code := c } h.items.xs h.items.sp
  rw [hq] at hf
  unfold c38
  repeat (first
    | refine r_call rfl (rowsItems) ?_ | refine r_call rfl (hf) ?_ | refine r_mv_p rfl ?_ | refine r_fad rfl rfl ?_ | refine r_sem rfl rfl rfl rfl ?_ | refine r_nil ?_
    | refine r_alloc rfl ?_ | refine r_box rfl rfl rfl ?_ | refine run_seq ?_ | refine run_reg ?_ | refine run_regd rfl ?_ | refine fin_seq ?_)
  refine run_cond rfl (fun hc => ?_) (fun hc => ?_)
  · have h0 : 0 ≤ firstI (fun y : Item => decide (y.code = c)) h.items.xs 0 := by simpa [findB] using hc
    obtain ⟨x, h1, h2, h3⟩ := find_first h0
    have hi : findI (fun y : Item => decide (y.code = c)) h.items.xs = firstI (fun y : Item => decide (y.code = c)) h.items.xs 0 := if_pos h0
    have h4 : 0 ≤ findI (fun y : Item => decide (y.code = c)) h.items.xs := by rw [hi]; exact h0
    have hx : (h.items.xs.map Item.enc)[(findI (fun y : Item => decide (y.code = c)) h.items.xs).toNat]? = some x.enc := by rw [hi, List.getElem?_map, h1]; rfl
    repeat (first
      | refine r_mv_p rfl ?_ | refine r_fad rfl rfl ?_ | refine r_loadA rfl ?_ | refine r_sem rfl rfl rfl rfl ?_ | refine r_nil ?_ | refine r_iadA rfl rfl ?_
      | refine r_storeAll rfl rfl rfl rfl rfl rfl ?_ | refine run_seq ?_ | refine run_reg ?_ | refine run_ret ?_ | refine fin_seq ?_ | refine fin_seq_r ?_)
    exact fin_out rfl (by simp only [itemOut, House.item?, h2]; rfl)
  · have h0 : firstI (fun y : Item => decide (y.code = c)) h.items.xs 0 < 0 := by simpa [findB] using hc
    repeat (first
      | refine r_mv_p rfl ?_ | refine r_sem rfl rfl rfl rfl ?_ | refine r_nil ?_ | refine r_storeAll rfl rfl rfl rfl rfl rfl ?_ | refine run_seq ?_ | refine run_reg ?_ | refine run_skip ?_
      | refine run_ret ?_ | refine fin_seq ?_)
    exact fin_out rfl (by simp only [itemOut, House.item?, find_none h0]; rfl)

theorem lotsFind (h : House) (i c : Str) : Ret Try.prog 71 [.agg h.enc, .v (.string i), .v (.string c)] (lotOut (h.lot? i c)) := by
  refine ret71 rfl fun hbd => ?_
  have hq : (fun y : Lot => decide (lotCmp y ⟨i, c, 0⟩ = 0)) = fun y => decide (y.item = i) && decide (y.code = c) := by
    funext y
    rw [Bool.eq_iff_iff]
    simp [lotCmp_eq]
  have hf := find130 Lot.enc (fun _ => rfl) 140 lotCmp lots_order ⟨i, c, 0⟩ h.lots.xs h.lots.sp
  rw [hq] at hf
  generalize hqq : (fun y : Lot => decide (y.item = i) && decide (y.code = c)) = q at hf
  unfold c71
  repeat (first
    | refine r_call rfl (rowsLots) ?_ | refine r_call rfl (hf) ?_ | refine r_mv_p rfl ?_ | refine r_fad rfl rfl ?_ | refine r_sem rfl rfl rfl rfl ?_ | refine r_nil ?_
    | refine r_alloc rfl ?_ | refine r_box rfl rfl rfl ?_ | refine run_seq ?_ | refine run_reg ?_ | refine run_regd rfl ?_ | refine fin_seq ?_)
  refine run_cond rfl (fun hc => ?_) (fun hc => ?_)
  · have h0 : 0 ≤ firstI q h.lots.xs 0 := by simpa [findB] using hc
    obtain ⟨x, h1, h2, h3⟩ := find_first h0
    have hi : findI q h.lots.xs = firstI q h.lots.xs 0 := if_pos h0
    have h4 : 0 ≤ findI q h.lots.xs := by rw [hi]; exact h0
    have hx : (h.lots.xs.map Lot.enc)[(findI q h.lots.xs).toNat]? = some x.enc := by rw [hi, List.getElem?_map, h1]; rfl
    repeat (first
      | refine r_mv_p rfl ?_ | refine r_fad rfl rfl ?_ | refine r_loadA rfl ?_ | refine r_sem rfl rfl rfl rfl ?_ | refine r_nil ?_ | refine r_iadA rfl rfl ?_
      | refine r_storeAll rfl rfl rfl rfl rfl rfl ?_ | refine run_seq ?_ | refine run_reg ?_ | refine run_ret ?_ | refine fin_seq ?_ | refine fin_seq_r ?_)
    exact fin_out rfl (by simp only [lotOut, House.lot?, hqq, h2]; rfl)
  · have h0 : firstI q h.lots.xs 0 < 0 := by simpa [findB] using hc
    repeat (first
      | refine r_mv_p rfl ?_ | refine r_sem rfl rfl rfl rfl ?_ | refine r_nil ?_ | refine r_storeAll rfl rfl rfl rfl rfl rfl ?_ | refine run_seq ?_ | refine run_reg ?_ | refine run_skip ?_
      | refine run_ret ?_ | refine fin_seq ?_)
    exact fin_out rfl (by simp only [lotOut, House.lot?, hqq, find_none h0]; rfl)

theorem refFindItem (h : House) (c : Str) : Ret Try.prog 39 [.agg h.enc, .v (.string c)] (itemOut (h.item? c)) := by
  refine ret39 rfl fun hbd => ?_
  have hb := bd_items (hbd _ (List.mem_cons_self))
  unfold c39
  repeat (first
    | refine r_mv_p rfl ?_ | refine r_nil ?_ | refine r_alloc rfl ?_ | refine r_box rfl rfl rfl ?_ | refine run_seq ?_ | refine run_reg ?_ | refine run_block ?_ | refine fin_seq ?_)
  refine run_weak (weak_S ?_ ?_) (run_inv (fun i : Nat => S [(1, .p (.v (.string c))), (2, .own 2 0), (4, .own 4 0), (5, .p (.v (.bool false))), (6, .p (.v (.int .i64 (i : Nat))))] [(2, some (.box h.enc false)), (4, some (.box Item.zero.enc false))])
    (fun i => i ≤ h.items.xs.length ∧ h.item? c = (h.items.xs.drop i).find? fun y => decide (y.code = c)) (fun i => h.items.xs.length - i) ?_ 0 ⟨Nat.zero_le _, rfl⟩)
  · exact ⟨rfl, rfl, rfl, rfl, rfl, trivial⟩
  · exact ⟨rfl, rfl, trivial⟩
  intro i hi ih
  obtain ⟨hi, hfst⟩ := hi
  repeat (first
    | refine r_mv_p rfl ?_ | refine r_fad rfl rfl ?_ | refine r_sem rfl rfl rfl rfl ?_ | refine r_nil ?_ | refine run_seq ?_ | refine run_reg ?_ | refine fin_seq ?_)
  refine run_cond rfl (fun h1 => ?_) (fun h1 => ?_)
  · have hlt : i < h.items.xs.length := by simpa using h1
    have hx : (h.items.xs.map Item.enc)[i]? = some h.items.xs[i].enc := by simp [hlt]
    have hdrop : h.items.xs.drop i = h.items.xs[i] :: h.items.xs.drop (i + 1) := List.drop_eq_getElem_cons hlt
    repeat (first
      | refine r_mv_p rfl ?_ | refine r_fad rfl rfl ?_ | refine r_sem rfl rfl rfl rfl ?_ | refine r_nil ?_ | refine r_iadA rfl rfl ?_ | refine run_seq ?_ | refine run_reg ?_
      | refine run_block ?_ | refine run_skip ?_ | refine fin_seq ?_)
    refine run_cond rfl (fun h2 => ?_) (fun h2 => ?_)
    · repeat (first
        | refine r_mv_p rfl ?_ | refine r_fad rfl rfl ?_ | refine r_loadA rfl ?_ | refine r_sem rfl rfl rfl rfl ?_ | refine r_nil ?_ | refine r_iadA rfl rfl ?_
        | refine r_storeAll rfl rfl rfl rfl rfl rfl ?_ | refine run_seq ?_ | refine run_reg ?_ | refine run_ret ?_ | refine fin_seq ?_ | refine fin_seq_r ?_ | refine fin_blk_r ?_
        | refine fin_loop_r ?_)
      exact fin_out rfl (by rw [hfst, hdrop, List.find?_cons_of_pos (by simpa using h2)]; rfl)
    · repeat (first
        | refine r_mv_p rfl ?_ | refine r_addA rfl rfl ?_ | refine r_nil ?_ | refine run_reg ?_ | refine run_skip ?_ | refine fin_seq ?_ | refine fin_blk ?_)
      refine fin_loop (run_weak (weak_S ?_ ?_) (ih (i + 1) ⟨hlt, ?_⟩ (by omega)))
      · exact ⟨rfl, rfl, rfl, rfl, rfl, trivial⟩
      · exact ⟨rfl, rfl, trivial⟩
      · rw [hfst, hdrop, List.find?_cons_of_neg (by simpa using h2)]
  · have hlt : i = h.items.xs.length := by simp at h1; omega
    repeat (first
      | refine r_mv_p rfl ?_ | refine r_sem rfl rfl rfl rfl ?_ | refine r_nil ?_ | refine r_storeAll rfl rfl rfl rfl rfl rfl ?_ | refine run_seq ?_ | refine run_reg ?_ | refine run_exit ?_
      | refine run_ret ?_ | refine fin_seq ?_ | refine fin_seq_e ?_ | refine fin_blk_e ?_ | refine fin_loop_e ?_)
    exact fin_out rfl (by rw [hfst, hlt]; simp; rfl)

theorem refFindLot (h : House) (i0 c : Str) : Ret Try.prog 72 [.agg h.enc, .v (.string i0), .v (.string c)] (lotOut (h.lot? i0 c)) := by
  refine ret72 rfl fun hbd => ?_
  have hb := bd_lots (hbd _ (List.mem_cons_self))
  unfold c72
  repeat (first
    | refine r_mv_p rfl ?_ | refine r_nil ?_ | refine r_alloc rfl ?_ | refine r_box rfl rfl rfl ?_ | refine run_seq ?_ | refine run_reg ?_ | refine run_block ?_ | refine fin_seq ?_)
  refine run_weak (weak_S ?_ ?_) (run_inv (fun i : Nat => S [(1, .p (.v (.string i0))), (2, .p (.v (.string c))), (3, .own 3 0), (6, .own 6 0), (7, .p (.v (.bool false))), (8, .p (.v (.int .i64 (i : Nat))))] [(3, some (.box h.enc false)), (6, some (.box Lot.zero.enc false))])
    (fun i => i ≤ h.lots.xs.length ∧ h.lot? i0 c = (h.lots.xs.drop i).find? fun y => decide (y.item = i0) && decide (y.code = c)) (fun i => h.lots.xs.length - i) ?_ 0 ⟨Nat.zero_le _, rfl⟩)
  · exact ⟨rfl, rfl, rfl, rfl, rfl, rfl, trivial⟩
  · exact ⟨rfl, rfl, trivial⟩
  intro i hi ih
  obtain ⟨hi, hfst⟩ := hi
  repeat (first
    | refine r_mv_p rfl ?_ | refine r_fad rfl rfl ?_ | refine r_sem rfl rfl rfl rfl ?_ | refine r_nil ?_ | refine run_seq ?_ | refine run_reg ?_ | refine fin_seq ?_)
  refine run_cond rfl (fun h1 => ?_) (fun h1 => ?_)
  · have hlt : i < h.lots.xs.length := by simpa using h1
    have hx : (h.lots.xs.map Lot.enc)[i]? = some h.lots.xs[i].enc := by simp [hlt]
    have hdrop : h.lots.xs.drop i = h.lots.xs[i] :: h.lots.xs.drop (i + 1) := List.drop_eq_getElem_cons hlt
    have next : h.lot? i0 c = (h.lots.xs.drop (i + 1)).find? (fun y => decide (y.item = i0) && decide (y.code = c)) ∨ (h.lots.xs[i].item = i0 ∧ h.lots.xs[i].code = c) := by
      by_cases hc : h.lots.xs[i].item = i0 ∧ h.lots.xs[i].code = c
      · exact .inr hc
      · left; rw [hfst, hdrop, List.find?_cons_of_neg (by simpa using hc)]
    repeat' (first
      | refine r_mv_p rfl ?_ | refine r_doA rfl ?_ | refine r_skipA rfl ?_ | refine r_fad rfl rfl ?_ | refine r_addA rfl rfl ?_ | refine r_loadA rfl ?_ | refine r_pickT rfl rfl rfl ?_
      | refine r_pickF rfl rfl rfl ?_ | refine r_sem rfl rfl rfl rfl ?_ | refine r_nil ?_ | refine r_iadA rfl rfl ?_ | refine r_storeAll rfl rfl rfl rfl rfl rfl ?_ | refine run_seq ?_
      | refine run_reg ?_ | refine run_block ?_ | refine run_skip ?_ | refine run_ret ?_ | refine fin_seq ?_ | refine fin_seq_r ?_ | refine fin_blk ?_ | refine fin_blk_r ?_
      | refine fin_loop_r ?_ | refine run_condF rfl ?_ | refine r_split rfl (fun hs => ?_) (fun hs => ?_) | refine run_cond rfl (fun hs => ?_) (fun hs => ?_))
    · exact fin_out rfl (by rename_i h2; rw [hfst, hdrop, List.find?_cons_of_pos (by simp at h2 hs; simp [h2, hs])]; rfl)
    all_goals
      refine fin_loop (run_weak (weak_S ?_ ?_) (ih (i + 1) ⟨hlt, ?_⟩ (by omega)))
      · exact ⟨rfl, rfl, rfl, rfl, rfl, rfl, trivial⟩
      · exact ⟨rfl, rfl, trivial⟩
      · exact next.resolve_right (fun hn => by simp [hn.1, hn.2] at hs)
  · have hlt : i = h.lots.xs.length := by simp at h1; omega
    repeat (first
      | refine r_mv_p rfl ?_ | refine r_sem rfl rfl rfl rfl ?_ | refine r_nil ?_ | refine r_storeAll rfl rfl rfl rfl rfl rfl ?_ | refine run_seq ?_ | refine run_reg ?_ | refine run_exit ?_
      | refine run_ret ?_ | refine fin_seq ?_ | refine fin_seq_e ?_ | refine fin_blk_e ?_ | refine fin_loop_e ?_)
    exact fin_out rfl (by rw [hfst, hlt]; simp; rfl)
end Go.Fw
