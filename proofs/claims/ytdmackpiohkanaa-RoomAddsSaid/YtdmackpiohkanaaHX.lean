/-
  A house with one thing more; what is found of it: by the program and by the document.
-/
import Derived.Test.YtdmackpiohkanaaHU
set_option linter.unusedVariables false
set_option linter.unusedSimpArgs false
set_option maxRecDepth 10000
namespace Go.Fw
open Go.Proofs

theorem refwithItem (h : House) (x : Item) (hbig : (h.items.xs.length + 1) * 136 ≤ 140737488355328) : Ret Try.prog 90 [.agg h.enc, .agg x.enc] (.agg (h.withItem x).enc) := by
  refine ret90 rfl fun hbd => ?_
  unfold c90
  repeat (first
    | refine r_call rfl (refPut137 Item.enc (fun _ => rfl) 138 itemCmp rorder138 x h.items.xs h.items.sp hbig) ?_ | refine r_fad rfl rfl ?_ | refine r_loadB rfl rfl ?_
    | refine r_sem rfl rfl rfl rfl ?_ | refine r_nil ?_ | refine r_storeAll rfl rfl rfl rfl rfl rfl ?_ | refine r_store rfl rfl rfl rfl (And.intro rfl (Nat.le_of_ble_eq_true rfl)) ?_
    | refine r_alloc rfl ?_ | refine r_box rfl rfl rfl ?_ | refine run_seq ?_ | refine run_reg ?_ | refine run_ret ?_ | refine fin_seq ?_)
  exact fin_out rfl rfl
theorem refwithLot (h : House) (x : Lot) (hbig : (h.lots.xs.length + 1) * 40 ≤ 140737488355328) : Ret Try.prog 113 [.agg h.enc, .agg x.enc] (.agg (h.withLot x).enc) := by
  refine ret113 rfl fun hbd => ?_
  unfold c113
  repeat (first
    | refine r_call rfl (refPut146 Lot.enc (fun _ => rfl) 147 lotCmp rorder147 x h.lots.xs h.lots.sp hbig) ?_ | refine r_fad rfl rfl ?_ | refine r_loadB rfl rfl ?_
    | refine r_sem rfl rfl rfl rfl ?_ | refine r_nil ?_ | refine r_storeAll rfl rfl rfl rfl rfl rfl ?_ | refine r_store rfl rfl rfl rfl (And.intro rfl (Nat.le_of_ble_eq_true rfl)) ?_
    | refine r_alloc rfl ?_ | refine r_box rfl rfl rfl ?_ | refine run_seq ?_ | refine run_reg ?_ | refine run_ret ?_ | refine fin_seq ?_)
  exact fin_out rfl rfl
theorem refwithBin (h : House) (x : Bin) (hbig : (h.bins.xs.length + 1) * 80 ≤ 140737488355328) : Ret Try.prog 123 [.agg h.enc, .agg x.enc] (.agg (h.withBin x).enc) := by
  refine ret123 rfl fun hbd => ?_
  unfold c123
  repeat (first
    | refine r_call rfl (refPut154 Bin.enc (fun _ => rfl) 155 binCmp rorder155 x h.bins.xs h.bins.sp hbig) ?_ | refine r_fad rfl rfl ?_ | refine r_loadB rfl rfl ?_
    | refine r_sem rfl rfl rfl rfl ?_ | refine r_nil ?_ | refine r_storeAll rfl rfl rfl rfl rfl rfl ?_ | refine r_store rfl rfl rfl rfl (And.intro rfl (Nat.le_of_ble_eq_true rfl)) ?_
    | refine r_alloc rfl ?_ | refine r_box rfl rfl rfl ?_ | refine run_seq ?_ | refine run_reg ?_ | refine run_ret ?_ | refine fin_seq ?_)
  exact fin_out rfl rfl
theorem refwithZone (h : House) (x : Zone) (hbig : (h.zones.xs.length + 1) * 32 ≤ 140737488355328) : Ret Try.prog 127 [.agg h.enc, .agg x.enc] (.agg (h.withZone x).enc) := by
  refine ret127 rfl fun hbd => ?_
  unfold c127
  repeat (first
    | refine r_call rfl (refPut162 Zone.enc (fun _ => rfl) 163 zoneCmp rorder163 x h.zones.xs h.zones.sp hbig) ?_ | refine r_fad rfl rfl ?_ | refine r_loadB rfl rfl ?_
    | refine r_sem rfl rfl rfl rfl ?_ | refine r_nil ?_ | refine r_storeAll rfl rfl rfl rfl rfl rfl ?_ | refine r_store rfl rfl rfl rfl (And.intro rfl (Nat.le_of_ble_eq_true rfl)) ?_
    | refine r_alloc rfl ?_ | refine r_box rfl rfl rfl ?_ | refine run_seq ?_ | refine run_reg ?_ | refine run_ret ?_ | refine fin_seq ?_)
  exact fin_out rfl rfl

/-! ### What is found -/
theorem bd_bins {h : House} (hbd : (PV.agg h.enc).bd) : h.bins.xs.length ≤ 9223372036854775807 := by
  have := hbd (h.bins.pv Bin.enc) (by simp [House.enc])
  simp only [Ls.pv, PV.bd1, List.length_append, List.length_map, maxLen] at this
  omega
theorem findBin (h : House) (c : Str) : Ret Try.prog 63 [.agg h.enc, .v (.string c)] (binOut (h.bin? c)) := by
  refine ret63 rfl fun hbd => ?_
  have hq : (fun y : Bin => decide (binCmp y { Bin.zero with code := c } = 0)) = fun y => decide (y.code = c) := by
    funext y; rw [decide_eq_decide]; exact bin0 y _
  have hf := find129 Bin.enc (fun _ => rfl) 149 binCmp order149 { Bin.zero with code := c } h.bins.xs h.bins.sp
  rw [hq] at hf
  unfold c63
  repeat (first
    | refine r_call rfl (rows121) ?_ | refine r_call rfl (hf) ?_ | refine r_mv_p rfl ?_ | refine r_fad rfl rfl ?_ | refine r_sem rfl rfl rfl rfl ?_ | refine r_nil ?_
    | refine r_alloc rfl ?_ | refine r_box rfl rfl rfl ?_ | refine run_seq ?_ | refine run_reg ?_ | refine run_regd rfl ?_ | refine fin_seq ?_)
  refine run_cond rfl (fun hc => ?_) (fun hc => ?_)
  · have h0 : 0 ≤ firstI (fun y : Bin => decide (y.code = c)) h.bins.xs 0 := by simpa [findB] using hc
    obtain ⟨x, h1, h2, h3⟩ := find_first h0
    have hi : findI (fun y : Bin => decide (y.code = c)) h.bins.xs = firstI (fun y : Bin => decide (y.code = c)) h.bins.xs 0 := if_pos h0
    have h4 : 0 ≤ findI (fun y : Bin => decide (y.code = c)) h.bins.xs := by rw [hi]; exact h0
    have hx : (h.bins.xs.map Bin.enc)[(findI (fun y : Bin => decide (y.code = c)) h.bins.xs).toNat]? = some x.enc := by rw [hi, List.getElem?_map, h1]; rfl
    repeat (first
      | refine r_mv_p rfl ?_ | refine r_fad rfl rfl ?_ | refine r_loadA rfl ?_ | refine r_sem rfl rfl rfl rfl ?_ | refine r_nil ?_ | refine r_iadA rfl rfl ?_
      | refine r_storeAll rfl rfl rfl rfl rfl rfl ?_ | refine run_seq ?_ | refine run_reg ?_ | refine run_ret ?_ | refine fin_seq ?_ | refine fin_seq_r ?_)
    exact fin_out rfl (by simp only [binOut, House.bin?, h2]; rfl)
  · have h0 : firstI (fun y : Bin => decide (y.code = c)) h.bins.xs 0 < 0 := by simpa [findB] using hc
    repeat (first
      | refine r_mv_p rfl ?_ | refine r_sem rfl rfl rfl rfl ?_ | refine r_nil ?_ | refine r_storeAll rfl rfl rfl rfl rfl rfl ?_ | refine run_seq ?_ | refine run_reg ?_ | refine run_skip ?_
      | refine run_ret ?_ | refine fin_seq ?_)
    exact fin_out rfl (by simp only [binOut, House.bin?, find_none h0]; rfl)
theorem refFindBin (h : House) (c : Str) : Ret Try.prog 64 [.agg h.enc, .v (.string c)] (binOut (h.bin? c)) := by
  refine ret64 rfl fun hbd => ?_
  have hb := bd_bins (hbd _ (List.mem_cons_self))
  unfold c64
  repeat (first
    | refine r_mv_p rfl ?_ | refine r_nil ?_ | refine r_alloc rfl ?_ | refine r_box rfl rfl rfl ?_ | refine run_seq ?_ | refine run_reg ?_ | refine run_block ?_ | refine fin_seq ?_)
  refine run_weak (weak_S ?_ ?_) (run_inv (fun i : Nat => S [(1, .p (.v (.string c))), (2, .own 2 0), (4, .own 4 0), (5, .p (.v (.bool false))), (6, .p (.v (.int .i64 (i : Nat))))] [(2, some (.box h.enc false)), (4, some (.box Bin.zero.enc false))])
    (fun i => i ≤ h.bins.xs.length ∧ h.bin? c = (h.bins.xs.drop i).find? fun y => decide (y.code = c)) (fun i => h.bins.xs.length - i) ?_ 0 ⟨Nat.zero_le _, rfl⟩)
  · exact ⟨rfl, rfl, rfl, rfl, rfl, trivial⟩
  · exact ⟨rfl, rfl, trivial⟩
  intro i hi ih
  obtain ⟨hi, hfst⟩ := hi
  repeat (first
    | refine r_mv_p rfl ?_ | refine r_fad rfl rfl ?_ | refine r_sem rfl rfl rfl rfl ?_ | refine r_nil ?_ | refine run_seq ?_ | refine run_reg ?_ | refine fin_seq ?_)
  refine run_cond rfl (fun h1 => ?_) (fun h1 => ?_)
  · have hlt : i < h.bins.xs.length := by simpa using h1
    have hx : (h.bins.xs.map Bin.enc)[i]? = some h.bins.xs[i].enc := by simp [hlt]
    have hdrop : h.bins.xs.drop i = h.bins.xs[i] :: h.bins.xs.drop (i + 1) := List.drop_eq_getElem_cons hlt
    repeat (first
      | refine r_mv_p rfl ?_ | refine r_fad rfl rfl ?_ | refine r_sem rfl rfl rfl rfl ?_ | refine r_nil ?_ | refine r_iadA rfl rfl ?_ | refine run_seq ?_ | refine run_reg ?_
      | refine run_block ?_ | refine run_skip ?_ | refine fin_seq ?_)
    refine run_cond rfl (fun h2 => ?_) (fun h2 => ?_)
    · repeat (first
        | refine r_mv_p rfl ?_ | refine r_fad rfl rfl ?_ | refine r_loadA rfl ?_ | refine r_sem rfl rfl rfl rfl ?_ | refine r_nil ?_ | refine r_iadA rfl rfl ?_
        | refine r_storeAll rfl rfl rfl rfl rfl rfl ?_ | refine run_seq ?_ | refine run_reg ?_ | refine run_ret ?_ | refine fin_seq ?_ | refine fin_seq_r ?_ | refine fin_blk_r ?_
        | refine fin_loop_r ?_)
      exact fin_out rfl (by rw [hfst, hdrop, List.find?_cons_of_pos (by simpa using h2)]; rfl)
    · repeat (first
        | refine r_mv_p rfl ?_ | refine r_addA rfl rfl ?_ | refine r_nil ?_ | refine run_reg ?_ | refine run_skip ?_ | refine fin_seq ?_ | refine fin_blk ?_)
      refine fin_loop (run_weak (weak_S ?_ ?_) (ih (i + 1) ⟨hlt, ?_⟩ (by omega)))
      · exact ⟨rfl, rfl, rfl, rfl, rfl, trivial⟩
      · exact ⟨rfl, rfl, trivial⟩
      · rw [hfst, hdrop, List.find?_cons_of_neg (by simpa using h2)]
  · have hlt : i = h.bins.xs.length := by simp at h1; omega
    repeat (first
      | refine r_mv_p rfl ?_ | refine r_sem rfl rfl rfl rfl ?_ | refine r_nil ?_ | refine r_storeAll rfl rfl rfl rfl rfl rfl ?_ | refine run_seq ?_ | refine run_reg ?_ | refine run_exit ?_
      | refine run_ret ?_ | refine fin_seq ?_ | refine fin_seq_e ?_ | refine fin_blk_e ?_ | refine fin_loop_e ?_)
    exact fin_out rfl (by rw [hfst, hlt]; simp; rfl)
theorem bd_zones {h : House} (hbd : (PV.agg h.enc).bd) : h.zones.xs.length ≤ 9223372036854775807 := by
  have := hbd (h.zones.pv Zone.enc) (by simp [House.enc])
  simp only [Ls.pv, PV.bd1, List.length_append, List.length_map, maxLen] at this
  omega
theorem findZone (h : House) (c : Str) : Ret Try.prog 124 [.agg h.enc, .v (.string c)] (zoneOut (h.zone? c)) := by
  refine ret124 rfl fun hbd => ?_
  have hq : (fun y : Zone => decide (zoneCmp y { Zone.zero with code := c } = 0)) = fun y => decide (y.code = c) := by
    funext y; rw [decide_eq_decide]; exact zone0 y _
  have hf := find156 Zone.enc (fun _ => rfl) 157 zoneCmp order157 { Zone.zero with code := c } h.zones.xs h.zones.sp
  rw [hq] at hf
  unfold c124
  repeat (first
    | refine r_call rfl (rows125) ?_ | refine r_call rfl (hf) ?_ | refine r_mv_p rfl ?_ | refine r_fad rfl rfl ?_ | refine r_sem rfl rfl rfl rfl ?_ | refine r_nil ?_
    | refine r_alloc rfl ?_ | refine r_box rfl rfl rfl ?_ | refine run_seq ?_ | refine run_reg ?_ | refine run_regd rfl ?_ | refine fin_seq ?_)
  refine run_cond rfl (fun hc => ?_) (fun hc => ?_)
  · have h0 : 0 ≤ firstI (fun y : Zone => decide (y.code = c)) h.zones.xs 0 := by simpa [findB] using hc
    obtain ⟨x, h1, h2, h3⟩ := find_first h0
    have hi : findI (fun y : Zone => decide (y.code = c)) h.zones.xs = firstI (fun y : Zone => decide (y.code = c)) h.zones.xs 0 := if_pos h0
    have h4 : 0 ≤ findI (fun y : Zone => decide (y.code = c)) h.zones.xs := by rw [hi]; exact h0
    have hx : (h.zones.xs.map Zone.enc)[(findI (fun y : Zone => decide (y.code = c)) h.zones.xs).toNat]? = some x.enc := by rw [hi, List.getElem?_map, h1]; rfl
    repeat (first
      | refine r_mv_p rfl ?_ | refine r_fad rfl rfl ?_ | refine r_loadA rfl ?_ | refine r_sem rfl rfl rfl rfl ?_ | refine r_nil ?_ | refine r_iadA rfl rfl ?_
      | refine r_storeAll rfl rfl rfl rfl rfl rfl ?_ | refine run_seq ?_ | refine run_reg ?_ | refine run_ret ?_ | refine fin_seq ?_ | refine fin_seq_r ?_)
    exact fin_out rfl (by simp only [zoneOut, House.zone?, h2]; rfl)
  · have h0 : firstI (fun y : Zone => decide (y.code = c)) h.zones.xs 0 < 0 := by simpa [findB] using hc
    repeat (first
      | refine r_mv_p rfl ?_ | refine r_sem rfl rfl rfl rfl ?_ | refine r_nil ?_ | refine r_storeAll rfl rfl rfl rfl rfl rfl ?_ | refine run_seq ?_ | refine run_reg ?_ | refine run_skip ?_
      | refine run_ret ?_ | refine fin_seq ?_)
    exact fin_out rfl (by simp only [zoneOut, House.zone?, find_none h0]; rfl)
theorem refFindZone (h : House) (c : Str) : Ret Try.prog 69 [.agg h.enc, .v (.string c)] (zoneOut (h.zone? c)) := by
  refine ret69 rfl fun hbd => ?_
  have hb := bd_zones (hbd _ (List.mem_cons_self))
  unfold c69
  repeat (first
    | refine r_mv_p rfl ?_ | refine r_nil ?_ | refine r_alloc rfl ?_ | refine r_box rfl rfl rfl ?_ | refine run_seq ?_ | refine run_reg ?_ | refine run_block ?_ | refine fin_seq ?_)
  refine run_weak (weak_S ?_ ?_) (run_inv (fun i : Nat => S [(1, .p (.v (.string c))), (2, .own 2 0), (4, .own 4 0), (5, .p (.v (.bool false))), (6, .p (.v (.int .i64 (i : Nat))))] [(2, some (.box h.enc false)), (4, some (.box Zone.zero.enc false))])
    (fun i => i ≤ h.zones.xs.length ∧ h.zone? c = (h.zones.xs.drop i).find? fun y => decide (y.code = c)) (fun i => h.zones.xs.length - i) ?_ 0 ⟨Nat.zero_le _, rfl⟩)
  · exact ⟨rfl, rfl, rfl, rfl, rfl, trivial⟩
  · exact ⟨rfl, rfl, trivial⟩
  intro i hi ih
  obtain ⟨hi, hfst⟩ := hi
  repeat (first
    | refine r_mv_p rfl ?_ | refine r_fad rfl rfl ?_ | refine r_sem rfl rfl rfl rfl ?_ | refine r_nil ?_ | refine run_seq ?_ | refine run_reg ?_ | refine fin_seq ?_)
  refine run_cond rfl (fun h1 => ?_) (fun h1 => ?_)
  · have hlt : i < h.zones.xs.length := by simpa using h1
    have hx : (h.zones.xs.map Zone.enc)[i]? = some h.zones.xs[i].enc := by simp [hlt]
    have hdrop : h.zones.xs.drop i = h.zones.xs[i] :: h.zones.xs.drop (i + 1) := List.drop_eq_getElem_cons hlt
    repeat (first
      | refine r_mv_p rfl ?_ | refine r_fad rfl rfl ?_ | refine r_sem rfl rfl rfl rfl ?_ | refine r_nil ?_ | refine r_iadA rfl rfl ?_ | refine run_seq ?_ | refine run_reg ?_
      | refine run_block ?_ | refine run_skip ?_ | refine fin_seq ?_)
    refine run_cond rfl (fun h2 => ?_) (fun h2 => ?_)
    · repeat (first
        | refine r_mv_p rfl ?_ | refine r_fad rfl rfl ?_ | refine r_loadA rfl ?_ | refine r_sem rfl rfl rfl rfl ?_ | refine r_nil ?_ | refine r_iadA rfl rfl ?_
        | refine r_storeAll rfl rfl rfl rfl rfl rfl ?_ | refine run_seq ?_ | refine run_reg ?_ | refine run_ret ?_ | refine fin_seq ?_ | refine fin_seq_r ?_ | refine fin_blk_r ?_
        | refine fin_loop_r ?_)
      exact fin_out rfl (by rw [hfst, hdrop, List.find?_cons_of_pos (by simpa using h2)]; rfl)
    · repeat (first
        | refine r_mv_p rfl ?_ | refine r_addA rfl rfl ?_ | refine r_nil ?_ | refine run_reg ?_ | refine run_skip ?_ | refine fin_seq ?_ | refine fin_blk ?_)
      refine fin_loop (run_weak (weak_S ?_ ?_) (ih (i + 1) ⟨hlt, ?_⟩ (by omega)))
      · exact ⟨rfl, rfl, rfl, rfl, rfl, trivial⟩
      · exact ⟨rfl, rfl, trivial⟩
      · rw [hfst, hdrop, List.find?_cons_of_neg (by simpa using h2)]
  · have hlt : i = h.zones.xs.length := by simp at h1; omega
    repeat (first
      | refine r_mv_p rfl ?_ | refine r_sem rfl rfl rfl rfl ?_ | refine r_nil ?_ | refine r_storeAll rfl rfl rfl rfl rfl rfl ?_ | refine run_seq ?_ | refine run_reg ?_ | refine run_exit ?_
      | refine run_ret ?_ | refine fin_seq ?_ | refine fin_seq_e ?_ | refine fin_blk_e ?_ | refine fin_loop_e ?_)
    exact fin_out rfl (by rw [hfst, hlt]; simp; rfl)

def houseOut (p : House × Int) : PV := .tup [.agg p.1.enc, .v (.int .i64 p.2)]
theorem itemOut_none : itemOut none = .tup [.agg Item.zero.enc, .v (.bool false)] := rfl
theorem itemOut_some (x : Item) : itemOut (some x) = .tup [.agg x.enc, .v (.bool true)] := rfl
theorem binOut_none : binOut none = .tup [.agg Bin.zero.enc, .v (.bool false)] := rfl
theorem binOut_some (x : Bin) : binOut (some x) = .tup [.agg x.enc, .v (.bool true)] := rfl
end Go.Fw
