/-
  A house with one thing more or less; what is found of it: by the program and by the document.
-/
import Derived.Test.YtghhmkogooancaaGreatHUb
import Derived.Test.YtghhmkogooancaaGreatIrE
set_option linter.unusedVariables false
set_option linter.unusedSimpArgs false
set_option maxRecDepth 10000
namespace Go.Fw
open Go.Proofs

theorem Key.enc_quant (q : Quant) : q.key.enc = (q.enc.drop 0).take 4 := rfl
def Quant.zero : Quant := ⟨⟨#[]⟩, ⟨#[]⟩, ⟨#[]⟩, 0, 0, 0⟩
def House.quant? (h : House) (k : Key) : Option Quant := h.quants.xs.find? fun y => decide (y.key = k)
def House.total? (h : House) (i c : Str) : Option Total := h.totals.xs.find? fun y => decide (y.item = i) && decide (y.lot = c)
def House.withQuant (h : House) (x : Quant) : House := { h with quants := ⟨putL quantCmp x h.quants.xs, []⟩ }
def House.dropQuant (h : House) (x : Quant) : House := { h with quants := ⟨dropL quantCmp x h.quants.xs, []⟩ }
def House.setQuant (h : House) (x : Quant) : House := if x.qty = 0 then h.dropQuant x else h.withQuant x
def House.withCounted (h : House) (x : Counted) : House := { h with counted := ⟨putL countedCmp x h.counted.xs, []⟩ }
def House.withTotal (h : House) (x : Total) : House := { h with totals := ⟨putL totalCmp x h.totals.xs, []⟩ }
def quantOut (o : Option Quant) : PV := .tup [.agg (o.getD Quant.zero).enc, .v (.bool o.isSome)]
def totalOut (i c : Str) (o : Option Total) : PV := .tup [.agg (o.getD ⟨i, c, 0, 0, 0, 0⟩).enc, .v (.bool o.isSome)]
theorem r_eqsV {P : Program} {Q : Ex → St → Prop} {ks : List Kf} {rs : List RG} {l : List (Nat × T)} {m : List (Nat × Option Own)} {d : Nat} {cks : List Ck} {x y : Opd} {a b : List PV} {r : Bool} (hx : (S l m).ev x = .p (.agg a)) (hy : (S l m).ev y = .p (.agg b)) (he : cellsEq cks a b = some r)
    (h : RunR P Q ks rs (S ((d, .p (.v (.bool r))) :: l) m)) : RunR P Q ks (⟨some d, .eqs false cks, [x, y], none⟩ :: rs) (S l m) :=
  r_sem («as» := [.p (.agg a), .p (.agg b)]) rfl (by simp only [St.resL, St.res, hx, hy, lookT]; rfl) (by simp only [sem, he, Option.map_some]; cases r <;> rfl) rfl h
theorem key_eqs (a b : Key) : cellsEq [.s, .s, .s, .i .i64] a.enc b.enc = some (decide (a = b)) := by
  simp only [cellsEq, Key.enc, and_self, if_true, Option.map_some]
  congr 1
  rw [Bool.eq_iff_iff]
  simp [Key.ext']
theorem refwithBin (h : House) (x : Bin) (hbig : (h.bins.xs.length + 1) * 80 ≤ 140737488355328) : Ret Tryz.prog 89 [.agg h.enc, .agg x.enc] (.agg (h.withBin x).enc) := by
  refine ret89 rfl fun hbd => ?_
  unfold c89
  repeat (first
    | refine r_call rfl (refPut120 Bin.enc (fun _ => rfl) 121 binCmp rorder121 x h.bins.xs h.bins.sp hbig) ?_ | refine r_fad rfl rfl ?_ | refine r_loadB rfl rfl ?_
    | refine r_sem rfl rfl rfl rfl ?_ | refine r_nil ?_ | refine r_storeAll rfl rfl rfl rfl rfl rfl ?_ | refine r_store rfl rfl rfl rfl (And.intro rfl (Nat.le_of_ble_eq_true rfl)) ?_
    | refine r_alloc rfl ?_ | refine r_box rfl rfl rfl ?_ | refine run_seq ?_ | refine run_reg ?_ | refine run_ret ?_ | refine fin_seq ?_)
  exact fin_out rfl rfl
theorem refwithCounted (h : House) (x : Counted) (hbig : (h.counted.xs.length + 1) * 64 ≤ 140737488355328) : Ret Tryz.prog 67 [.agg h.enc, .agg x.enc] (.agg (h.withCounted x).enc) := by
  refine ret67 rfl fun hbd => ?_
  unfold c67
  repeat (first
    | refine r_call rfl (refPut98 Counted.enc (fun _ => rfl) 99 countedCmp rorder99 x h.counted.xs h.counted.sp hbig) ?_ | refine r_fad rfl rfl ?_ | refine r_loadB rfl rfl ?_
    | refine r_sem rfl rfl rfl rfl ?_ | refine r_nil ?_ | refine r_storeAll rfl rfl rfl rfl rfl rfl ?_ | refine r_store rfl rfl rfl rfl (And.intro rfl (Nat.le_of_ble_eq_true rfl)) ?_
    | refine r_alloc rfl ?_ | refine r_box rfl rfl rfl ?_ | refine run_seq ?_ | refine run_reg ?_ | refine run_ret ?_ | refine fin_seq ?_)
  exact fin_out rfl rfl
theorem refwithTotal (h : House) (x : Total) (hbig : (h.totals.xs.length + 1) * 64 ≤ 140737488355328) : Ret Tryz.prog 81 [.agg h.enc, .agg x.enc] (.agg (h.withTotal x).enc) := by
  refine ret81 rfl fun hbd => ?_
  unfold c81
  repeat (first
    | refine r_call rfl (refPut112 Total.enc (fun _ => rfl) 113 totalCmp rorder113 x h.totals.xs h.totals.sp hbig) ?_ | refine r_fad rfl rfl ?_ | refine r_loadB rfl rfl ?_
    | refine r_sem rfl rfl rfl rfl ?_ | refine r_nil ?_ | refine r_storeAll rfl rfl rfl rfl rfl rfl ?_ | refine r_store rfl rfl rfl rfl (And.intro rfl (Nat.le_of_ble_eq_true rfl)) ?_
    | refine r_alloc rfl ?_ | refine r_box rfl rfl rfl ?_ | refine run_seq ?_ | refine run_reg ?_ | refine run_ret ?_ | refine fin_seq ?_)
  exact fin_out rfl rfl

/-! ### What is found -/
theorem bd_bins {h : House} (hbd : (PV.agg h.enc).bd) : h.bins.xs.length ≤ 9223372036854775807 := by
  have := hbd (h.bins.pv Bin.enc) (by simp [House.enc])
  simp only [Ls.pv, PV.bd1, List.length_append, List.length_map, maxLen] at this
  omega
theorem findBin (h : House) (c : Str) : Ret Tryz.prog 75 [.agg h.enc, .v (.string c)] (binOut (h.bin? c)) := by
  refine ret75 rfl fun hbd => ?_
  have hq : (fun y : Bin => decide (binCmp y { Bin.zero with code := c } = 0)) = fun y => decide (y.code = c) := by
    funext y; rw [decide_eq_decide]; exact bin0 y _
  have hf := find108 Bin.enc (fun _ => rfl) 143 binCmp order143 { Bin.zero with code := c } h.bins.xs h.bins.sp
  rw [hq] at hf
  unfold c75
  repeat (first
    | refine r_call rfl (rows107) ?_ | refine r_call rfl (hf) ?_ | refine r_mv_p rfl ?_ | refine r_fad rfl rfl ?_ | refine r_sem rfl rfl rfl rfl ?_ | refine r_nil ?_
    | refine r_alloc rfl ?_ | refine r_box rfl rfl rfl ?_ | refine run_seq ?_ | refine run_reg ?_ | refine run_regd rfl ?_ | refine fin_seq ?_)
  refine run_cond rfl (fun hc => ?_) (fun hc => ?_)
  · have h0 : 0 ≤ firstI (fun y : Bin => decide (y.code = c)) h.bins.xs 0 := by simpa [findB] using hc
    obtain ⟨x, h1, h2, h3⟩ := find_first h0
    have hi : findI (fun y : Bin => decide (y.code = c)) h.bins.xs = firstI (fun y : Bin => decide (y.code = c)) h.bins.xs 0 := if_pos h0
    have h4 : 0 ≤ findI (fun y : Bin => decide (y.code = c)) h.bins.xs := by rw [hi]; exact h0
    have hx : (h.bins.xs.map Bin.enc)[(findI (fun y : Bin => decide (y.code = c)) h.bins.xs).toNat]? = some x.enc := by rw [hi, List.getElem?_map, h1]; rfl
    repeat (first
      | refine r_mv_p rfl ?_ | refine r_fad rfl rfl ?_ | refine r_loadA rfl ?_ | refine r_sem rfl rfl rfl rfl ?_ | refine r_nil ?_ | refine r_iadA rfl rfl ?_
      | refine r_storeAll rfl rfl rfl rfl rfl rfl ?_ | refine run_seq ?_ | refine run_reg ?_ | refine run_ret ?_ | refine fin_seq ?_ | refine fin_seq_r ?_)
    exact fin_out rfl (by simp only [binOut, House.bin?, h2]; rfl)
  · have h0 : firstI (fun y : Bin => decide (y.code = c)) h.bins.xs 0 < 0 := by simpa [findB] using hc
    repeat (first
      | refine r_mv_p rfl ?_ | refine r_sem rfl rfl rfl rfl ?_ | refine r_nil ?_ | refine r_storeAll rfl rfl rfl rfl rfl rfl ?_ | refine run_seq ?_ | refine run_reg ?_ | refine run_skip ?_
      | refine run_ret ?_ | refine fin_seq ?_)
    exact fin_out rfl (by simp only [binOut, House.bin?, find_none h0]; rfl)
theorem refFindBin (h : House) (c : Str) : Ret Tryz.prog 23 [.agg h.enc, .v (.string c)] (binOut (h.bin? c)) := by
  refine ret23 rfl fun hbd => ?_
  have hb := bd_bins (hbd _ (List.mem_cons_self))
  unfold c23
  repeat (first
    | refine r_mv_p rfl ?_ | refine r_nil ?_ | refine r_alloc rfl ?_ | refine r_box rfl rfl rfl ?_ | refine run_seq ?_ | refine run_reg ?_ | refine run_block ?_ | refine fin_seq ?_)
  refine run_weak (weak_S ?_ ?_) (run_inv (fun i : Nat => S [(1, .p (.v (.string c))), (2, .own 2 0), (4, .own 4 0), (5, .p (.v (.bool false))), (6, .p (.v (.int .i64 (i : Nat))))] [(2, some (.box h.enc false)), (4, some (.box Bin.zero.enc false))])
    (fun i => i ≤ h.bins.xs.length ∧ h.bin? c = (h.bins.xs.drop i).find? fun y => decide (y.code = c)) (fun i => h.bins.xs.length - i) ?_ 0 ⟨Nat.zero_le _, rfl⟩)
  · exact ⟨rfl, rfl, rfl, rfl, rfl, trivial⟩
  · exact ⟨rfl, rfl, trivial⟩
  intro i hi ih
  obtain ⟨hi, hfst⟩ := hi
  repeat (first
    | refine r_mv_p rfl ?_ | refine r_fad rfl rfl ?_ | refine r_sem rfl rfl rfl rfl ?_ | refine r_nil ?_ | refine run_seq ?_ | refine run_reg ?_ | refine fin_seq ?_)
  refine run_cond rfl (fun h1 => ?_) (fun h1 => ?_)
  · have hlt : i < h.bins.xs.length := by simpa using h1
    have hx : (h.bins.xs.map Bin.enc)[i]? = some h.bins.xs[i].enc := by simp [hlt]
    have hdrop : h.bins.xs.drop i = h.bins.xs[i] :: h.bins.xs.drop (i + 1) := List.drop_eq_getElem_cons hlt
    repeat (first
      | refine r_mv_p rfl ?_ | refine r_fad rfl rfl ?_ | refine r_sem rfl rfl rfl rfl ?_ | refine r_nil ?_ | refine r_iadA rfl rfl ?_ | refine run_seq ?_ | refine run_reg ?_
      | refine run_block ?_ | refine run_skip ?_ | refine fin_seq ?_)
    refine run_cond rfl (fun h2 => ?_) (fun h2 => ?_)
    · repeat (first
        | refine r_mv_p rfl ?_ | refine r_fad rfl rfl ?_ | refine r_loadA rfl ?_ | refine r_sem rfl rfl rfl rfl ?_ | refine r_nil ?_ | refine r_iadA rfl rfl ?_
        | refine r_storeAll rfl rfl rfl rfl rfl rfl ?_ | refine run_seq ?_ | refine run_reg ?_ | refine run_ret ?_ | refine fin_seq ?_ | refine fin_seq_r ?_ | refine fin_blk_r ?_
        | refine fin_loop_r ?_)
      exact fin_out rfl (by rw [hfst, hdrop, List.find?_cons_of_pos (by simpa using h2)]; rfl)
    · repeat (first
        | refine r_mv_p rfl ?_ | refine r_addA rfl rfl ?_ | refine r_nil ?_ | refine run_reg ?_ | refine run_skip ?_ | refine fin_seq ?_ | refine fin_blk ?_)
      refine fin_loop (run_weak (weak_S ?_ ?_) (ih (i + 1) ⟨hlt, ?_⟩ (by omega)))
      · exact ⟨rfl, rfl, rfl, rfl, rfl, trivial⟩
      · exact ⟨rfl, rfl, trivial⟩
      · rw [hfst, hdrop, List.find?_cons_of_neg (by simpa using h2)]
  · have hlt : i = h.bins.xs.length := by simp at h1; omega
    repeat (first
      | refine r_mv_p rfl ?_ | refine r_sem rfl rfl rfl rfl ?_ | refine r_nil ?_ | refine r_storeAll rfl rfl rfl rfl rfl rfl ?_ | refine run_seq ?_ | refine run_reg ?_ | refine run_exit ?_
      | refine run_ret ?_ | refine fin_seq ?_ | refine fin_seq_e ?_ | refine fin_blk_e ?_ | refine fin_loop_e ?_)
    exact fin_out rfl (by rw [hfst, hlt]; simp; rfl)
theorem bd_totals {h : House} (hbd : (PV.agg h.enc).bd) : h.totals.xs.length ≤ 9223372036854775807 := by
  have := hbd (h.totals.pv Total.enc) (by simp [House.enc])
  simp only [Ls.pv, PV.bd1, List.length_append, List.length_map, maxLen] at this
  omega
theorem bd_counted {h : House} (hbd : (PV.agg h.enc).bd) : h.counted.xs.length ≤ 9223372036854775807 := by
  have := hbd (h.counted.pv Counted.enc) (by simp [House.enc])
  simp only [Ls.pv, PV.bd1, List.length_append, List.length_map, maxLen] at this
  omega
set_option maxHeartbeats 4000000 in
theorem findQuant (h : House) (k : Key) : Ret Tryz.prog 25 [.agg h.enc, .agg k.enc] (quantOut (h.quant? k)) := by
  refine ret25 rfl fun hbd => ?_
  have hq : (fun y : Quant => decide (quantCmp y ⟨k.bin, k.item, k.lot, k.status, 0, 0⟩ = 0)) = fun y => decide (y.key = k) := by
    funext y; rw [decide_eq_decide]; exact quant0 y _
  have hf := find86 Quant.enc (fun _ => rfl) 116 quantCmp order116 ⟨k.bin, k.item, k.lot, k.status, 0, 0⟩ h.quants.xs h.quants.sp
  rw [hq] at hf
  unfold c25
  repeat (first
    | refine r_call rfl (rows85) ?_ | refine r_call rfl (hf) ?_ | refine r_mv_p rfl ?_ | refine r_fad rfl rfl ?_ | refine r_loadB rfl rfl ?_ | refine r_sem rfl rfl rfl rfl ?_
    | refine r_nil ?_ | refine r_alloc rfl ?_ | refine r_box rfl rfl rfl ?_ | refine run_seq ?_ | refine run_reg ?_ | refine run_regd rfl ?_ | refine fin_seq ?_)
  refine run_cond rfl (fun hc => ?_) (fun hc => ?_)
  · have h0 : 0 ≤ firstI (fun y : Quant => decide (y.key = k)) h.quants.xs 0 := by simpa [findB] using hc
    obtain ⟨x, h1, h2, h3⟩ := find_first h0
    have hi : findI (fun y : Quant => decide (y.key = k)) h.quants.xs = firstI (fun y : Quant => decide (y.key = k)) h.quants.xs 0 := if_pos h0
    have h4 : 0 ≤ findI (fun y : Quant => decide (y.key = k)) h.quants.xs := by rw [hi]; exact h0
    have hx : (h.quants.xs.map Quant.enc)[(findI (fun y : Quant => decide (y.key = k)) h.quants.xs).toNat]? = some x.enc := by rw [hi, List.getElem?_map, h1]; rfl
    repeat (first
      | refine r_mv_p rfl ?_ | refine r_fad rfl rfl ?_ | refine r_loadA rfl ?_ | refine r_sem rfl rfl rfl rfl ?_ | refine r_nil ?_ | refine r_iadA rfl rfl ?_
      | refine r_storeAll rfl rfl rfl rfl rfl rfl ?_ | refine run_seq ?_ | refine run_reg ?_ | refine run_ret ?_ | refine fin_seq ?_ | refine fin_seq_r ?_)
    exact fin_out rfl (by simp only [quantOut, House.quant?, h2]; rfl)
  · have h0 : firstI (fun y : Quant => decide (y.key = k)) h.quants.xs 0 < 0 := by simpa [findB] using hc
    repeat (first
      | refine r_mv_p rfl ?_ | refine r_sem rfl rfl rfl rfl ?_ | refine r_nil ?_ | refine r_storeAll rfl rfl rfl rfl rfl rfl ?_ | refine run_seq ?_ | refine run_reg ?_ | refine run_skip ?_
      | refine run_ret ?_ | refine fin_seq ?_)
    exact fin_out rfl (by simp only [quantOut, House.quant?, find_none h0]; rfl)
set_option maxHeartbeats 4000000 in
theorem refFindQuant (h : House) (k : Key) : Ret Tryz.prog 78 [.agg h.enc, .agg k.enc] (quantOut (h.quant? k)) := by
  refine ret78 rfl fun hbd => ?_
  have hb := bd_quants (hbd _ (List.mem_cons_self))
  unfold c78
  repeat (first
    | refine r_mv_p rfl ?_ | refine r_nil ?_ | refine r_alloc rfl ?_ | refine r_box rfl rfl rfl ?_ | refine run_seq ?_ | refine run_reg ?_ | refine run_block ?_ | refine fin_seq ?_)
  refine run_weak (weak_S ?_ ?_) (run_inv (fun i : Nat => S [(2, .own 2 0), (3, .own 3 0), (4, .own 4 0), (5, .p (.v (.bool false))), (6, .p (.v (.int .i64 (i : Nat))))] [(2, some (.box h.enc false)), (3, some (.box k.enc false)), (4, some (.box Quant.zero.enc false))])
    (fun i => i ≤ h.quants.xs.length ∧ h.quant? k = (h.quants.xs.drop i).find? fun y => decide (y.key = k)) (fun i => h.quants.xs.length - i) ?_ 0 ⟨Nat.zero_le _, rfl⟩)
  · exact ⟨rfl, rfl, rfl, rfl, rfl, trivial⟩
  · exact ⟨rfl, rfl, rfl, trivial⟩
  intro i hi ih
  obtain ⟨hi, hfst⟩ := hi
  repeat (first
    | refine r_mv_p rfl ?_ | refine r_fad rfl rfl ?_ | refine r_sem rfl rfl rfl rfl ?_ | refine r_nil ?_ | refine run_seq ?_ | refine run_reg ?_ | refine fin_seq ?_)
  refine run_cond rfl (fun h1 => ?_) (fun h1 => ?_)
  · have hlt : i < h.quants.xs.length := by simpa using h1
    have hx : (h.quants.xs.map Quant.enc)[i]? = some h.quants.xs[i].enc := by simp [hlt]
    have hdrop : h.quants.xs.drop i = h.quants.xs[i] :: h.quants.xs.drop (i + 1) := List.drop_eq_getElem_cons hlt
    have he := key_eqs h.quants.xs[i].key k
    repeat (first
      | refine r_eqsV rfl rfl he ?_ | refine r_mv_p rfl ?_ | refine r_fad rfl rfl ?_ | refine r_loadB rfl rfl ?_ | refine r_sem rfl rfl rfl rfl ?_ | refine r_nil ?_
      | refine r_iadA rfl rfl ?_ | refine run_seq ?_ | refine run_regd rfl ?_ | refine run_block ?_ | refine run_skip ?_ | refine fin_seq ?_)
    refine run_cond rfl (fun h2 => ?_) (fun h2 => ?_)
    · repeat (first
        | refine r_mv_p rfl ?_ | refine r_fad rfl rfl ?_ | refine r_loadA rfl ?_ | refine r_sem rfl rfl rfl rfl ?_ | refine r_nil ?_ | refine r_iadA rfl rfl ?_
        | refine r_storeAll rfl rfl rfl rfl rfl rfl ?_ | refine run_seq ?_ | refine run_reg ?_ | refine run_ret ?_ | refine fin_seq ?_ | refine fin_seq_r ?_ | refine fin_blk_r ?_
        | refine fin_loop_r ?_)
      exact fin_out rfl (by rw [hfst, hdrop, List.find?_cons_of_pos (by simpa using h2)]; rfl)
    · repeat (first
        | refine r_mv_p rfl ?_ | refine r_addA rfl rfl ?_ | refine r_nil ?_ | refine run_reg ?_ | refine run_skip ?_ | refine fin_seq ?_ | refine fin_blk ?_)
      refine fin_loop (run_weak (weak_S ?_ ?_) (ih (i + 1) ⟨hlt, ?_⟩ (by omega)))
      · exact ⟨rfl, rfl, rfl, rfl, rfl, trivial⟩
      · exact ⟨rfl, rfl, rfl, trivial⟩
      · rw [hfst, hdrop, List.find?_cons_of_neg (by simpa using h2)]
  · have hlt : i = h.quants.xs.length := by simp at h1; omega
    repeat (first
      | refine r_mv_p rfl ?_ | refine r_sem rfl rfl rfl rfl ?_ | refine r_nil ?_ | refine r_storeAll rfl rfl rfl rfl rfl rfl ?_ | refine run_seq ?_ | refine run_reg ?_ | refine run_exit ?_
      | refine run_ret ?_ | refine fin_seq ?_ | refine fin_seq_e ?_ | refine fin_blk_e ?_ | refine fin_loop_e ?_)
    exact fin_out rfl (by rw [hfst, hlt]; simp; rfl)
set_option maxHeartbeats 4000000 in
theorem refFindTotal (h : House) (i0 c : Str) : Ret Tryz.prog 80 [.agg h.enc, .v (.string i0), .v (.string c)] (totalOut i0 c (h.total? i0 c)) := by
  refine ret80 rfl fun hbd => ?_
  have hb := bd_totals (hbd _ (List.mem_cons_self))
  unfold c80
  repeat (first
    | refine r_mv_p rfl ?_ | refine r_nil ?_ | refine r_alloc rfl ?_ | refine r_box rfl rfl rfl ?_ | refine run_seq ?_ | refine run_reg ?_ | refine run_block ?_ | refine fin_seq ?_)
  refine run_weak (weak_S ?_ ?_) (run_inv (fun i : Nat => S [(1, .p (.v (.string i0))), (2, .p (.v (.string c))), (3, .own 3 0), (6, .own 6 0), (7, .p (.v (.bool false))), (8, .p (.v (.int .i64 (i : Nat))))] [(3, some (.box h.enc false)), (6, some (.box (Total.enc ⟨⟨#[]⟩, ⟨#[]⟩, 0, 0, 0, 0⟩) false))])
    (fun i => i ≤ h.totals.xs.length ∧ h.total? i0 c = (h.totals.xs.drop i).find? fun y => decide (y.item = i0) && decide (y.lot = c)) (fun i => h.totals.xs.length - i) ?_ 0 ⟨Nat.zero_le _, rfl⟩)
  · exact ⟨rfl, rfl, rfl, rfl, rfl, rfl, trivial⟩
  · exact ⟨rfl, rfl, trivial⟩
  intro i hi ih
  obtain ⟨hi, hfst⟩ := hi
  repeat (first
    | refine r_mv_p rfl ?_ | refine r_fad rfl rfl ?_ | refine r_sem rfl rfl rfl rfl ?_ | refine r_nil ?_ | refine run_seq ?_ | refine run_reg ?_ | refine fin_seq ?_)
  refine run_cond rfl (fun h1 => ?_) (fun h1 => ?_)
  · have hlt : i < h.totals.xs.length := by simpa using h1
    have hx : (h.totals.xs.map Total.enc)[i]? = some h.totals.xs[i].enc := by simp [hlt]
    have hdrop : h.totals.xs.drop i = h.totals.xs[i] :: h.totals.xs.drop (i + 1) := List.drop_eq_getElem_cons hlt
    obtain ⟨t, ht⟩ : ∃ t, t = h.totals.xs[i] := ⟨_, rfl⟩
    rw [← ht] at hx hdrop
    cases k1 : decide (t.item = i0) with
    | true =>
      cases k2 : decide (t.lot = c) with
      | true =>
        repeat (first
          | refine r_mv_p rfl ?_ | refine r_doA rfl ?_ | refine r_fad rfl rfl ?_ | refine r_loadA rfl ?_ | refine r_pickT rfl rfl rfl ?_ | refine r_sem rfl rfl rfl rfl ?_ | refine r_nil ?_
          | refine r_iadA rfl rfl ?_ | refine r_storeAll rfl rfl rfl rfl rfl rfl ?_ | refine run_seq ?_ | refine run_reg ?_ | refine run_block ?_ | refine run_skip ?_ | refine run_ret ?_
          | refine fin_seq ?_ | refine fin_seq_r ?_ | refine fin_blk_r ?_ | refine fin_loop_r ?_ | refine run_condT rfl ?_)
        exact fin_out rfl (by rw [hfst, hdrop, List.find?_cons_of_pos (by rw [k1, k2]; rfl)]; rfl)
      | false =>
        repeat (first
          | refine r_mv_p rfl ?_ | refine r_doA rfl ?_ | refine r_fad rfl rfl ?_ | refine r_addA rfl rfl ?_ | refine r_pickT rfl rfl rfl ?_ | refine r_sem rfl rfl rfl rfl ?_ | refine r_nil ?_
          | refine r_iadA rfl rfl ?_ | refine run_seq ?_ | refine run_reg ?_ | refine run_block ?_ | refine run_skip ?_ | refine fin_seq ?_ | refine fin_blk ?_ | refine run_condF rfl ?_)
        refine fin_loop (run_weak (weak_S ?_ ?_) (ih (i + 1) ⟨hlt, ?_⟩ (by omega)))
        · exact ⟨rfl, rfl, rfl, rfl, rfl, rfl, trivial⟩
        · exact ⟨rfl, rfl, trivial⟩
        · rw [hfst, hdrop, List.find?_cons_of_neg (by rw [k1, k2]; decide)]
    | false =>
      repeat (first
        | refine r_mv_p rfl ?_ | refine r_skipA rfl ?_ | refine r_fad rfl rfl ?_ | refine r_addA rfl rfl ?_ | refine r_pickF rfl rfl rfl ?_ | refine r_sem rfl rfl rfl rfl ?_ | refine r_nil ?_
        | refine r_iadA rfl rfl ?_ | refine run_seq ?_ | refine run_reg ?_ | refine run_block ?_ | refine run_skip ?_ | refine fin_seq ?_ | refine fin_blk ?_ | refine run_condF rfl ?_)
      refine fin_loop (run_weak (weak_S ?_ ?_) (ih (i + 1) ⟨hlt, ?_⟩ (by omega)))
      · exact ⟨rfl, rfl, rfl, rfl, rfl, rfl, trivial⟩
      · exact ⟨rfl, rfl, trivial⟩
      · rw [hfst, hdrop, List.find?_cons_of_neg (by rw [k1]; simp)]
  · have hlt : i = h.totals.xs.length := by simp at h1; omega
    repeat (first
      | refine r_mv_p rfl ?_ | refine r_sem rfl rfl rfl rfl ?_ | refine r_nil ?_ | refine r_storeAll rfl rfl rfl rfl rfl rfl ?_ | refine run_seq ?_ | refine run_reg ?_ | refine run_exit ?_
      | refine run_ret ?_ | refine fin_seq ?_ | refine fin_seq_e ?_ | refine fin_blk_e ?_ | refine fin_loop_e ?_)
    exact fin_out rfl (by rw [hfst, hlt]; simp; rfl)

def houseOut (p : House × Int) : PV := .tup [.agg p.1.enc, .v (.int .i64 p.2)]
theorem itemOut_none : itemOut none = .tup [.agg Item.zero.enc, .v (.bool false)] := rfl
theorem itemOut_some (x : Item) : itemOut (some x) = .tup [.agg x.enc, .v (.bool true)] := rfl
theorem binOut_none : binOut none = .tup [.agg Bin.zero.enc, .v (.bool false)] := rfl
theorem binOut_some (x : Bin) : binOut (some x) = .tup [.agg x.enc, .v (.bool true)] := rfl

/-! ### How many of an item and lot there are -/
def House.sum (h : House) (i c : Str) : Int := h.quants.xs.foldl (addQ i c) 0
def sumTo (h : House) (i c : Str) (k : Nat) : Int := (h.quants.xs.take k).foldl (addQ i c) 0
theorem sumTo_succ (h : House) (i c : Str) (k : Nat) (hk : k < h.quants.xs.length) : sumTo h i c (k + 1) = addQ i c (sumTo h i c k) h.quants.xs[k] := by
  unfold sumTo
  rw [← List.take_append_getElem hk, List.foldl_append]; rfl
theorem sumTo_all (h : House) (i c : Str) {k : Nat} (hk : k = h.quants.xs.length) : sumTo h i c k = h.sum i c := by
  unfold sumTo House.sum
  rw [List.take_of_length_le (by omega)]
set_option maxHeartbeats 4000000 in
theorem total74 (h : House) (i0 c : Str) : Ret Tryz.prog 74 [.agg h.enc, .v (.string i0), .v (.string c)] (.v (.int .i64 (h.sum i0 c))) := by
  refine ret74 rfl fun hbd => ?_
  have hb := bd_quants (hbd _ (List.mem_cons_self))
  unfold c74
  repeat (first
    | refine r_mv_p rfl ?_ | refine r_fad rfl rfl ?_ | refine r_sem rfl rfl rfl rfl ?_ | refine r_nil ?_ | refine r_box rfl rfl rfl ?_ | refine run_seq ?_ | refine run_reg ?_
    | refine run_block ?_ | refine fin_seq ?_)
  refine run_weak (weak_S ?_ ?_) (run_inv (fun k : Nat => S [(1, .p (.v (.string i0))), (2, .p (.v (.string c))), (7, .p (.v (.int .i64 (sumTo h i0 c k)))), (11, .p (.sl (h.quants.xs.map Quant.enc) h.quants.sp)), (12, .p (.v (.int .i64 ((h.quants.xs.map Quant.enc).length : Nat)))), (13, .p (.v (.int .i64 (k : Nat))))] [])
    (fun k => k ≤ h.quants.xs.length) (fun k => h.quants.xs.length - k) ?_ 0 (Nat.zero_le _))
  · exact ⟨rfl, rfl, rfl, rfl, rfl, rfl, trivial⟩
  · trivial
  intro k hk ih
  repeat (first
    | refine r_sem rfl rfl rfl rfl ?_ | refine r_nil ?_ | refine run_seq ?_ | refine run_reg ?_ | refine fin_seq ?_)
  refine run_cond rfl (fun h1 => ?_) (fun h1 => ?_)
  · have hlt : k < h.quants.xs.length := by simpa using h1
    have hx : (h.quants.xs.map Quant.enc)[k]? = some h.quants.xs[k].enc := by simp [hlt]
    have hs := sumTo_succ h i0 c k hlt
    obtain ⟨q, hq⟩ : ∃ q, q = h.quants.xs[k] := ⟨_, rfl⟩
    obtain ⟨n, hn⟩ : ∃ n, n = sumTo h i0 c k := ⟨_, rfl⟩
    rw [← hq] at hx hs
    rw [← hn] at hs ⊢
    cases k1 : decide (q.item = i0) with
    | true =>
      cases k2 : decide (q.lot = c) with
      | true =>
        have hE : sumTo h i0 c (k + 1) = IntKind.i64.wrap (n + q.qty) := by rw [hs, addQ, if_pos ⟨of_decide_eq_true k1, of_decide_eq_true k2⟩]
        repeat (first
          | refine r_mv_p rfl ?_ | refine r_doA rfl ?_ | refine r_fad rfl rfl ?_ | refine r_addA rfl rfl ?_ | refine r_loadA rfl ?_ | refine r_pickT rfl rfl rfl ?_
          | refine r_sem rfl rfl rfl rfl ?_ | refine r_nil ?_ | refine r_iadA rfl rfl ?_ | refine r_storeAll rfl rfl rfl rfl rfl rfl ?_ | refine r_alloc rfl ?_ | refine run_seq ?_
          | refine run_reg ?_ | refine run_block ?_ | refine run_skip ?_ | refine fin_seq ?_ | refine fin_blk ?_ | refine run_condT rfl ?_)
        refine fin_loop (run_weak (weak_S ?_ ?_) (ih (k + 1) hlt (by omega)))
        · exact ⟨rfl, rfl, by rw [hE]; rfl, rfl, rfl, rfl, trivial⟩
        · trivial
      | false =>
        have hE : sumTo h i0 c (k + 1) = n := by rw [hs, addQ, if_neg (fun e => of_decide_eq_false k2 e.2)]
        repeat (first
          | refine r_mv_p rfl ?_ | refine r_doA rfl ?_ | refine r_fad rfl rfl ?_ | refine r_addA rfl rfl ?_ | refine r_loadA rfl ?_ | refine r_pickT rfl rfl rfl ?_
          | refine r_sem rfl rfl rfl rfl ?_ | refine r_nil ?_ | refine r_iadA rfl rfl ?_ | refine r_storeAll rfl rfl rfl rfl rfl rfl ?_ | refine r_alloc rfl ?_ | refine run_seq ?_
          | refine run_reg ?_ | refine run_block ?_ | refine run_skip ?_ | refine fin_seq ?_ | refine fin_blk ?_ | refine run_condF rfl ?_)
        refine fin_loop (run_weak (weak_S ?_ ?_) (ih (k + 1) hlt (by omega)))
        · exact ⟨rfl, rfl, by rw [hE]; rfl, rfl, rfl, rfl, trivial⟩
        · trivial
    | false =>
      have hE : sumTo h i0 c (k + 1) = n := by rw [hs, addQ, if_neg (fun e => of_decide_eq_false k1 e.1)]
      repeat (first
        | refine r_mv_p rfl ?_ | refine r_skipA rfl ?_ | refine r_fad rfl rfl ?_ | refine r_addA rfl rfl ?_ | refine r_loadA rfl ?_ | refine r_pickF rfl rfl rfl ?_
        | refine r_sem rfl rfl rfl rfl ?_ | refine r_nil ?_ | refine r_iadA rfl rfl ?_ | refine r_storeAll rfl rfl rfl rfl rfl rfl ?_ | refine r_alloc rfl ?_ | refine run_seq ?_
        | refine run_reg ?_ | refine run_block ?_ | refine run_skip ?_ | refine fin_seq ?_ | refine fin_blk ?_ | refine run_condF rfl ?_)
      refine fin_loop (run_weak (weak_S ?_ ?_) (ih (k + 1) hlt (by omega)))
      · exact ⟨rfl, rfl, by rw [hE]; rfl, rfl, rfl, rfl, trivial⟩
      · trivial
  · have hlt : k = h.quants.xs.length := by simp at h1; omega
    rw [sumTo_all h i0 c hlt]
    repeat (first
      | refine r_mv_p rfl ?_ | refine r_nil ?_ | refine run_seq ?_ | refine run_reg ?_ | refine run_exit ?_ | refine run_ret ?_ | refine fin_seq ?_ | refine fin_seq_e ?_
      | refine fin_blk_e ?_ | refine fin_loop_e ?_)
    exact fin_out rfl rfl
set_option maxHeartbeats 4000000 in
theorem refTotal82 (h : House) (i0 c : Str) : Ret Tryz.prog 82 [.agg h.enc, .v (.string i0), .v (.string c)] (.v (.int .i64 (h.sum i0 c))) := by
  refine ret82 rfl fun hbd => ?_
  have hb := bd_quants (hbd _ (List.mem_cons_self))
  unfold c82
  repeat (first
    | refine r_mv_p rfl ?_ | refine r_nil ?_ | refine r_box rfl rfl rfl ?_ | refine run_seq ?_ | refine run_reg ?_ | refine run_block ?_ | refine fin_seq ?_)
  refine run_weak (weak_S ?_ ?_) (run_inv (fun k : Nat => S [(1, .p (.v (.string i0))), (2, .p (.v (.string c))), (3, .own 3 0), (7, .p (.v (.int .i64 (sumTo h i0 c k)))), (8, .p (.v (.int .i64 (k : Nat))))] [(3, some (.box h.enc false))])
    (fun k => k ≤ h.quants.xs.length) (fun k => h.quants.xs.length - k) ?_ 0 (Nat.zero_le _))
  · exact ⟨rfl, rfl, rfl, rfl, rfl, trivial⟩
  · exact ⟨rfl, trivial⟩
  intro k hk ih
  repeat (first
    | refine r_mv_p rfl ?_ | refine r_fad rfl rfl ?_ | refine r_sem rfl rfl rfl rfl ?_ | refine r_nil ?_ | refine run_seq ?_ | refine run_reg ?_ | refine fin_seq ?_)
  refine run_cond rfl (fun h1 => ?_) (fun h1 => ?_)
  · have hlt : k < h.quants.xs.length := by simpa using h1
    have hx : (h.quants.xs.map Quant.enc)[k]? = some h.quants.xs[k].enc := by simp [hlt]
    have hs := sumTo_succ h i0 c k hlt
    obtain ⟨q, hq⟩ : ∃ q, q = h.quants.xs[k] := ⟨_, rfl⟩
    obtain ⟨n, hn⟩ : ∃ n, n = sumTo h i0 c k := ⟨_, rfl⟩
    rw [← hq] at hx hs
    rw [← hn] at hs ⊢
    cases k1 : decide (q.item = i0) with
    | true =>
      cases k2 : decide (q.lot = c) with
      | true =>
        have hE : sumTo h i0 c (k + 1) = IntKind.i64.wrap (n + q.qty) := by rw [hs, addQ, if_pos ⟨of_decide_eq_true k1, of_decide_eq_true k2⟩]
        repeat (first
          | refine r_mv_p rfl ?_ | refine r_doA rfl ?_ | refine r_fad rfl rfl ?_ | refine r_addA rfl rfl ?_ | refine r_pickT rfl rfl rfl ?_ | refine r_sem rfl rfl rfl rfl ?_ | refine r_nil ?_
          | refine r_iadA rfl rfl ?_ | refine run_seq ?_ | refine run_reg ?_ | refine run_block ?_ | refine run_skip ?_ | refine fin_seq ?_ | refine fin_blk ?_ | refine run_condT rfl ?_)
        refine fin_loop (run_weak (weak_S ?_ ?_) (ih (k + 1) hlt (by omega)))
        · exact ⟨rfl, rfl, rfl, by rw [hE]; rfl, rfl, trivial⟩
        · exact ⟨rfl, trivial⟩
      | false =>
        have hE : sumTo h i0 c (k + 1) = n := by rw [hs, addQ, if_neg (fun e => of_decide_eq_false k2 e.2)]
        repeat (first
          | refine r_mv_p rfl ?_ | refine r_doA rfl ?_ | refine r_fad rfl rfl ?_ | refine r_addA rfl rfl ?_ | refine r_pickT rfl rfl rfl ?_ | refine r_sem rfl rfl rfl rfl ?_ | refine r_nil ?_
          | refine r_iadA rfl rfl ?_ | refine run_seq ?_ | refine run_reg ?_ | refine run_block ?_ | refine run_skip ?_ | refine fin_seq ?_ | refine fin_blk ?_ | refine run_condF rfl ?_)
        refine fin_loop (run_weak (weak_S ?_ ?_) (ih (k + 1) hlt (by omega)))
        · exact ⟨rfl, rfl, rfl, by rw [hE]; rfl, rfl, trivial⟩
        · exact ⟨rfl, trivial⟩
    | false =>
      have hE : sumTo h i0 c (k + 1) = n := by rw [hs, addQ, if_neg (fun e => of_decide_eq_false k1 e.1)]
      repeat (first
        | refine r_mv_p rfl ?_ | refine r_skipA rfl ?_ | refine r_fad rfl rfl ?_ | refine r_addA rfl rfl ?_ | refine r_pickF rfl rfl rfl ?_ | refine r_sem rfl rfl rfl rfl ?_ | refine r_nil ?_
        | refine r_iadA rfl rfl ?_ | refine run_seq ?_ | refine run_reg ?_ | refine run_block ?_ | refine run_skip ?_ | refine fin_seq ?_ | refine fin_blk ?_ | refine run_condF rfl ?_)
      refine fin_loop (run_weak (weak_S ?_ ?_) (ih (k + 1) hlt (by omega)))
      · exact ⟨rfl, rfl, rfl, by rw [hE]; rfl, rfl, trivial⟩
      · exact ⟨rfl, trivial⟩
  · have hlt : k = h.quants.xs.length := by simp at h1; omega
    rw [sumTo_all h i0 c hlt]
    repeat (first
      | refine r_mv_p rfl ?_ | refine r_nil ?_ | refine run_seq ?_ | refine run_reg ?_ | refine run_exit ?_ | refine run_ret ?_ | refine fin_seq ?_ | refine fin_seq_e ?_
      | refine fin_blk_e ?_ | refine fin_loop_e ?_)
    exact fin_out rfl rfl
end Go.Fw
