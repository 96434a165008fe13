/-
  Room: loads, and what fits; by the program and by the document.
-/
import Derived.Test.YtdmackpiohkanaaHX
import Derived.Test.YtdmackpiohkanaaHR
import Derived.Test.YtdmackpiohkanaaIrE
set_option linter.unusedVariables false
set_option linter.unusedSimpArgs false
set_option maxRecDepth 10000
namespace Go.Fw
open Go.Proofs

def amEnc (a : Am) : List PV := [.v (.int .i64 a.1), .v (.int .i64 a.2)]
def amOut (a : Am) : PV := .tup [.v (.int .i64 a.1), .v (.int .i64 a.2)]
theorem plus116 (a : Am) (x : Item) (n : Int) : Ret Try.prog 116 [.agg (amEnc a), .agg x.enc, .v (.int .i64 n)] (.agg (amEnc (plus a x n))) := by
  refine ret116 rfl fun hbd => ?_
  unfold c116
  repeat (first
    | refine r_mv_p rfl ?_ | refine r_fad rfl rfl ?_ | refine r_sem rfl rfl rfl rfl ?_ | refine r_nil ?_ | refine r_storeAll rfl rfl rfl rfl rfl rfl ?_ | refine r_alloc rfl ?_
    | refine r_box rfl rfl rfl ?_ | refine run_seq ?_ | refine run_reg ?_ | refine run_ret ?_ | refine fin_seq ?_)
  exact fin_out rfl rfl
theorem beyond117 (a : Am) (b : Bin) : Ret Try.prog 117 [.agg (amEnc a), .agg b.enc] (.v (.bool (beyond a b))) := by
  refine ret117 rfl fun hbd => ?_
  unfold c117
  cases h : decide (b.volume < a.1) with
  | true =>
    repeat (first
      | refine r_mv_p rfl ?_ | refine r_skipA rfl ?_ | refine r_fad rfl rfl ?_ | refine r_pickT rfl rfl rfl ?_ | refine r_sem rfl rfl rfl rfl ?_ | refine r_nil ?_
      | refine r_box rfl rfl rfl ?_ | refine run_seq ?_ | refine run_reg ?_ | refine run_ret ?_ | refine fin_seq ?_)
    exact fin_out rfl (by rw [beyond, h]; rfl)
  | false =>
    repeat (first
      | refine r_mv_p rfl ?_ | refine r_doA rfl ?_ | refine r_fad rfl rfl ?_ | refine r_pickF rfl rfl rfl ?_ | refine r_sem rfl rfl rfl rfl ?_ | refine r_nil ?_
      | refine r_box rfl rfl rfl ?_ | refine run_seq ?_ | refine run_reg ?_ | refine run_ret ?_ | refine fin_seq ?_)
    exact fin_out rfl (by rw [beyond, h]; rfl)
def accL (h : House) (c : Str) (i : Nat) : Am := (h.quants.xs.take i).foldl (ldStep h c) (0, 0)
theorem accL_succ (h : House) (c : Str) (i : Nat) (hi : i < h.quants.xs.length) : accL h c (i + 1) = ldStep h c (accL h c i) h.quants.xs[i] := by
  unfold accL
  rw [← List.take_append_getElem hi, List.foldl_append]; rfl
theorem accL_all (h : House) (c : Str) {i : Nat} (hi : i = h.quants.xs.length) : accL h c i = h.load c := by
  unfold accL House.load
  rw [List.take_of_length_le (by omega)]
set_option maxHeartbeats 4000000 in
theorem load115 (h : House) (c : Str) : Ret Try.prog 115 [.agg h.enc, .v (.string c)] (.agg (amEnc (h.load c))) := by
  refine ret115 rfl fun hbd => ?_
  have hbq := bd_quants (hbd _ (List.mem_cons_self))
  unfold c115
  repeat (first
    | refine r_mv_p rfl ?_ | refine r_fad rfl rfl ?_ | refine r_sem rfl rfl rfl rfl ?_ | refine r_nil ?_ | refine r_alloc rfl ?_ | refine r_box rfl rfl rfl ?_ | refine run_seq ?_
    | refine run_reg ?_ | refine run_block ?_ | refine fin_seq ?_)
  refine run_weak (weak_S ?_ ?_) (run_inv (fun i : Nat => S [(1, .p (.v (.string c))), (2, .own 2 0), (4, .own 4 0), (5, .own 5 0), (11, .p (.sl (h.quants.xs.map Quant.enc) h.quants.sp)), (12, .p (.v (.int .i64 ((h.quants.xs.map Quant.enc).length : Nat)))), (13, .p (.v (.int .i64 (i : Nat))))] [(2, some (.box h.enc false)), (4, some (.box (amEnc (0, 0)) false)), (5, some (.box (amEnc (accL h c i)) false))])
    (fun i => i ≤ h.quants.xs.length) (fun i => h.quants.xs.length - i) ?_ 0 (Nat.zero_le _))
  · exact ⟨rfl, rfl, rfl, rfl, rfl, rfl, rfl, trivial⟩
  · exact ⟨rfl, rfl, rfl, trivial⟩
  intro i hi ih
  repeat (first
    | refine r_sem rfl rfl rfl rfl ?_ | refine r_nil ?_ | refine run_seq ?_ | refine run_reg ?_ | refine fin_seq ?_)
  refine run_cond rfl (fun h1 => ?_) (fun h1 => ?_)
  · have hlt : i < h.quants.xs.length := by simpa using h1
    have hx : (h.quants.xs.map Quant.enc)[i]? = some h.quants.xs[i].enc := by simp [hlt]
    have hs := accL_succ h c i hlt
    obtain ⟨q, hq⟩ : ∃ q, q = h.quants.xs[i] := ⟨_, rfl⟩
    obtain ⟨a, ha⟩ : ∃ a, a = accL h c i := ⟨_, rfl⟩
    rw [← hq] at hx hs
    rw [← ha] at hs ⊢
    cases hb : (!decide (q.bin = c)) with
    | true =>
      have hE : accL h c (i + 1) = a := by rw [hs, ldStep, if_neg (by simpa using hb)]
      repeat (first
        | refine r_mv_p rfl ?_ | refine r_fad rfl rfl ?_ | refine r_addA rfl rfl ?_ | refine r_loadA rfl ?_ | refine r_sem rfl rfl rfl rfl ?_ | refine r_nil ?_ | refine r_iadA rfl rfl ?_
        | refine r_storeAll rfl rfl rfl rfl rfl rfl ?_ | refine r_alloc rfl ?_ | refine run_seq ?_ | refine run_reg ?_ | refine run_block ?_ | refine run_skip ?_ | refine run_exit ?_
        | refine fin_seq ?_ | refine fin_seq_e ?_ | refine fin_blk_e ?_ | refine run_condT rfl ?_)
      refine fin_loop (run_weak (weak_S ?_ ?_) (ih (i + 1) hlt (by omega)))
      · exact ⟨rfl, rfl, rfl, rfl, rfl, rfl, rfl, trivial⟩
      · exact ⟨rfl, rfl, by rw [hE]; rfl, trivial⟩
    | false =>
      have hf := itemsFind h q.item
      cases hc : h.item? q.item with
      | none =>
        have hE : accL h c (i + 1) = a := by rw [hs, ldStep, if_pos (by simpa using hb), hc]
        simp only [hc, itemOut_none, itemOut_some, binOut_none, binOut_some] at hf
        repeat (first
          | refine r_call rfl (hf) ?_ | refine r_mv_p rfl ?_ | refine r_fad rfl rfl ?_ | refine r_addA rfl rfl ?_ | refine r_loadA rfl ?_ | refine r_loadB rfl rfl ?_
          | refine r_sem rfl rfl rfl rfl ?_ | refine r_nil ?_ | refine r_iadA rfl rfl ?_ | refine r_storeAll rfl rfl rfl rfl rfl rfl ?_ | refine r_alloc rfl ?_ | refine run_seq ?_
          | refine run_reg ?_ | refine run_block ?_ | refine run_skip ?_ | refine fin_seq ?_ | refine fin_blk ?_ | refine run_condF rfl ?_)
        refine fin_loop (run_weak (weak_S ?_ ?_) (ih (i + 1) hlt (by omega)))
        · exact ⟨rfl, rfl, rfl, rfl, rfl, rfl, rfl, trivial⟩
        · exact ⟨rfl, rfl, by rw [hE]; rfl, trivial⟩
      | some x =>
        have hE : accL h c (i + 1) = plus a x q.qty := by rw [hs, ldStep, if_pos (by simpa using hb), hc]
        simp only [hc, itemOut_none, itemOut_some, binOut_none, binOut_some] at hf
        repeat (first
          | refine r_call rfl (hf) ?_ | refine r_call rfl (plus116 a x q.qty) ?_ | refine r_mv_p rfl ?_ | refine r_fad rfl rfl ?_ | refine r_addA rfl rfl ?_ | refine r_loadA rfl ?_
          | refine r_loadB rfl rfl ?_ | refine r_sem rfl rfl rfl rfl ?_ | refine r_nil ?_ | refine r_iadA rfl rfl ?_ | refine r_storeAll rfl rfl rfl rfl rfl rfl ?_ | refine r_alloc rfl ?_
          | refine run_seq ?_ | refine run_reg ?_ | refine run_block ?_ | refine run_skip ?_ | refine fin_seq ?_ | refine fin_blk ?_ | refine run_condT rfl ?_ | refine run_condF rfl ?_)
        refine fin_loop (run_weak (weak_S ?_ ?_) (ih (i + 1) hlt (by omega)))
        · exact ⟨rfl, rfl, rfl, rfl, rfl, rfl, rfl, trivial⟩
        · exact ⟨rfl, rfl, by rw [hE]; rfl, trivial⟩
  · have hlt : i = h.quants.xs.length := by simp at h1; omega
    rw [accL_all h c hlt]
    repeat (first
      | refine r_loadB rfl rfl ?_ | refine r_nil ?_ | refine r_storeAll rfl rfl rfl rfl rfl rfl ?_ | refine run_seq ?_ | refine run_reg ?_ | refine run_exit ?_ | refine run_ret ?_
      | refine fin_seq ?_ | refine fin_seq_e ?_ | refine fin_blk_e ?_ | refine fin_loop_e ?_)
    exact fin_out rfl rfl
theorem load47 (h : House) (c : Str) : Ret Try.prog 47 [.agg h.enc, .v (.string c)] (amOut (h.load c)) := by
  refine ret47 rfl fun hbd => ?_
  unfold c47
  repeat (first
    | refine r_call rfl (load115 h c) ?_ | refine r_mv_p rfl ?_ | refine r_fad rfl rfl ?_ | refine r_loadB rfl rfl ?_ | refine r_sem rfl rfl rfl rfl ?_ | refine r_nil ?_
    | refine r_storeAll rfl rfl rfl rfl rfl rfl ?_ | refine r_alloc rfl ?_ | refine r_box rfl rfl rfl ?_ | refine run_seq ?_ | refine run_reg ?_ | refine run_regd rfl ?_
    | refine run_ret ?_ | refine fin_seq ?_)
  exact fin_out rfl rfl
set_option maxHeartbeats 4000000 in
theorem refLoad48 (h : House) (c : Str) : Ret Try.prog 48 [.agg h.enc, .v (.string c)] (amOut (h.load c)) := by
  refine ret48 rfl fun hbd => ?_
  have hbq := bd_quants (hbd _ (List.mem_cons_self))
  unfold c48
  repeat (first
    | refine r_mv_p rfl ?_ | refine r_nil ?_ | refine r_box rfl rfl rfl ?_ | refine run_seq ?_ | refine run_reg ?_ | refine run_block ?_ | refine fin_seq ?_)
  refine run_weak (weak_S ?_ ?_) (run_inv (fun i : Nat => S [(1, .p (.v (.string c))), (2, .own 2 0), (6, .p (.v (.int .i64 (accL h c i).1))), (7, .p (.v (.int .i64 (accL h c i).2))), (8, .p (.v (.int .i64 (i : Nat))))] [(2, some (.box h.enc false))])
    (fun i => i ≤ h.quants.xs.length) (fun i => h.quants.xs.length - i) ?_ 0 (Nat.zero_le _))
  · exact ⟨rfl, rfl, rfl, rfl, rfl, trivial⟩
  · exact ⟨rfl, trivial⟩
  intro i hi ih
  repeat (first
    | refine r_mv_p rfl ?_ | refine r_fad rfl rfl ?_ | refine r_sem rfl rfl rfl rfl ?_ | refine r_nil ?_ | refine run_seq ?_ | refine run_reg ?_ | refine fin_seq ?_)
  refine run_cond rfl (fun h1 => ?_) (fun h1 => ?_)
  · have hlt : i < h.quants.xs.length := by simpa using h1
    have hx : (h.quants.xs.map Quant.enc)[i]? = some h.quants.xs[i].enc := by simp [hlt]
    have hs := accL_succ h c i hlt
    obtain ⟨q, hq⟩ : ∃ q, q = h.quants.xs[i] := ⟨_, rfl⟩
    obtain ⟨v, w, ha⟩ : ∃ v w, accL h c i = (v, w) := ⟨_, _, rfl⟩
    rw [← hq] at hx hs
    rw [ha] at hs ⊢
    have hf := refFindItem h q.item
    cases hc : h.item? q.item with
    | none =>
      simp only [hc, itemOut_none, itemOut_some, binOut_none, binOut_some] at hf
      cases hb : decide (q.bin = c) with
      | true =>
        have hE : accL h c (i + 1) = (v, w) := by rw [hs, ldStep, if_pos (of_decide_eq_true hb), hc]
        repeat (first
          | refine r_call rfl (hf) ?_ | refine r_mv_p rfl ?_ | refine r_doA rfl ?_ | refine r_fad rfl rfl ?_ | refine r_addA rfl rfl ?_ | refine r_loadA rfl ?_ | refine r_loadB rfl rfl ?_
          | refine r_pickT rfl rfl rfl ?_ | refine r_sem rfl rfl rfl rfl ?_ | refine r_nil ?_ | refine r_iadA rfl rfl ?_ | refine r_storeAll rfl rfl rfl rfl rfl rfl ?_ | refine r_alloc rfl ?_
          | refine run_seq ?_ | refine run_reg ?_ | refine run_block ?_ | refine run_skip ?_ | refine fin_seq ?_ | refine fin_blk ?_ | refine run_condF rfl ?_)
        refine fin_loop (run_weak (weak_S ?_ ?_) (ih (i + 1) hlt (by omega)))
        · exact ⟨rfl, rfl, by rw [hE]; rfl, by rw [hE]; rfl, rfl, trivial⟩
        · exact ⟨rfl, trivial⟩
      | false =>
        have hE : accL h c (i + 1) = (v, w) := by rw [hs, ldStep, if_neg (of_decide_eq_false hb)]
        repeat (first
          | refine r_call rfl (hf) ?_ | refine r_mv_p rfl ?_ | refine r_skipA rfl ?_ | refine r_fad rfl rfl ?_ | refine r_addA rfl rfl ?_ | refine r_loadA rfl ?_ | refine r_loadB rfl rfl ?_
          | refine r_pickF rfl rfl rfl ?_ | refine r_sem rfl rfl rfl rfl ?_ | refine r_nil ?_ | refine r_iadA rfl rfl ?_ | refine r_storeAll rfl rfl rfl rfl rfl rfl ?_ | refine r_alloc rfl ?_
          | refine run_seq ?_ | refine run_reg ?_ | refine run_block ?_ | refine run_skip ?_ | refine fin_seq ?_ | refine fin_blk ?_ | refine run_condF rfl ?_)
        refine fin_loop (run_weak (weak_S ?_ ?_) (ih (i + 1) hlt (by omega)))
        · exact ⟨rfl, rfl, by rw [hE]; rfl, by rw [hE]; rfl, rfl, trivial⟩
        · exact ⟨rfl, trivial⟩
    | some x =>
      simp only [hc, itemOut_none, itemOut_some, binOut_none, binOut_some] at hf
      cases hb : decide (q.bin = c) with
      | true =>
        have hE : accL h c (i + 1) = plus (v, w) x q.qty := by rw [hs, ldStep, if_pos (of_decide_eq_true hb), hc]
        repeat (first
          | refine r_call rfl (hf) ?_ | refine r_mv_p rfl ?_ | refine r_doA rfl ?_ | refine r_fad rfl rfl ?_ | refine r_addA rfl rfl ?_ | refine r_loadA rfl ?_ | refine r_loadB rfl rfl ?_
          | refine r_pickT rfl rfl rfl ?_ | refine r_sem rfl rfl rfl rfl ?_ | refine r_nil ?_ | refine r_iadA rfl rfl ?_ | refine r_storeAll rfl rfl rfl rfl rfl rfl ?_ | refine r_alloc rfl ?_
          | refine run_seq ?_ | refine run_reg ?_ | refine run_block ?_ | refine run_skip ?_ | refine fin_seq ?_ | refine fin_blk ?_ | refine run_condT rfl ?_)
        refine fin_loop (run_weak (weak_S ?_ ?_) (ih (i + 1) hlt (by omega)))
        · exact ⟨rfl, rfl, by rw [hE]; rfl, by rw [hE]; rfl, rfl, trivial⟩
        · exact ⟨rfl, trivial⟩
      | false =>
        have hE : accL h c (i + 1) = (v, w) := by rw [hs, ldStep, if_neg (of_decide_eq_false hb)]
        repeat (first
          | refine r_call rfl (hf) ?_ | refine r_mv_p rfl ?_ | refine r_skipA rfl ?_ | refine r_fad rfl rfl ?_ | refine r_addA rfl rfl ?_ | refine r_loadA rfl ?_ | refine r_loadB rfl rfl ?_
          | refine r_pickF rfl rfl rfl ?_ | refine r_sem rfl rfl rfl rfl ?_ | refine r_nil ?_ | refine r_iadA rfl rfl ?_ | refine r_storeAll rfl rfl rfl rfl rfl rfl ?_ | refine r_alloc rfl ?_
          | refine run_seq ?_ | refine run_reg ?_ | refine run_block ?_ | refine run_skip ?_ | refine fin_seq ?_ | refine fin_blk ?_ | refine run_condF rfl ?_)
        refine fin_loop (run_weak (weak_S ?_ ?_) (ih (i + 1) hlt (by omega)))
        · exact ⟨rfl, rfl, by rw [hE]; rfl, by rw [hE]; rfl, rfl, trivial⟩
        · exact ⟨rfl, trivial⟩
  · have hlt : i = h.quants.xs.length := by simp at h1; omega
    rw [accL_all h c hlt]
    repeat (first
      | refine r_mv_p rfl ?_ | refine r_nil ?_ | refine run_seq ?_ | refine run_reg ?_ | refine run_exit ?_ | refine run_ret ?_ | refine fin_seq ?_ | refine fin_seq_e ?_
      | refine fin_blk_e ?_ | refine fin_loop_e ?_)
    exact fin_out rfl rfl
set_option maxHeartbeats 4000000 in
theorem fits49 (h : House) (c i : Str) (n : Int) : Ret Try.prog 49 [.agg h.enc, .v (.string c), .v (.string i), .v (.int .i64 n)] (.v (.int .i64 (h.room c i n))) := by
  refine ret49 rfl fun hbd => ?_
  have hb := findBin h c
  have hi := itemsFind h i
  unfold c49
  unfold House.room
  cases hc : h.bin? c with
  | none =>
    simp only [hc, itemOut_none, itemOut_some, binOut_none, binOut_some] at hb
    repeat (first
      | refine r_call rfl (hb) ?_ | refine r_call rfl (hi) ?_ | refine r_mv_p rfl ?_ | refine r_skipA rfl ?_ | refine r_loadB rfl rfl ?_ | refine r_pickT rfl rfl rfl ?_
      | refine r_sem rfl rfl rfl rfl ?_ | refine r_nil ?_ | refine r_storeAll rfl rfl rfl rfl rfl rfl ?_ | refine r_alloc rfl ?_ | refine r_box rfl rfl rfl ?_ | refine run_seq ?_
      | refine run_reg ?_ | refine run_block ?_ | refine run_ret ?_ | refine fin_seq ?_ | refine fin_seq_r ?_ | refine fin_blk_r ?_ | refine run_condT rfl ?_)
    exact fin_out rfl rfl
  | some b =>
    simp only [hc, itemOut_none, itemOut_some, binOut_none, binOut_some] at hb
    cases hd : h.item? i with
    | none =>
      simp only [hd, itemOut_none, itemOut_some, binOut_none, binOut_some] at hi
      repeat (first
        | refine r_call rfl (hb) ?_ | refine r_call rfl (hi) ?_ | refine r_mv_p rfl ?_ | refine r_doA rfl ?_ | refine r_loadB rfl rfl ?_ | refine r_pickF rfl rfl rfl ?_
        | refine r_sem rfl rfl rfl rfl ?_ | refine r_nil ?_ | refine r_storeAll rfl rfl rfl rfl rfl rfl ?_ | refine r_alloc rfl ?_ | refine r_box rfl rfl rfl ?_ | refine run_seq ?_
        | refine run_reg ?_ | refine run_block ?_ | refine run_ret ?_ | refine fin_seq ?_ | refine fin_seq_r ?_ | refine fin_blk_r ?_ | refine run_condT rfl ?_)
      exact fin_out rfl rfl
    | some x =>
      simp only [hd, itemOut_none, itemOut_some, binOut_none, binOut_some] at hi
      have h2 := beyond117 (plus (h.load c) x n) b
      simp only
      cases he : beyond (plus (h.load c) x n) b with
      | true =>
        rw [he] at h2
        repeat (first
          | refine r_call rfl (hb) ?_ | refine r_call rfl (hi) ?_ | refine r_call rfl (load115 h c) ?_ | refine r_call rfl (plus116 (h.load c) x n) ?_ | refine r_call rfl (h2) ?_
          | refine r_mv_p rfl ?_ | refine r_doA rfl ?_ | refine r_loadB rfl rfl ?_ | refine r_pickF rfl rfl rfl ?_ | refine r_sem rfl rfl rfl rfl ?_ | refine r_nil ?_
          | refine r_storeAll rfl rfl rfl rfl rfl rfl ?_ | refine r_alloc rfl ?_ | refine r_box rfl rfl rfl ?_ | refine run_seq ?_ | refine run_reg ?_ | refine run_regd rfl ?_
          | refine run_block ?_ | refine run_ret ?_ | refine fin_seq ?_ | refine fin_seq_r ?_ | refine fin_blk_r ?_ | refine run_condT rfl ?_ | refine run_condF rfl ?_)
        exact fin_out rfl rfl
      | false =>
        rw [he] at h2
        repeat (first
          | refine r_call rfl (hb) ?_ | refine r_call rfl (hi) ?_ | refine r_call rfl (load115 h c) ?_ | refine r_call rfl (plus116 (h.load c) x n) ?_ | refine r_call rfl (h2) ?_
          | refine r_mv_p rfl ?_ | refine r_doA rfl ?_ | refine r_loadB rfl rfl ?_ | refine r_pickF rfl rfl rfl ?_ | refine r_sem rfl rfl rfl rfl ?_ | refine r_nil ?_
          | refine r_storeAll rfl rfl rfl rfl rfl rfl ?_ | refine r_alloc rfl ?_ | refine r_box rfl rfl rfl ?_ | refine run_seq ?_ | refine run_reg ?_ | refine run_regd rfl ?_
          | refine run_block ?_ | refine run_skip ?_ | refine run_ret ?_ | refine fin_seq ?_ | refine fin_blk ?_ | refine run_condF rfl ?_)
        exact fin_out rfl rfl
set_option maxHeartbeats 4000000 in
theorem refFits50 (h : House) (c i : Str) (n : Int) : Ret Try.prog 50 [.agg h.enc, .v (.string c), .v (.string i), .v (.int .i64 n)] (.v (.int .i64 (h.room c i n))) := by
  refine ret50 rfl fun hbd => ?_
  have hb := refFindBin h c
  have hi := refFindItem h i
  have hl := refLoad48 h c
  unfold c50
  unfold House.room
  cases hc : h.bin? c with
  | none =>
    simp only [hc, itemOut_none, itemOut_some, binOut_none, binOut_some] at hb
    repeat (first
      | refine r_call rfl (hb) ?_ | refine r_call rfl (hi) ?_ | refine r_mv_p rfl ?_ | refine r_skipA rfl ?_ | refine r_loadB rfl rfl ?_ | refine r_pickT rfl rfl rfl ?_
      | refine r_sem rfl rfl rfl rfl ?_ | refine r_nil ?_ | refine r_storeAll rfl rfl rfl rfl rfl rfl ?_ | refine r_alloc rfl ?_ | refine r_box rfl rfl rfl ?_ | refine run_seq ?_
      | refine run_reg ?_ | refine run_ret ?_ | refine fin_seq ?_ | refine fin_seq_r ?_ | refine run_condT rfl ?_)
    exact fin_out rfl rfl
  | some b =>
    simp only [hc, itemOut_none, itemOut_some, binOut_none, binOut_some] at hb
    cases hd : h.item? i with
    | none =>
      simp only [hd, itemOut_none, itemOut_some, binOut_none, binOut_some] at hi
      repeat (first
        | refine r_call rfl (hb) ?_ | refine r_call rfl (hi) ?_ | refine r_mv_p rfl ?_ | refine r_doA rfl ?_ | refine r_loadB rfl rfl ?_ | refine r_pickF rfl rfl rfl ?_
        | refine r_sem rfl rfl rfl rfl ?_ | refine r_nil ?_ | refine r_storeAll rfl rfl rfl rfl rfl rfl ?_ | refine r_alloc rfl ?_ | refine r_box rfl rfl rfl ?_ | refine run_seq ?_
        | refine run_reg ?_ | refine run_ret ?_ | refine fin_seq ?_ | refine fin_seq_r ?_ | refine run_condT rfl ?_)
      exact fin_out rfl rfl
    | some x =>
      simp only [hd, itemOut_none, itemOut_some, binOut_none, binOut_some] at hi
      simp only
      generalize h.load c = a at *
      obtain ⟨v, w⟩ := a
      cases h1 : decide (b.volume < IntKind.i64.wrap (v + IntKind.i64.wrap (n * x.volume))) with
      | true =>
        have hB : beyond (plus (v, w) x n) b = true := by
          show (decide (b.volume < IntKind.i64.wrap (v + IntKind.i64.wrap (n * x.volume))) || _) = true
          rw [h1]; rfl
        rw [hB]
        repeat (first
          | refine r_call rfl (hb) ?_ | refine r_call rfl (hi) ?_ | refine r_call rfl (hl) ?_ | refine r_mv_p rfl ?_ | refine r_doA rfl ?_ | refine r_skipA rfl ?_ | refine r_fad rfl rfl ?_
          | refine r_loadB rfl rfl ?_ | refine r_pickT rfl rfl rfl ?_ | refine r_pickF rfl rfl rfl ?_ | refine r_sem rfl rfl rfl rfl ?_ | refine r_nil ?_
          | refine r_storeAll rfl rfl rfl rfl rfl rfl ?_ | refine r_alloc rfl ?_ | refine r_box rfl rfl rfl ?_ | refine run_seq ?_ | refine run_reg ?_ | refine run_skip ?_ | refine run_ret ?_
          | refine fin_seq ?_ | refine fin_seq_r ?_ | refine run_condT rfl ?_ | refine run_condF rfl ?_)
        exact fin_out rfl rfl
      | false =>
        cases h2 : decide (b.weight < IntKind.i64.wrap (w + IntKind.i64.wrap (n * x.weight))) with
        | true =>
          have hB : beyond (plus (v, w) x n) b = true := by
            show (_ || decide (b.weight < IntKind.i64.wrap (w + IntKind.i64.wrap (n * x.weight)))) = true
            rw [h2, Bool.or_true]
          rw [hB]
          repeat (first
            | refine r_call rfl (hb) ?_ | refine r_call rfl (hi) ?_ | refine r_call rfl (hl) ?_ | refine r_mv_p rfl ?_ | refine r_doA rfl ?_ | refine r_fad rfl rfl ?_ | refine r_loadB rfl rfl ?_
            | refine r_pickF rfl rfl rfl ?_ | refine r_sem rfl rfl rfl rfl ?_ | refine r_nil ?_ | refine r_storeAll rfl rfl rfl rfl rfl rfl ?_ | refine r_alloc rfl ?_
            | refine r_box rfl rfl rfl ?_ | refine run_seq ?_ | refine run_reg ?_ | refine run_skip ?_ | refine run_ret ?_ | refine fin_seq ?_ | refine fin_seq_r ?_ | refine run_condT rfl ?_
            | refine run_condF rfl ?_)
          exact fin_out rfl rfl
        | false =>
          have hB : beyond (plus (v, w) x n) b = false := by
            show (decide (b.volume < IntKind.i64.wrap (v + IntKind.i64.wrap (n * x.volume))) || decide (b.weight < IntKind.i64.wrap (w + IntKind.i64.wrap (n * x.weight)))) = false
            rw [h1, h2]; rfl
          rw [hB]
          repeat (first
            | refine r_call rfl (hb) ?_ | refine r_call rfl (hi) ?_ | refine r_call rfl (hl) ?_ | refine r_mv_p rfl ?_ | refine r_doA rfl ?_ | refine r_fad rfl rfl ?_ | refine r_loadB rfl rfl ?_
            | refine r_pickF rfl rfl rfl ?_ | refine r_sem rfl rfl rfl rfl ?_ | refine r_nil ?_ | refine r_storeAll rfl rfl rfl rfl rfl rfl ?_ | refine r_alloc rfl ?_
            | refine r_box rfl rfl rfl ?_ | refine run_seq ?_ | refine run_reg ?_ | refine run_skip ?_ | refine run_ret ?_ | refine fin_seq ?_ | refine run_condF rfl ?_)
          exact fin_out rfl rfl
set_option maxHeartbeats 4000000 in
theorem full118 (h : House) (b : Bin) : Ret Try.prog 118 [.agg h.enc, .agg b.enc] (.v (.bool (h.full b))) := by
  refine ret118 rfl fun hbd => ?_
  have hl := refLoad48 h b.code
  unfold c118
  unfold House.full
  generalize h.load b.code = a at *
  obtain ⟨v, w⟩ := a
  cases h1 : decide (b.volume < v) with
  | true =>
    repeat (first
      | refine r_call rfl (hl) ?_ | refine r_mv_p rfl ?_ | refine r_skipA rfl ?_ | refine r_fad rfl rfl ?_ | refine r_loadB rfl rfl ?_ | refine r_pickT rfl rfl rfl ?_
      | refine r_sem rfl rfl rfl rfl ?_ | refine r_nil ?_ | refine r_box rfl rfl rfl ?_ | refine run_seq ?_ | refine run_reg ?_ | refine run_ret ?_ | refine fin_seq ?_)
    exact fin_out rfl (by simp only [beyond, h1]; rfl)
  | false =>
    repeat (first
      | refine r_call rfl (hl) ?_ | refine r_mv_p rfl ?_ | refine r_doA rfl ?_ | refine r_fad rfl rfl ?_ | refine r_loadB rfl rfl ?_ | refine r_pickF rfl rfl rfl ?_
      | refine r_sem rfl rfl rfl rfl ?_ | refine r_nil ?_ | refine r_box rfl rfl rfl ?_ | refine run_seq ?_ | refine run_reg ?_ | refine run_ret ?_ | refine fin_seq ?_)
    exact fin_out rfl (by simp only [beyond, h1]; rfl)
end Go.Fw
