/-
  Counts: a count that is closed; by the program.
-/
import Derived.Test.YtghhmkogooancaaGreatHCp
set_option linter.unusedVariables false
set_option linter.unusedSimpArgs false
set_option maxRecDepth 10000
namespace Go.Fw
open Go.Proofs

theorem counts_bins (h : House) (c : Counted) : (h.counts c).bins = h.bins := by
  obtain ⟨-, s2, -⟩ := setQuant_same h (h.now c)
  unfold House.counts
  split
  · exact s2
  · exact s2
theorem closure72 (g : House) (x : Counted) : Ret Tryz.prog 72 [.agg x.enc, .ref g.enc 0] (.v (.bool (g.twice x))) := by
  refine ret72 rfl fun hbd => ?_
  have hi := itemsFind g x.item
  have ht := total74 g x.item x.lot
  unfold itemOut at hi
  unfold House.twice
  unfold c72
  generalize (g.item? x.item).isSome = is at *
  generalize (g.item? x.item).getD Item.zero = it at *
  generalize g.sum x.item x.lot = n at *
  cases hs : it.serial with
  | true =>
    repeat (first
      | refine r_call rfl (hi) ?_ | refine r_call rfl (ht) ?_ | refine r_mv_p rfl ?_ | refine r_doA rfl ?_ | refine r_fad rfl rfl ?_ | refine r_loadA rfl ?_ | refine r_pickT rfl rfl rfl ?_
      | refine r_sem rfl rfl rfl rfl ?_ | refine r_nil ?_ | refine r_storeAll rfl rfl rfl rfl rfl rfl ?_ | refine r_alloc rfl ?_ | refine r_box rfl rfl rfl ?_ | refine run_seq ?_
      | refine run_reg ?_ | refine run_ret ?_ | refine fin_seq ?_)
    exact fin_out rfl rfl
  | false =>
    repeat (first
      | refine r_call rfl (hi) ?_ | refine r_mv_p rfl ?_ | refine r_skipA rfl ?_ | refine r_fad rfl rfl ?_ | refine r_loadA rfl ?_ | refine r_pickF rfl rfl rfl ?_
      | refine r_sem rfl rfl rfl rfl ?_ | refine r_nil ?_ | refine r_storeAll rfl rfl rfl rfl rfl rfl ?_ | refine r_alloc rfl ?_ | refine r_box rfl rfl rfl ?_ | refine run_seq ?_
      | refine run_reg ?_ | refine run_ret ?_ | refine fin_seq ?_)
    exact fin_out rfl rfl
theorem firstC_any (q : Counted → Bool) (xs : List Counted) : decide (0 ≤ firstI q xs 0) = xs.any q := by
  have h := findB_find (q := q) (xs := xs)
  unfold findB at h
  rw [h]
  cases hf : xs.find? q with
  | none =>
    symm
    rw [Option.isSome_none, List.any_eq_false]
    exact List.find?_eq_none.1 hf
  | some y =>
    symm
    rw [Option.isSome_some, List.any_eq_true]
    exact ⟨y, List.mem_of_find?_eq_some hf, List.find?_some hf⟩
theorem contains76 (f : FuncId) (caps : List PV) (q : Counted → Bool) (xs : List Counted) (sp : List (List PV)) (hq : ∀ x ∈ xs, Ret Tryz.prog f (.agg x.enc :: caps) (.v (.bool (q x)))) :
    Ret Tryz.prog 76 [.sl (xs.map Counted.enc) sp, .clo f caps] (.v (.bool (xs.any q))) := by
  refine ret76 rfl fun hbd => ?_
  unfold c76
  repeat (first
    | refine r_call rfl (indexFunc93 Counted.enc (fun _ => rfl) f caps q xs sp hq) ?_ | refine r_mv_p rfl ?_ | refine r_sem rfl rfl rfl rfl ?_ | refine r_nil ?_ | refine run_seq ?_
    | refine run_reg ?_ | refine run_ret ?_ | refine fin_seq ?_)
  exact fin_out rfl (by rw [firstC_any])
set_option maxHeartbeats 16000000 in
theorem close17 (h : House) (c r : Str) (hf : Few h 400) : Ret Tryz.prog 17 [.agg h.enc, .v (.string c), .v (.string r)] (houseOut (h.close c r)) := by
  refine ret17 rfl fun hbd => ?_
  have hn := nums106 r
  have hz := frozen60 h c
  obtain ⟨cs, hcs⟩ : ∃ cs, cs = h.counted.xs.filter (inBin c) := ⟨_, rfl⟩
  have hk := keep69 70 [.ref [.v (.string c)] 0] (inBin c) h.counted.xs h.counted.sp (big64 (by have := hf.counted; omega)) (fun x _ => closure70 c x)
  rw [← hcs] at hk
  have hcl : cs.length ≤ 400 := by rw [hcs]; exact Nat.le_trans (List.length_filter_le _ _) hf.counted
  have hR : h.close c r = if nameE r ≠ 0 then (House.zero, nameE r) else if h.frozenE c ≠ 0 then (House.zero, h.frozenE c) else if (h.setAll cs).2 ≠ 0 then (House.zero, (h.setAll cs).2) else (h.setAll cs).1.closed c ((h.bin? c).getD Bin.zero) cs := by rw [hcs]; rfl
  rw [hR]
  clear hR hcs
  unfold c17
  generalize nameE r = ne at *
  generalize h.frozenE c = fe at *
  cases a1 : decide (ne = 0) with
  | false =>
    have a1' : (!decide (ne = 0)) = true := by rw [a1]; rfl
    rw [if_pos (show ne ≠ 0 from of_decide_eq_false a1)]
    repeat (first
      | refine r_call rfl (hn) ?_ | refine r_mv_p rfl ?_ | refine r_sem rfl rfl rfl rfl ?_ | refine r_nil ?_ | refine r_storeAll rfl rfl rfl rfl rfl rfl ?_ | refine r_alloc rfl ?_
      | refine r_box rfl rfl rfl ?_ | refine run_seq ?_ | refine run_reg ?_ | refine run_ret ?_ | refine fin_seq ?_ | refine fin_seq_r ?_ | refine run_condT rfl ?_)
    exact fin_out rfl rfl
  | true =>
  have a1' : (!decide (ne = 0)) = false := by rw [a1]; rfl
  rw [if_neg (show ¬ ne ≠ 0 from fun e => e (of_decide_eq_true a1))]
  cases a2 : decide (fe = 0) with
  | false =>
    have a2' : (!decide (fe = 0)) = true := by rw [a2]; rfl
    rw [if_pos (show fe ≠ 0 from of_decide_eq_false a2)]
    repeat (first
      | refine r_call rfl (hn) ?_ | refine r_call rfl (hz) ?_ | refine r_mv_p rfl ?_ | refine r_loadB rfl rfl ?_ | refine r_sem rfl rfl rfl rfl ?_ | refine r_nil ?_
      | refine r_storeAll rfl rfl rfl rfl rfl rfl ?_ | refine r_alloc rfl ?_ | refine r_box rfl rfl rfl ?_ | refine run_seq ?_ | refine run_reg ?_ | refine run_skip ?_ | refine run_ret ?_
      | refine fin_seq ?_ | refine fin_seq_r ?_ | refine run_condT rfl ?_ | refine run_condF rfl ?_)
    exact fin_out rfl rfl
  | true =>
  have a2' : (!decide (fe = 0)) = false := by rw [a2]; rfl
  rw [if_neg (show ¬ fe ≠ 0 from fun e => e (of_decide_eq_true a2))]
  repeat (first
    | refine r_call rfl (hn) ?_ | refine r_call rfl (hz) ?_ | refine r_call rfl (hk) ?_ | refine r_mv_p rfl ?_ | refine r_fad rfl rfl ?_ | refine r_loadB rfl rfl ?_
    | refine r_sem rfl rfl rfl rfl ?_ | refine r_nil ?_ | refine r_alloc rfl ?_ | refine r_box rfl rfl rfl ?_ | refine r_semF rfl rfl rfl rfl ?_ | refine run_seq ?_ | refine run_reg ?_
    | refine run_block ?_ | refine run_skip ?_ | refine fin_seq ?_ | refine run_condF rfl ?_)
  refine run_weak (weak_S ?_ ?_) (run_inv (fun q : Nat × House => S [(3, .own 3 0), (4, .own 4 0), (6, .own 6 0), (10, .p (.sl (cs.map Counted.enc) [])), (36, .p (.sl (cs.map Counted.enc) [])), (37, .p (.v (.int .i64 ((cs.map Counted.enc).length : Nat)))), (38, .p (.v (.int .i64 (q.1 : Nat))))] [(3, some (.box q.2.enc false)), (4, some (.box [.v (.string c)] true)), (6, some (.box House.zero.enc false))])
    (fun q => q.1 ≤ cs.length ∧ h.setAll cs = q.2.setAll (cs.drop q.1) ∧ q.2.bins = h.bins ∧ Few q.2 (400 + q.1)) (fun q => cs.length - q.1) ?_ (0, h) ⟨Nat.zero_le _, rfl, rfl, hf⟩)
  · exact ⟨rfl, rfl, rfl, rfl, rfl, rfl, rfl, trivial⟩
  · exact ⟨rfl, rfl, rfl, trivial⟩
  clear hn hz hk a1 a1' a2 a2' hf hbd
  rintro ⟨k, g⟩ ⟨hk, hall, hbins, hfew⟩ ih
  simp only at hk hall hbins hfew
  rw [hall]
  repeat (first
    | refine r_sem rfl rfl rfl rfl ?_ | refine r_nil ?_ | refine run_seq ?_ | refine run_reg ?_ | refine fin_seq ?_)
  refine run_cond rfl (fun h1 => ?_) (fun h1 => ?_)
  · have hlt : k < cs.length := by simpa using h1
    have hx : (cs.map Counted.enc)[k]? = some cs[k].enc := by simp [hlt]
    have hdrop : cs.drop k = cs[k] :: cs.drop (k + 1) := List.drop_eq_getElem_cons hlt
    obtain ⟨x, hxe⟩ : ∃ x, x = cs[k] := ⟨_, rfl⟩
    rw [← hxe] at hx hdrop
    have hset := set71 g x ⟨by have := hfew.quants; omega, by have := hfew.totals; omega, by have := hfew.bins; omega, by have := hfew.counted; omega⟩
    have hS : g.setAll (cs.drop k) = if g.setE x = 0 then (g.counts x).setAll (cs.drop (k + 1)) else (House.zero, g.setE x) := by rw [hdrop]; rfl
    cases he : decide (g.setE x = 0) with
    | true =>
      have he0 := of_decide_eq_true he
      have hC : g.setC x = (g.counts x, 0) := by unfold House.setC; rw [if_pos he0]
      rw [hC] at hset
      replace hset : Ret Tryz.prog 71 _ (.tup [.agg (g.counts x).enc, .v (.int .i64 0)]) := hset
      rw [if_pos he0] at hS
      have hnext := ih (k + 1, g.counts x) ⟨hlt, by rw [hall, hS], by rw [counts_bins]; exact hbins, counts_few hfew x⟩ (by simp only; omega)
      rw [hall] at hnext
      repeat (first
        | refine r_call rfl (hset) ?_ | refine r_mv_p rfl ?_ | refine r_addA rfl rfl ?_ | refine r_loadA rfl ?_ | refine r_loadB rfl rfl ?_ | refine r_sem rfl rfl rfl rfl ?_ | refine r_nil ?_
        | refine r_iadA rfl rfl ?_ | refine r_storeAll rfl rfl rfl rfl rfl rfl ?_ | refine r_alloc rfl ?_ | refine run_seq ?_ | refine run_reg ?_ | refine run_block ?_ | refine run_skip ?_
        | refine fin_seq ?_ | refine fin_blk ?_ | refine run_condF rfl ?_)
      refine fin_loop (run_weak (weak_S ?_ ?_) hnext)
      · exact ⟨rfl, rfl, rfl, rfl, rfl, rfl, rfl, trivial⟩
      · exact ⟨rfl, rfl, rfl, trivial⟩
    | false =>
      have he0 := of_decide_eq_false he
      have hC : g.setC x = (House.zero, g.setE x) := by unfold House.setC; rw [if_neg he0]
      rw [hC] at hset
      replace hset : Ret Tryz.prog 71 _ (.tup [.agg House.zero.enc, .v (.int .i64 (g.setE x))]) := hset
      have he' : (!decide (g.setE x = 0)) = true := by rw [he]; rfl
      rw [if_neg he0] at hS
      rw [hS, if_pos (show ((House.zero, g.setE x) : House × Int).2 ≠ 0 from he0)]
      repeat (first
        | refine r_call rfl (hset) ?_ | refine r_mv_p rfl ?_ | refine r_loadA rfl ?_ | refine r_loadB rfl rfl ?_ | refine r_sem rfl rfl rfl rfl ?_ | refine r_nil ?_ | refine r_iadA rfl rfl ?_
        | refine r_storeAll rfl rfl rfl rfl rfl rfl ?_ | refine r_alloc rfl ?_ | refine run_seq ?_ | refine run_reg ?_ | refine run_block ?_ | refine run_skip ?_ | refine run_ret ?_
        | refine fin_seq ?_ | refine fin_seq_r ?_ | refine fin_blk_r ?_ | refine fin_loop_r ?_ | refine run_condT rfl ?_)
      exact fin_out rfl rfl
  · have hlt : k = cs.length := by simp at h1; omega
    clear ih
    have hS : g.setAll (cs.drop k) = (g, 0) := by rw [hlt, List.drop_length]; rfl
    rw [hS, if_neg (by simp)]
    have hb := findBin g c
    have hbq : g.bin? c = h.bin? c := by unfold House.bin?; rw [hbins]
    rw [hbq] at hb
    unfold binOut at hb
    have hld := load47 g c
    have htw := contains76 72 [.ref g.enc 0] g.twice cs [] (fun x _ => closure72 g x)
    have hcn := count19 g c (big80 (by have := hfew.bins; omega)) (big64 (by have := hfew.counted; omega))
    have hD : g.closed c ((h.bin? c).getD Bin.zero) cs = if cs.any g.twice = true then (House.zero, 22) else if beyond (g.load c) ((h.bin? c).getD Bin.zero) = true then (House.zero, 26) else g.count c false := rfl
    show Run _ _ _ _ _
    rw [show ((g, (0 : Int)) : House × Int).1 = g from rfl, hD]
    generalize (h.bin? c).getD Bin.zero = b at *
    generalize (h.bin? c).isSome = bi at *
    obtain ⟨⟨v, w⟩, hvw⟩ : ∃ p, p = g.load c := ⟨_, rfl⟩
    rw [← hvw] at hld ⊢
    unfold amOut at hld
    clear hall hbins hfew hbq hS
    cases t1 : cs.any g.twice with
    | true =>
      rw [t1] at htw
      rw [if_pos rfl]
      repeat (first
        | refine r_call rfl (hb) ?_ | refine r_call rfl (hld) ?_ | refine r_call rfl (htw) ?_ | refine r_mv_p rfl ?_ | refine r_loadB rfl rfl ?_ | refine r_sem rfl rfl rfl rfl ?_
        | refine r_nil ?_ | refine r_storeAll rfl rfl rfl rfl rfl rfl ?_ | refine r_alloc rfl ?_ | refine r_semF rfl rfl rfl rfl ?_ | refine run_seq ?_ | refine run_reg ?_
        | refine run_block ?_ | refine run_exit ?_ | refine run_ret ?_ | refine fin_seq ?_ | refine fin_seq_e ?_ | refine fin_seq_r ?_ | refine fin_blk_e ?_ | refine fin_blk_r ?_
        | refine fin_loop_e ?_ | refine run_condT rfl ?_)
      exact fin_out rfl rfl
    | false =>
      rw [t1] at htw
      rw [if_neg (by decide)]
      cases b1 : decide (b.volume < v) with
      | true =>
        rw [if_pos (show beyond (v, w) b = true by simp only [beyond, b1, Bool.true_or])]
        repeat (first
          | refine r_call rfl (hb) ?_ | refine r_call rfl (hld) ?_ | refine r_call rfl (htw) ?_ | refine r_mv_p rfl ?_ | refine r_skipA rfl ?_ | refine r_fad rfl rfl ?_
          | refine r_loadB rfl rfl ?_ | refine r_pickT rfl rfl rfl ?_ | refine r_sem rfl rfl rfl rfl ?_ | refine r_nil ?_ | refine r_storeAll rfl rfl rfl rfl rfl rfl ?_ | refine r_alloc rfl ?_
          | refine r_semF rfl rfl rfl rfl ?_ | refine run_seq ?_ | refine run_reg ?_ | refine run_block ?_ | refine run_exit ?_ | refine run_ret ?_ | refine fin_seq ?_ | refine fin_seq_e ?_
          | refine fin_seq_r ?_ | refine fin_blk_e ?_ | refine fin_blk_r ?_ | refine fin_loop_e ?_ | refine run_condT rfl ?_ | refine run_condF rfl ?_)
        exact fin_out rfl rfl
      | false =>
        cases b2 : decide (b.weight < w) with
        | true =>
          rw [if_pos (show beyond (v, w) b = true by simp only [beyond, b2, Bool.or_true])]
          repeat (first
            | refine r_call rfl (hb) ?_ | refine r_call rfl (hld) ?_ | refine r_call rfl (htw) ?_ | refine r_mv_p rfl ?_ | refine r_doA rfl ?_ | refine r_fad rfl rfl ?_
            | refine r_loadB rfl rfl ?_ | refine r_pickF rfl rfl rfl ?_ | refine r_sem rfl rfl rfl rfl ?_ | refine r_nil ?_ | refine r_storeAll rfl rfl rfl rfl rfl rfl ?_ | refine r_alloc rfl ?_
            | refine r_semF rfl rfl rfl rfl ?_ | refine run_seq ?_ | refine run_reg ?_ | refine run_block ?_ | refine run_exit ?_ | refine run_ret ?_ | refine fin_seq ?_ | refine fin_seq_e ?_
            | refine fin_seq_r ?_ | refine fin_blk_e ?_ | refine fin_blk_r ?_ | refine fin_loop_e ?_ | refine run_condT rfl ?_ | refine run_condF rfl ?_)
          exact fin_out rfl rfl
        | false =>
          rw [if_neg (show ¬ beyond (v, w) b = true by simp only [beyond, b1, b2]; decide)]
          obtain ⟨⟨g2, e2⟩, hg2⟩ : ∃ p, p = g.count c false := ⟨_, rfl⟩
          rw [← hg2] at hcn ⊢
          replace hcn : Ret Tryz.prog 19 _ (.tup [.agg g2.enc, .v (.int .i64 e2)]) := hcn
          repeat (first
            | refine r_call rfl (hb) ?_ | refine r_call rfl (hld) ?_ | refine r_call rfl (htw) ?_ | refine r_call rfl (hcn) ?_ | refine r_mv_p rfl ?_ | refine r_doA rfl ?_
            | refine r_fad rfl rfl ?_ | refine r_loadB rfl rfl ?_ | refine r_pickF rfl rfl rfl ?_ | refine r_sem rfl rfl rfl rfl ?_ | refine r_nil ?_
            | refine r_storeAll rfl rfl rfl rfl rfl rfl ?_ | refine r_alloc rfl ?_ | refine r_semF rfl rfl rfl rfl ?_ | refine run_seq ?_ | refine run_reg ?_ | refine run_block ?_
            | refine run_skip ?_ | refine run_exit ?_ | refine run_ret ?_ | refine fin_seq ?_ | refine fin_seq_e ?_ | refine fin_blk ?_ | refine fin_blk_e ?_ | refine fin_loop_e ?_
            | refine run_condF rfl ?_)
          exact fin_out rfl rfl
end Go.Fw
