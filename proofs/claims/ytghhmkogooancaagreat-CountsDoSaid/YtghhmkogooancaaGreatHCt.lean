/-
  Counts: a count that is closed; by the document.
-/
import Derived.Test.YtghhmkogooancaaGreatHCr
import Derived.Test.YtghhmkogooancaaGreatHCq
set_option linter.unusedVariables false
set_option linter.unusedSimpArgs false
set_option maxRecDepth 10000
namespace Go.Fw
open Go.Proofs

theorem drop_filter_yes {α : Type} {q : α → Bool} {xs : List α} {k : Nat} (hk : k < xs.length) (h : q xs[k] = true) : (xs.drop k).filter q = xs[k] :: (xs.drop (k + 1)).filter q := by
  rw [List.drop_eq_getElem_cons hk, List.filter_cons, if_pos h]
theorem drop_filter_no {α : Type} {q : α → Bool} {xs : List α} {k : Nat} (hk : k < xs.length) (h : q xs[k] = false) : (xs.drop k).filter q = (xs.drop (k + 1)).filter q := by
  rw [List.drop_eq_getElem_cons hk, List.filter_cons, if_neg (by rw [h]; exact Bool.false_ne_true)]
theorem any_filter' {α : Type} (p q : α → Bool) (xs : List α) : (xs.filter p).any q = xs.any fun x => p x && q x := by
  rw [List.any_filter]
theorem setAll_yes {g : House} {x : Counted} {cs : List Counted} (h : g.setE x = 0) : g.setAll (x :: cs) = (g.counts x).setAll cs := by
  show (if g.setE x = 0 then (g.counts x).setAll cs else (House.zero, g.setE x)) = _
  rw [if_pos h]
theorem setAll_no {g : House} {x : Counted} {cs : List Counted} {e : Int} (h : g.setE x = e) (he : e ≠ 0) : g.setAll (x :: cs) = (House.zero, e) := by
  show (if g.setE x = 0 then (g.counts x).setAll cs else (House.zero, g.setE x)) = _
  rw [h, if_neg he]
set_option maxHeartbeats 64000000 in
theorem refClose18 (h : House) (c r : Str) (hf : Few h 400) : Ret Tryz.prog 18 [.agg h.enc, .v (.string c), .v (.string r)] (houseOut (h.close c r)) := by
  refine ret18 rfl fun hbd => ?_
  have hn := refName109 r
  have hb := refFindBin h c
  obtain ⟨cs, hcs⟩ : ∃ cs, cs = h.counted.xs.filter (inBin c) := ⟨_, rfl⟩
  have hR : h.close c r = if nameE r ≠ 0 then (House.zero, nameE r) else if h.frozenE c ≠ 0 then (House.zero, h.frozenE c) else if (h.setAll cs).2 ≠ 0 then (House.zero, (h.setAll cs).2) else (h.setAll cs).1.closed c ((h.bin? c).getD Bin.zero) cs := by rw [hcs]; rfl
  rw [hR]
  clear hR
  unfold c18
  generalize nameE r = ne at *
  cases a1 : decide (ne = 0) with
  | false =>
    have a1' : (!decide (ne = 0)) = true := by rw [a1]; rfl
    rw [if_pos (show ne ≠ 0 from of_decide_eq_false a1)]
    repeat (first
      | refine r_call rfl (hn) ?_ | refine r_mv_p rfl ?_ | refine r_sem rfl rfl rfl rfl ?_ | refine r_nil ?_ | refine r_storeAll rfl rfl rfl rfl rfl rfl ?_ | refine r_alloc rfl ?_
      | refine r_box rfl rfl rfl ?_ | refine run_seq ?_ | refine run_reg ?_ | refine run_ret ?_ | refine fin_seq ?_ | refine fin_seq_r ?_ | refine run_condT rfl ?_)
    exact fin_out rfl rfl
  | true =>
  have a1' : (!decide (ne = 0)) = false := by rw [a1]; rfl
  rw [if_neg (show ¬ ne ≠ 0 from fun e => e (of_decide_eq_true a1))]
  cases hbn : h.bin? c with
  | none =>
    have hfz : h.frozenE c = 12 := by unfold House.frozenE; rw [hbn]
    rw [hfz, if_pos (by decide)]
    rw [hbn, binOut_none] at hb
    repeat (first
      | refine r_call rfl (hn) ?_ | refine r_call rfl (hb) ?_ | refine r_mv_p rfl ?_ | refine r_loadB rfl rfl ?_ | refine r_sem rfl rfl rfl rfl ?_ | refine r_nil ?_
      | refine r_storeAll rfl rfl rfl rfl rfl rfl ?_ | refine r_alloc rfl ?_ | refine r_box rfl rfl rfl ?_ | refine run_seq ?_ | refine run_reg ?_ | refine run_skip ?_ | refine run_ret ?_
      | refine fin_seq ?_ | refine fin_seq_r ?_ | refine run_condT rfl ?_ | refine run_condF rfl ?_)
    exact fin_out rfl rfl
  | some b =>
  rw [hbn, binOut_some] at hb
  have hbc : b.code = c := bin_code hbn
  cases hfr : b.frozen with
  | false =>
    have hfz : h.frozenE c = 13 := by unfold House.frozenE; rw [hbn]; simp [hfr]
    have hfr' : (!b.frozen) = true := by rw [hfr]; rfl
    rw [hfz, if_pos (by decide)]
    repeat (first
      | refine r_call rfl (hn) ?_ | refine r_call rfl (hb) ?_ | refine r_mv_p rfl ?_ | refine r_fad rfl rfl ?_ | refine r_loadB rfl rfl ?_ | refine r_sem rfl rfl rfl rfl ?_
      | refine r_nil ?_ | refine r_storeAll rfl rfl rfl rfl rfl rfl ?_ | refine r_alloc rfl ?_ | refine r_box rfl rfl rfl ?_ | refine run_seq ?_ | refine run_reg ?_ | refine run_skip ?_
      | refine run_ret ?_ | refine fin_seq ?_ | refine fin_seq_r ?_ | refine run_condT rfl ?_ | refine run_condF rfl ?_)
    exact fin_out rfl rfl
  | true =>
  have hfz : h.frozenE c = 0 := by unfold House.frozenE; rw [hbn]; simp [hfr]
  have hfr' : (!b.frozen) = false := by rw [hfr]; rfl
  rw [hfz, if_neg (by decide)]
  simp only [Option.getD_some]
  have hcl : h.counted.xs.length ≤ 400 := hf.counted
  repeat (first
    | refine r_call rfl (hn) ?_ | refine r_call rfl (hb) ?_ | refine r_mv_p rfl ?_ | refine r_fad rfl rfl ?_ | refine r_loadB rfl rfl ?_ | refine r_sem rfl rfl rfl rfl ?_
    | refine r_nil ?_ | refine r_storeAll rfl rfl rfl rfl rfl rfl ?_ | refine r_alloc rfl ?_ | refine r_box rfl rfl rfl ?_ | refine run_seq ?_ | refine run_reg ?_ | refine run_block ?_
    | refine run_skip ?_ | refine fin_seq ?_ | refine run_condF rfl ?_)
  refine run_weak (weak_S ?_ ?_) (run_inv (fun q : Nat × House => S [(1, .p (.v (.string c))), (3, .own 3 0), (6, .own 6 0), (9, .own 9 0), (11, .p (.sl (h.counted.xs.map Counted.enc) h.counted.sp)), (12, .p (.v (.int .i64 (q.1 : Nat))))] [(3, some (.box q.2.enc false)), (6, some (.box House.zero.enc false)), (9, some (.box b.enc false))])
    (fun q => q.1 ≤ h.counted.xs.length ∧ h.setAll cs = q.2.setAll ((h.counted.xs.drop q.1).filter (inBin c)) ∧ q.2.bins = h.bins ∧ Few q.2 (400 + q.1)) (fun q => h.counted.xs.length - q.1) ?_ (0, h) ⟨Nat.zero_le _, by rw [hcs]; rfl, rfl, hf⟩)
  · exact ⟨rfl, rfl, rfl, rfl, rfl, rfl, trivial⟩
  · exact ⟨rfl, rfl, rfl, trivial⟩
  clear hn hb a1 a1' hfr hfr' hf hbd hfz
  rintro ⟨k, g⟩ ⟨hk, hall, hbins, hfew⟩ ih
  simp only at hk hall hbins hfew
  repeat (first
    | refine r_mv_p rfl ?_ | refine r_sem rfl rfl rfl rfl ?_ | refine r_nil ?_ | refine run_seq ?_ | refine run_reg ?_ | refine fin_seq ?_)
  refine run_cond rfl (fun h1 => ?_) (fun h1 => ?_)
  · have hlt : k < h.counted.xs.length := by simpa using h1
    have hx : (h.counted.xs.map Counted.enc)[k]? = some h.counted.xs[k].enc := by simp [hlt]
    have hyes := @drop_filter_yes _ (inBin c) h.counted.xs k hlt
    have hno := @drop_filter_no _ (inBin c) h.counted.xs k hlt
    obtain ⟨x, hxe⟩ : ∃ x, x = h.counted.xs[k] := ⟨_, rfl⟩
    rw [← hxe] at hx hyes hno
    cases hin : decide (x.bin = c) with
    | false =>
      have hin' : (!decide (x.bin = c)) = true := by rw [hin]; rfl
      repeat (first
        | refine r_mv_p rfl ?_ | refine r_fad rfl rfl ?_ | refine r_addA rfl rfl ?_ | refine r_loadA rfl ?_ | refine r_sem rfl rfl rfl rfl ?_ | refine r_nil ?_ | refine r_iadA rfl rfl ?_
        | refine r_storeAll rfl rfl rfl rfl rfl rfl ?_ | refine r_alloc rfl ?_ | refine run_seq ?_ | refine run_reg ?_ | refine run_block ?_ | refine run_skip ?_ | refine run_exit ?_
        | refine fin_seq ?_ | refine fin_seq_e ?_ | refine fin_blk_e ?_ | refine run_condT rfl ?_)
      refine fin_loop (run_weak (weak_S ?_ ?_) (ih (k + 1, g) ⟨hlt, by rw [hall, hno hin], hbins, (show Few g (400 + (k + 1)) from ⟨by have := hfew.quants; omega, by have := hfew.totals; omega, by have := hfew.bins; omega, by have := hfew.counted; omega⟩)⟩ (by simp only; omega)))
      · exact ⟨rfl, rfl, rfl, rfl, rfl, rfl, trivial⟩
      · exact ⟨rfl, rfl, rfl, trivial⟩
    | true =>
      have hin' : (!decide (x.bin = c)) = false := by rw [hin]; rfl
      rw [hyes hin] at hall
      clear hyes hno
      have hq := refFindQuant g x.key
      have hwas : (g.was x) = (g.quant? x.key).getD Quant.zero := rfl
      have hql : (g.quants.xs.map Quant.enc).length = g.quants.xs.length := List.length_map ..
      have hS : g.setE x = if x.qty < (g.was x).held then 28 else if ((!(g.quant? x.key).isSome && decide (0 < x.qty)) && decide (256 ≤ g.quants.xs.length)) = true then 16 else 0 := rfl
      unfold quantOut at hq
      rw [← hwas] at hq
      have hsq := refSetQuant79 g (g.now x) (by have := hfew.quants; omega)
      have hft := refFindTotal (g.setQuant (g.now x)) x.item x.lot
      have htq : (g.setQuant (g.now x)).total? x.item x.lot = g.total? x.item x.lot := by unfold House.total?; rw [(setQuant_same g (g.now x)).1]
      rw [htq] at hft
      have hlt2 : (g.setQuant (g.now x)).totals.xs.length ≤ 1000 := by rw [(setQuant_same g (g.now x)).1]; have := hfew.totals; omega
      have hwt := refwithTotal (g.setQuant (g.now x)) (g.toTotal x) (big64 hlt2)
      cases k1 : decide (x.qty < (g.was x).held) with
      | true =>
        have hE : g.setE x = 28 := by rw [hS, if_pos (of_decide_eq_true k1)]
        rw [hall, setAll_no hE (by decide), if_pos (show ((House.zero, (28 : Int)) : House × Int).2 ≠ 0 by decide)]
        repeat (first
          | refine r_call rfl (hq) ?_ | refine r_mv_p rfl ?_ | refine r_fad rfl rfl ?_ | refine r_loadA rfl ?_ | refine r_loadB rfl rfl ?_ | refine r_sem rfl rfl rfl rfl ?_ | refine r_nil ?_
          | refine r_iadA rfl rfl ?_ | refine r_storeAll rfl rfl rfl rfl rfl rfl ?_ | refine r_alloc rfl ?_ | refine run_seq ?_ | refine run_reg ?_ | refine run_block ?_ | refine run_skip ?_
          | refine run_ret ?_ | refine fin_seq ?_ | refine fin_seq_r ?_ | refine fin_blk_r ?_ | refine fin_loop_r ?_ | refine run_condT rfl ?_ | refine run_condF rfl ?_)
        exact fin_out rfl rfl
      | false =>
        rw [if_neg (of_decide_eq_false k1)] at hS
        by_cases hfull : ((!(g.quant? x.key).isSome && decide (0 < x.qty)) && decide (256 ≤ g.quants.xs.length)) = true
        · have hE : g.setE x = 16 := by rw [hS, if_pos hfull]
          rw [hall, setAll_no hE (by decide), if_pos (show ((House.zero, (16 : Int)) : House × Int).2 ≠ 0 by decide)]
          simp only [Bool.and_eq_true] at hfull
          obtain ⟨⟨f1, f2⟩, f3⟩ := hfull
          have f4 : decide ((256 : Int) ≤ (((g.quants.xs.map Quant.enc).length : Nat) : Int)) = true := by rw [hql]; have := of_decide_eq_true f3; simp; omega
          repeat (first
            | refine r_call rfl (hq) ?_ | refine r_mv_p rfl ?_ | refine r_doA rfl ?_ | refine r_fad rfl rfl ?_ | refine r_loadA rfl ?_ | refine r_loadB rfl rfl ?_ | refine r_pickT rfl rfl rfl ?_
            | refine r_sem rfl rfl rfl rfl ?_ | refine r_nil ?_ | refine r_iadA rfl rfl ?_ | refine r_storeAll rfl rfl rfl rfl rfl rfl ?_ | refine r_alloc rfl ?_ | refine run_seq ?_
            | refine run_reg ?_ | refine run_block ?_ | refine run_skip ?_ | refine run_ret ?_ | refine fin_seq ?_ | refine fin_seq_r ?_ | refine fin_blk_r ?_ | refine fin_loop_r ?_
            | refine run_condT rfl ?_ | refine run_condF rfl ?_)
          exact fin_out rfl rfl
        · have hE : g.setE x = 0 := by rw [hS, if_neg hfull]
          rw [setAll_yes hE] at hall
          have hnext := ih (k + 1, g.counts x) ⟨hlt, hall, by rw [counts_bins]; exact hbins, counts_few hfew x⟩ (by simp only; omega)
          clear ih hS
          repeat (first
            | refine r_call rfl (hq) ?_ | refine r_mv_p rfl ?_ | refine r_fad rfl rfl ?_ | refine r_loadA rfl ?_ | refine r_loadB rfl rfl ?_ | refine r_sem rfl rfl rfl rfl ?_ | refine r_nil ?_
            | refine r_iadA rfl rfl ?_ | refine r_storeAll rfl rfl rfl rfl rfl rfl ?_ | refine r_alloc rfl ?_ | refine run_seq ?_ | refine run_reg ?_ | refine run_block ?_ | refine run_skip ?_
            | refine fin_seq ?_ | refine run_condF rfl ?_)
          refine run_reg_join (S [(1, .p (.v (.string c))), (3, .own 3 0), (6, .own 6 0), (9, .own 9 0), (11, .p (.sl (h.counted.xs.map Counted.enc) h.counted.sp)), (12, .p (.v (.int .i64 (k : Nat)))), (13, .own 13 0), (14, .own 14 0), (84, .p (.v (.bool false)))] [(3, some (.box g.enc false)), (6, some (.box House.zero.enc false)), (9, some (.box b.enc false)), (13, some (.box x.enc false)), (14, some (.box (g.was x).enc false))]) ?_ ?_
          · clear hnext
            cases f1 : (!(g.quant? x.key).isSome) with
            | false =>
              repeat (first
                | refine r_mv_p rfl ?_ | refine r_skipA rfl ?_ | refine r_pickF rfl rfl rfl ?_ | refine r_nil ?_)
              exact ⟨weak_S ⟨rfl, rfl, rfl, rfl, rfl, rfl, rfl, rfl, rfl, trivial⟩ ⟨rfl, rfl, rfl, rfl, rfl, trivial⟩⟩
            | true =>
              cases f2 : decide (0 < x.qty) with
              | false =>
                repeat (first
                  | refine r_mv_p rfl ?_ | refine r_doA rfl ?_ | refine r_skipA rfl ?_ | refine r_fad rfl rfl ?_ | refine r_pickT rfl rfl rfl ?_ | refine r_pickF rfl rfl rfl ?_
                  | refine r_sem rfl rfl rfl rfl ?_ | refine r_nil ?_)
                exact ⟨weak_S ⟨rfl, rfl, rfl, rfl, rfl, rfl, rfl, rfl, tb rfl rfl, trivial⟩ ⟨rfl, rfl, rfl, rfl, rfl, trivial⟩⟩
              | true =>
                have f4 : decide ((256 : Int) ≤ (((g.quants.xs.map Quant.enc).length : Nat) : Int)) = false := by
                  rw [hql]
                  have : ¬ 256 ≤ g.quants.xs.length := fun e => hfull (by rw [f1, f2, decide_eq_true e]; rfl)
                  simp; omega
                repeat (first
                  | refine r_mv_p rfl ?_ | refine r_doA rfl ?_ | refine r_fad rfl rfl ?_ | refine r_pickT rfl rfl rfl ?_ | refine r_sem rfl rfl rfl rfl ?_ | refine r_nil ?_)
                exact ⟨weak_S ⟨rfl, rfl, rfl, rfl, rfl, rfl, rfl, rfl, tb rfl f4, trivial⟩ ⟨rfl, rfl, rfl, rfl, rfl, trivial⟩⟩
          clear hfull hq
          have hC : g.counts x = if g.tells x = true then (g.setQuant (g.now x)).withTotal (g.toTotal x) else g.setQuant (g.now x) := rfl
          have hnow : g.now x = ⟨x.bin, x.item, x.lot, x.status, x.qty, (g.was x).held⟩ := rfl
          have hmm : ∀ t, g.tot x.item x.lot = t → g.toTotal x = { t with fixed := IntKind.i64.wrap (t.fixed + g.more x) } := fun t ht => by rw [← ht]; rfl
          have hmore : g.more x = IntKind.i64.wrap (x.qty - (g.was x).qty) := rfl
          obtain ⟨g1, hg1⟩ : ∃ g1, g1 = g.setQuant (g.now x) := ⟨_, rfl⟩
          rw [← hg1] at hsq hft hwt hC
          rw [hnow] at hsq
          obtain ⟨mo, hmo⟩ : ∃ mo, mo = g.more x := ⟨_, rfl⟩
          have hmo2 : IntKind.i64.wrap (x.qty - (g.was x).qty) = mo := by rw [hmo, hmore]
          cases ht : g.total? x.item x.lot with
          | some t =>
            have htl : g.tells x = true := by unfold House.tells; rw [ht]; rfl
            rw [if_pos htl] at hC
            have htot : g.tot x.item x.lot = t := by unfold House.tot; rw [ht]; rfl
            have hT := hmm t htot
            rw [hT] at hwt hC
            rw [hC] at hnext
            unfold totalOut at hft
            rw [ht] at hft
            simp only [Option.getD_some, Option.isSome_some] at hft
            rw [hmore] at hwt hnext
            repeat (first
              | refine r_call rfl (hsq) ?_ | refine r_call rfl (hft) ?_ | refine r_call rfl (hwt) ?_ | refine r_mv_p rfl ?_ | refine r_skipA rfl ?_ | refine r_fad rfl rfl ?_
              | refine r_addA rfl rfl ?_ | refine r_loadB rfl rfl ?_ | refine r_pickT rfl rfl rfl ?_ | refine r_sem rfl rfl rfl rfl ?_ | refine r_nil ?_
              | refine r_storeAll rfl rfl rfl rfl rfl rfl ?_ | refine r_store rfl rfl rfl rfl (And.intro rfl (Nat.le_of_ble_eq_true rfl)) ?_ | refine r_alloc rfl ?_ | refine run_seq ?_
              | refine run_reg ?_ | refine run_skip ?_ | refine fin_seq ?_ | refine fin_blk ?_ | refine run_condT rfl ?_ | refine run_condF rfl ?_)
            refine fin_loop (run_weak (weak_S ?_ ?_) hnext)
            · exact ⟨rfl, rfl, rfl, rfl, rfl, rfl, trivial⟩
            · exact ⟨rfl, rfl, rfl, trivial⟩
          | none =>
            have htot : g.tot x.item x.lot = ⟨x.item, x.lot, 0, 0, 0, 0⟩ := by unfold House.tot; rw [ht]; rfl
            have hT := hmm _ htot
            have htl : g.tells x = !decide (g.more x = 0) := by unfold House.tells; rw [ht]; rfl
            rw [htl] at hC
            rw [hT] at hwt hC
            rw [hC] at hnext
            unfold totalOut at hft
            rw [ht] at hft
            simp only [Option.getD_none, Option.isSome_none] at hft
            rw [hmore] at hwt hnext
            cases hm : (!decide (IntKind.i64.wrap (x.qty - (g.was x).qty) = 0)) with
            | true =>
              rw [if_pos hm] at hnext
              repeat (first
                | refine r_call rfl (hsq) ?_ | refine r_call rfl (hft) ?_ | refine r_call rfl (hwt) ?_ | refine r_mv_p rfl ?_ | refine r_doA rfl ?_ | refine r_fad rfl rfl ?_
                | refine r_addA rfl rfl ?_ | refine r_loadB rfl rfl ?_ | refine r_pickF rfl rfl rfl ?_ | refine r_sem rfl rfl rfl rfl ?_ | refine r_nil ?_
                | refine r_storeAll rfl rfl rfl rfl rfl rfl ?_ | refine r_store rfl rfl rfl rfl (And.intro rfl (Nat.le_of_ble_eq_true rfl)) ?_ | refine r_alloc rfl ?_ | refine run_seq ?_
                | refine run_reg ?_ | refine run_skip ?_ | refine fin_seq ?_ | refine fin_blk ?_ | refine run_condT rfl ?_ | refine run_condF rfl ?_)
              refine fin_loop (run_weak (weak_S ?_ ?_) hnext)
              · exact ⟨rfl, rfl, rfl, rfl, rfl, rfl, trivial⟩
              · exact ⟨rfl, rfl, rfl, trivial⟩
            | false =>
              rw [if_neg (show ¬ (!decide (IntKind.i64.wrap (x.qty - (g.was x).qty) = 0)) = true by rw [hm]; decide)] at hnext
              repeat (first
                | refine r_call rfl (hsq) ?_ | refine r_call rfl (hft) ?_ | refine r_mv_p rfl ?_ | refine r_doA rfl ?_ | refine r_fad rfl rfl ?_ | refine r_addA rfl rfl ?_ | refine r_loadB rfl rfl ?_
                | refine r_pickF rfl rfl rfl ?_ | refine r_sem rfl rfl rfl rfl ?_ | refine r_nil ?_ | refine r_storeAll rfl rfl rfl rfl rfl rfl ?_
                | refine r_store rfl rfl rfl rfl (And.intro rfl (Nat.le_of_ble_eq_true rfl)) ?_ | refine r_alloc rfl ?_ | refine run_seq ?_ | refine run_reg ?_ | refine run_skip ?_
                | refine fin_seq ?_ | refine fin_blk ?_ | refine run_condF rfl ?_)
              refine fin_loop (run_weak (weak_S ?_ ?_) hnext)
              · exact ⟨rfl, rfl, rfl, rfl, rfl, rfl, trivial⟩
              · exact ⟨rfl, rfl, rfl, trivial⟩
  · have hlt : k = h.counted.xs.length := by simp at h1; omega
    clear ih
    have hS : h.setAll cs = (g, 0) := by rw [hall, hlt, List.drop_length]; rfl
    rw [hS, if_neg (by simp)]
    have hfl := full118 g b
    have hfull : g.full b = beyond (g.load c) b := by unfold House.full; rw [hbc]
    have hcn := refCount20 g c (big80 (by have := hfew.bins; omega)) (big64 (by have := hfew.counted; omega))
    have hD : g.closed c b cs = if cs.any g.twice = true then (House.zero, 22) else if beyond (g.load c) b = true then (House.zero, 26) else g.count c false := rfl
    rw [show ((g, (0 : Int)) : House × Int).1 = g from rfl, hD]
    rw [hcs, any_filter', ← hfull]
    have hgl : h.counted.xs.length ≤ 9223372036854775806 := by omega
    clear hall hfew hS hD hfull hbn hlt hk
    repeat (first
      | refine r_mv_p rfl ?_ | refine r_nil ?_ | refine run_seq ?_ | refine run_reg ?_ | refine run_block ?_ | refine run_exit ?_ | refine fin_seq ?_ | refine fin_seq_e ?_
      | refine fin_blk_e ?_ | refine fin_loop_e ?_)
    refine run_weak (weak_S ?_ ?_) (run_inv (fun i : Nat => S [(1, .p (.v (.string c))), (3, .own 3 0), (6, .own 6 0), (9, .own 9 0), (11, .p (.sl (h.counted.xs.map Counted.enc) h.counted.sp)), (19, .p (.v (.int .i64 (i : Nat))))] [(3, some (.box g.enc false)), (6, some (.box House.zero.enc false)), (9, some (.box b.enc false))])
      (fun i => i ≤ h.counted.xs.length ∧ ((h.counted.xs.take i).any fun x => inBin c x && g.twice x) = false) (fun i => h.counted.xs.length - i) ?_ 0 ⟨Nat.zero_le _, rfl⟩)
    · exact ⟨rfl, rfl, rfl, rfl, rfl, rfl, trivial⟩
    · exact ⟨rfl, rfl, rfl, trivial⟩
    rintro i ⟨hi, hno⟩ ih
    repeat (first
      | refine r_mv_p rfl ?_ | refine r_sem rfl rfl rfl rfl ?_ | refine r_nil ?_ | refine run_seq ?_ | refine run_reg ?_ | refine fin_seq ?_)
    refine run_cond rfl (fun h2 => ?_) (fun h2 => ?_)
    · have hlt : i < h.counted.xs.length := by simpa using h2
      have hx : (h.counted.xs.map Counted.enc)[i]? = some h.counted.xs[i].enc := by simp [hlt]
      have hs : ((h.counted.xs.take (i + 1)).any fun x => inBin c x && g.twice x) = (((h.counted.xs.take i).any fun x => inBin c x && g.twice x) || (inBin c h.counted.xs[i] && g.twice h.counted.xs[i])) := by
        rw [← List.take_append_getElem hlt, List.any_append]; simp
      have hany : (inBin c h.counted.xs[i] && g.twice h.counted.xs[i]) = true → (h.counted.xs.any fun x => inBin c x && g.twice x) = true := fun e => List.any_eq_true.2 ⟨h.counted.xs[i], List.getElem_mem hlt, e⟩
      obtain ⟨x, hxe⟩ : ∃ x, x = h.counted.xs[i] := ⟨_, rfl⟩
      rw [← hxe] at hx hs hany
      rw [hno, Bool.false_or] at hs
      have hit := refFindItem g x.item
      have hsu := refTotal82 g x.item x.lot
      have hnext := ih (i + 1)
      clear ih
      unfold itemOut at hit
      have htw : g.twice x = (((g.item? x.item).getD Item.zero).serial && decide (1 < g.sum x.item x.lot)) := rfl
      rw [htw] at hs hany
      generalize (g.item? x.item).isSome = is at *
      generalize (g.item? x.item).getD Item.zero = it at *
      generalize g.sum x.item x.lot = n at *
      cases b1 : decide (x.bin = c) with
      | false =>
        repeat (first
          | refine r_call rfl (hit) ?_ | refine r_mv_p rfl ?_ | refine r_skipA rfl ?_ | refine r_fad rfl rfl ?_ | refine r_addA rfl rfl ?_ | refine r_loadA rfl ?_ | refine r_loadB rfl rfl ?_
          | refine r_pickF rfl rfl rfl ?_ | refine r_sem rfl rfl rfl rfl ?_ | refine r_nil ?_ | refine r_iadA rfl rfl ?_ | refine r_storeAll rfl rfl rfl rfl rfl rfl ?_ | refine r_alloc rfl ?_
          | refine run_seq ?_ | refine run_reg ?_ | refine run_block ?_ | refine run_skip ?_ | refine fin_seq ?_ | refine fin_blk ?_ | refine run_condF rfl ?_)
        refine fin_loop (run_weak (weak_S ?_ ?_) (hnext ⟨hlt, by rw [hs, inBin, b1]; rfl⟩ (by omega)))
        · exact ⟨rfl, rfl, rfl, rfl, rfl, rfl, trivial⟩
        · exact ⟨rfl, rfl, rfl, trivial⟩
      | true =>
        cases b2 : it.serial with
        | false =>
          repeat (first
            | refine r_call rfl (hit) ?_ | refine r_mv_p rfl ?_ | refine r_doA rfl ?_ | refine r_skipA rfl ?_ | refine r_fad rfl rfl ?_ | refine r_addA rfl rfl ?_ | refine r_loadA rfl ?_
            | refine r_loadB rfl rfl ?_ | refine r_pickT rfl rfl rfl ?_ | refine r_pickF rfl rfl rfl ?_ | refine r_sem rfl rfl rfl rfl ?_ | refine r_nil ?_ | refine r_iadA rfl rfl ?_
            | refine r_storeAll rfl rfl rfl rfl rfl rfl ?_ | refine r_alloc rfl ?_ | refine run_seq ?_ | refine run_reg ?_ | refine run_block ?_ | refine run_skip ?_ | refine fin_seq ?_
            | refine fin_blk ?_ | refine run_condF rfl ?_)
          refine fin_loop (run_weak (weak_S ?_ ?_) (hnext ⟨hlt, by rw [hs, b2, Bool.false_and, Bool.and_false]⟩ (by omega)))
          · exact ⟨rfl, rfl, rfl, rfl, rfl, rfl, trivial⟩
          · exact ⟨rfl, rfl, rfl, trivial⟩
        | true =>
          cases b3 : decide (1 < n) with
          | false =>
            repeat (first
              | refine r_call rfl (hit) ?_ | refine r_call rfl (hsu) ?_ | refine r_mv_p rfl ?_ | refine r_doA rfl ?_ | refine r_fad rfl rfl ?_ | refine r_addA rfl rfl ?_ | refine r_loadA rfl ?_
              | refine r_loadB rfl rfl ?_ | refine r_pickT rfl rfl rfl ?_ | refine r_sem rfl rfl rfl rfl ?_ | refine r_nil ?_ | refine r_iadA rfl rfl ?_
              | refine r_storeAll rfl rfl rfl rfl rfl rfl ?_ | refine r_alloc rfl ?_ | refine run_seq ?_ | refine run_reg ?_ | refine run_block ?_ | refine run_skip ?_ | refine fin_seq ?_
              | refine fin_blk ?_ | refine run_condF rfl ?_)
            refine fin_loop (run_weak (weak_S ?_ ?_) (hnext ⟨hlt, by rw [hs, b3, Bool.and_false, Bool.and_false]⟩ (by omega)))
            · exact ⟨rfl, rfl, rfl, rfl, rfl, rfl, trivial⟩
            · exact ⟨rfl, rfl, rfl, trivial⟩
          | true =>
            rw [if_pos (hany (by rw [inBin, b1, b2, b3]; rfl))]
            repeat (first
              | refine r_call rfl (hit) ?_ | refine r_call rfl (hsu) ?_ | refine r_mv_p rfl ?_ | refine r_doA rfl ?_ | refine r_fad rfl rfl ?_ | refine r_loadA rfl ?_ | refine r_loadB rfl rfl ?_
              | refine r_pickT rfl rfl rfl ?_ | refine r_sem rfl rfl rfl rfl ?_ | refine r_nil ?_ | refine r_iadA rfl rfl ?_ | refine r_storeAll rfl rfl rfl rfl rfl rfl ?_ | refine r_alloc rfl ?_
              | refine run_seq ?_ | refine run_reg ?_ | refine run_block ?_ | refine run_skip ?_ | refine run_ret ?_ | refine fin_seq ?_ | refine fin_seq_r ?_ | refine fin_blk_r ?_
              | refine fin_loop_r ?_ | refine run_condT rfl ?_)
            exact fin_out rfl rfl
    · have hlt : i = h.counted.xs.length := by simp at h2; omega
      clear ih
      rw [if_neg (show ¬ (h.counted.xs.any fun x => inBin c x && g.twice x) = true by rw [← List.take_length (l := h.counted.xs), ← hlt, hno]; simp)]
      cases hfu : g.full b with
      | true =>
        rw [hfu] at hfl
        rw [if_pos rfl]
        repeat (first
          | refine r_call rfl (hfl) ?_ | refine r_mv_p rfl ?_ | refine r_loadB rfl rfl ?_ | refine r_sem rfl rfl rfl rfl ?_ | refine r_nil ?_ | refine r_storeAll rfl rfl rfl rfl rfl rfl ?_
          | refine run_seq ?_ | refine run_reg ?_ | refine run_exit ?_ | refine run_ret ?_ | refine fin_seq ?_ | refine fin_seq_e ?_ | refine fin_seq_r ?_ | refine fin_blk_e ?_
          | refine fin_loop_e ?_ | refine run_condT rfl ?_)
        exact fin_out rfl rfl
      | false =>
        rw [hfu] at hfl
        rw [if_neg (by decide)]
        obtain ⟨⟨g2, e2⟩, hg2⟩ : ∃ p, p = g.count c false := ⟨_, rfl⟩
        rw [← hg2] at hcn ⊢
        replace hcn : Ret Tryz.prog 20 _ (.tup [.agg g2.enc, .v (.int .i64 e2)]) := hcn
        repeat (first
          | refine r_call rfl (hfl) ?_ | refine r_call rfl (hcn) ?_ | refine r_mv_p rfl ?_ | refine r_loadB rfl rfl ?_ | refine r_sem rfl rfl rfl rfl ?_ | refine r_nil ?_
          | refine r_storeAll rfl rfl rfl rfl rfl rfl ?_ | refine run_seq ?_ | refine run_reg ?_ | refine run_skip ?_ | refine run_exit ?_ | refine run_ret ?_ | refine fin_seq ?_
          | refine fin_seq_e ?_ | refine fin_blk_e ?_ | refine fin_loop_e ?_ | refine run_condF rfl ?_)
        exact fin_out rfl rfl
end Go.Fw
