/-
  Counts: a count that is begun, noted and stopped.
-/
import Derived.Test.YtghhmkogooancaaGreatHCua
import Derived.Test.YtghhmkogooancaaGreatHCub
import Derived.Test.YtghhmkogooancaaGreatIrK
set_option linter.unusedVariables false
set_option linter.unusedSimpArgs false
set_option maxRecDepth 10000
namespace Go.Fw
open Go.Proofs

theorem filter_put_none {c : Str} {x : Counted} {xs : List Counted} (hx : x.bin = c) (hall : ∀ y ∈ xs, notIn c y = true) : (putL countedCmp x xs).filter (notIn c) = xs := by
  have hxn : notIn c x = false := by simp [notIn, hx]
  unfold putL
  split
  · rename_i hf
    obtain ⟨k, z, hk, hz, hq, _⟩ := findB_first hf
    have hzk : z.key = x.key := (counted0 z x).1 (of_decide_eq_true hq)
    have hzb : z.bin = c := by
      have := congrArg Key.bin hzk
      exact this.trans hx
    have := hall z (List.mem_of_getElem? hz)
    simp [notIn, hzb] at this
  · rw [List.filter_append, List.filter_cons, if_neg (by rw [hxn]; exact Bool.false_ne_true), ← List.filter_append, List.take_append_drop, List.filter_eq_self.2 hall]
theorem filter_filter_notIn (c : Str) (xs : List Counted) : (xs.filter (notIn c)).filter (notIn c) = xs.filter (notIn c) := by
  apply List.filter_eq_self.2
  intro y hy
  exact (List.mem_filter.1 hy).2
theorem start_no {h : House} {c : Str} {g : House} {e : Int} (hr : h.count c true = (g, e)) (he : e ≠ 0) : e = 12 ∨ e = 25 := by
  unfold House.count House.freeze at hr
  cases hb : h.bin? c with
  | none =>
    rw [hb] at hr
    simp at hr
    exact .inl hr.2.symm
  | some b =>
    rw [hb] at hr
    cases hf : b.frozen with
    | true =>
      simp [hf] at hr
      exact .inr hr.2.symm
    | false =>
      simp [hf] at hr
      exact absurd hr.2.symm he
theorem start_yes {h : House} {c : Str} {g : House} (hr : h.count c true = (g, 0)) : ∃ b, h.bin? c = some b ∧ b.frozen = false ∧ g = (h.withBin { b with frozen := true }).without c := by
  unfold House.count House.freeze at hr
  cases hb : h.bin? c with
  | none =>
    rw [hb] at hr
    simp at hr
  | some b =>
    rw [hb] at hr
    cases hf : b.frozen with
    | true =>
      simp [hf] at hr
    | false =>
      simp [hf] at hr
      exact ⟨b, rfl, hf, hr.symm⟩
theorem stop_yes {g : House} {h : House} {c : Str} {b : Bin} (hb : h.bin? c = some b) (hf : b.frozen = false) (hg : g.bins.xs = putL binCmp { b with frozen := true } h.bins.xs) : ∃ k, g.count c false = (k, 0) ∧ k.bins.xs = h.bins.xs ∧ k.counted.xs = g.counted.xs.filter (notIn c) ∧ k.items = g.items ∧ k.lots = g.lots ∧ k.zones = g.zones ∧ k.quants = g.quants ∧ k.rules = g.rules ∧ k.notices = g.notices ∧ k.orders = g.orders ∧ k.claims = g.claims ∧ k.tasks = g.tasks ∧ k.parcels = g.parcels ∧ k.sent = g.sent ∧ k.totals = g.totals ∧ k.last = g.last := by
  have hbc : b.code = c := bin_code hb
  have hgb : g.bin? c = some { b with frozen := true } := by
    have := bin_with h { b with frozen := true } c
    rw [if_pos (show ({ b with frozen := true } : Bin).code = c from hbc)] at this
    unfold House.bin? at this ⊢
    rw [hg]; exact this
  have hb2 : ({ ({ b with frozen := true } : Bin) with frozen := false } : Bin) = b := by cases b; simp at hf; simp [hf]
  have hback : putL binCmp b (putL binCmp { b with frozen := true } h.bins.xs) = h.bins.xs := put_back (b' := { b with frozen := true }) rfl (by
    have : h.bin? b.code = some b := by rw [hbc]; exact hb
    exact this)
  refine ⟨(g.withBin b).without c, ?_, ?_, rfl, rfl, rfl, rfl, rfl, rfl, rfl, rfl, rfl, rfl, rfl, rfl, rfl, rfl⟩
  · unfold House.count House.freeze
    rw [hgb]
    simp
    rw [show ({ code := b.code, zone := b.zone, kind := b.kind, aisle := b.aisle, place := b.place, volume := b.volume, weight := b.weight, frozen := false } : Bin) = b from hb2]
  · show putL binCmp b g.bins.xs = h.bins.xs
    rw [hg]; exact hback
theorem record_kept {g k : House} {x : Counted} {n e : Int} (hr : g.record x.key n = (k, 0)) : k = g.withCounted (Counted.of x.key n) := by
  unfold House.record at hr
  split at hr
  · simp at hr; exact hr.symm
  · rename_i h0; simp at hr; exact absurd hr.2 h0
set_option maxHeartbeats 32000000 in
theorem law_CountsStop (h : House) (hx : h.Ok) (x : Counted) : Ret Tryz.prog 5 [.agg h.enc, .agg x.enc] (.v (.bool true)) := by
  refine ret5 rfl fun hbd => ?_
  unfold c5
  repeat (first
    | refine r_call rfl (small_ok h) ?_ | refine r_mv_p rfl ?_ | refine r_loadB rfl rfl ?_ | refine r_sem rfl rfl rfl rfl ?_ | refine r_nil ?_ | refine r_box rfl rfl rfl ?_
    | refine run_seq ?_ | refine run_reg ?_ | refine fin_seq ?_)
  refine run_cond rfl (fun h1 => ?_) (fun h1 => ?_)
  · repeat (first
      | refine r_call rfl (awake10) ?_ | refine r_mv_p rfl ?_ | refine r_nil ?_ | refine run_seq ?_ | refine run_reg ?_ | refine run_ret ?_ | refine fin_seq ?_ | refine fin_seq_r ?_)
    exact fin_out rfl rfl
  have hs : h.small = true := by simpa using h1
  have hf := few_small hs
  obtain ⟨⟨g, e⟩, hr⟩ : ∃ p, p = h.count x.bin true := ⟨_, rfl⟩
  have ca := count12 h x.bin (big80 (Nat.le_trans hf.bins (by decide))) (big64 (Nat.le_trans hf.counted (by decide)))
  rw [← hr] at ca
  replace ca : Ret Tryz.prog 12 _ (.tup [.agg g.enc, .v (.int .i64 e)]) := ca
  by_cases h0 : e = 0
  rotate_left
  · have hd : (!decide (e = 0)) = true := by simp [h0]
    rcases start_no hr.symm h0 with rfl | rfl
    · repeat (first
        | refine r_call rfl (ca) ?_ | refine r_call rfl (awake10) ?_ | refine r_mv_p rfl ?_ | refine r_doA rfl ?_ | refine r_skipA rfl ?_ | refine r_fad rfl rfl ?_ | refine r_loadB rfl rfl ?_
        | refine r_pickT rfl rfl rfl ?_ | refine r_sem rfl rfl rfl rfl ?_ | refine r_nil ?_ | refine r_storeAll rfl rfl rfl rfl rfl rfl ?_ | refine r_alloc rfl ?_ | refine run_seq ?_
        | refine run_reg ?_ | refine run_skip ?_ | refine run_ret ?_ | refine fin_seq ?_ | refine fin_seq_r ?_ | refine run_condT rfl ?_)
      exact fin_out rfl rfl
    · repeat (first
        | refine r_call rfl (ca) ?_ | refine r_call rfl (awake10) ?_ | refine r_mv_p rfl ?_ | refine r_doA rfl ?_ | refine r_fad rfl rfl ?_ | refine r_loadB rfl rfl ?_
        | refine r_pickT rfl rfl rfl ?_ | refine r_pickF rfl rfl rfl ?_ | refine r_sem rfl rfl rfl rfl ?_ | refine r_nil ?_ | refine r_storeAll rfl rfl rfl rfl rfl rfl ?_
        | refine r_alloc rfl ?_ | refine run_seq ?_ | refine run_reg ?_ | refine run_skip ?_ | refine run_ret ?_ | refine fin_seq ?_ | refine fin_seq_r ?_ | refine run_condT rfl ?_)
      exact fin_out rfl rfl
  subst h0
  obtain ⟨b, hb, hfr, hg⟩ := start_yes hr.symm
  have hgb : g.bins.xs = putL binCmp { b with frozen := true } h.bins.xs := by rw [hg]; rfl
  have hgc : g.counted.xs = h.counted.xs.filter (notIn x.bin) := by rw [hg]; rfl
  have hgl : g.counted.xs.length ≤ 400 := by rw [hgc]; exact Nat.le_trans (List.length_filter_le _ _) hf.counted
  have hgbl : g.bins.xs.length ≤ 401 := by rw [hgb]; have := (put_length binCmp { b with frozen := true } h.bins.xs).2; have := hf.bins; omega
  obtain ⟨⟨k, f⟩, hr2⟩ : ∃ p, p = g.record x.key x.qty := ⟨_, rfl⟩
  have cb := record15 g x.key x.qty (big64 (Nat.le_trans hgl (by decide)))
  rw [← hr2] at cb
  replace cb : Ret Tryz.prog 15 _ (.tup [.agg k.enc, .v (.int .i64 f)]) := cb
  obtain ⟨n1, hn1, hn1c, hn1l, hcase⟩ : ∃ n1 : House, (n1.bins = g.bins ∧ n1.items = g.items ∧ n1.lots = g.lots ∧ n1.zones = g.zones ∧ n1.quants = g.quants ∧ n1.rules = g.rules ∧ n1.notices = g.notices ∧ n1.orders = g.orders ∧ n1.claims = g.claims ∧ n1.tasks = g.tasks ∧ n1.parcels = g.parcels ∧ n1.sent = g.sent ∧ n1.totals = g.totals ∧ n1.last = g.last) ∧ n1.counted.xs.filter (notIn x.bin) = h.counted.xs.filter (notIn x.bin) ∧ n1.counted.xs.length ≤ 401 ∧ ((f = 0 ∧ n1 = k) ∨ (f ≠ 0 ∧ n1 = g)) := by
    by_cases h2 : f = 0
    · subst h2
      have hk := record_kept (e := 0) hr2.symm
      refine ⟨k, by rw [hk]; exact ⟨rfl, rfl, rfl, rfl, rfl, rfl, rfl, rfl, rfl, rfl, rfl, rfl, rfl, rfl⟩, ?_, ?_, .inl ⟨rfl, rfl⟩⟩
      · rw [hk]
        show (putL countedCmp (Counted.of x.key x.qty) g.counted.xs).filter (notIn x.bin) = _
        rw [hgc, filter_put_none (c := x.bin) (x := Counted.of x.key x.qty) rfl (fun y hy => (List.mem_filter.1 hy).2)]
      · rw [hk]
        have := (put_length countedCmp (Counted.of x.key x.qty) g.counted.xs).2
        show (putL countedCmp (Counted.of x.key x.qty) g.counted.xs).length ≤ 401
        omega
    · exact ⟨g, ⟨rfl, rfl, rfl, rfl, rfl, rfl, rfl, rfl, rfl, rfl, rfl, rfl, rfl, rfl⟩, by rw [hgc, filter_filter_notIn], by omega, .inr ⟨h2, rfl⟩⟩
  obtain ⟨w, hw, w1, w2, w3, w4, w5, w6, w7, w8, w9, w10, w11, w12, w13, w14, w15⟩ := stop_yes (g := n1) hb hfr (by rw [hn1.1]; exact hgb)
  have cc := count19 n1 x.bin (big80 (by rw [hn1.1]; omega)) (big64 (by omega))
  rw [hw] at cc
  replace cc : Ret Tryz.prog 19 _ (.tup [.agg w.enc, .v (.int .i64 0)]) := cc
  have hwok : w.Ok := by
    have := count_ok (h := n1) (by
      have hgo : g.Ok := by rw [hg]; exact (hx.withBin _).without _
      rcases hcase with ⟨hc, rfl⟩ | ⟨-, rfl⟩
      · have := record_ok hgo x.key x.qty
        rw [← hr2] at this; exact this
      · exact hgo) x.bin false
    rw [hw] at this; exact this
  have hsame : SameH w ({ h with counted := ⟨h.counted.xs.filter (notIn x.bin), []⟩ } : House) := by
    obtain ⟨m1, m2, m3, m4, m5, m6, m7, m8, m9, m10, m11, m12, m13, m14⟩ := hn1
    refine ⟨?_, ?_, ?_, w1, ?_, ?_, ?_, ?_, ?_, ?_, ?_, ?_, ?_, ?_, ?_⟩
    · rw [w3, m2, hg]; rfl
    · rw [w4, m3, hg]; rfl
    · rw [w5, m4, hg]; rfl
    · rw [w6, m5, hg]; rfl
    · rw [w7, m6, hg]; rfl
    · rw [w8, m7, hg]; rfl
    · rw [w9, m8, hg]; rfl
    · rw [w10, m9, hg]; rfl
    · rw [w11, m10, hg]; rfl
    · rw [w12, m11, hg]; rfl
    · rw [w13, m12, hg]; rfl
    · rw [w2, hn1c]
    · rw [w14, m13, hg]; rfl
    · rw [w15, m14, hg]; rfl
  have hfin := same_ok w _ hwok hsame
  clear hsame hwok w1 w2 w3 w4 w5 w6 w7 w8 w9 w10 w11 w12 w13 w14 w15 hw hn1 hn1c hn1l hgb hgc hgbl hgl hr hr2 hb hfr hg
  repeat (first
    | refine r_call rfl (ca) ?_ | refine r_call rfl (cb) ?_ | refine r_mv_p rfl ?_ | refine r_fad rfl rfl ?_ | refine r_loadB rfl rfl ?_ | refine r_sem rfl rfl rfl rfl ?_
    | refine r_nil ?_ | refine r_storeAll rfl rfl rfl rfl rfl rfl ?_ | refine r_alloc rfl ?_ | refine run_seq ?_ | refine run_reg ?_ | refine run_skip ?_ | refine fin_seq ?_
    | refine run_condF rfl ?_)
  refine run_join (S [(2, .own 2 0), (3, .own 3 0), (5, .own 5 0)] [(2, some (.box h.enc false)), (3, some (.box x.enc false)), (5, some (.box n1.enc false))]) ?_ ?_
  · refine run_cond rfl (fun he => ?_) (fun he => ?_)
    · rcases hcase with ⟨-, rfl⟩ | ⟨hc, -⟩
      · repeat (first
          | refine r_loadB rfl rfl ?_ | refine r_nil ?_ | refine r_storeAll rfl rfl rfl rfl rfl rfl ?_ | refine run_reg ?_)
        refine ⟨.inl ⟨rfl, weak_S ?_ ?_⟩⟩
        · exact ⟨rfl, rfl, rfl, trivial⟩
        · exact ⟨rfl, rfl, rfl, trivial⟩
      · exact absurd (of_decide_eq_true he) hc
    · rcases hcase with ⟨hc, -⟩ | ⟨-, rfl⟩
      · exact absurd hc (of_decide_eq_false he)
      · repeat (first
          | refine run_skip ?_)
        refine ⟨.inl ⟨rfl, weak_S ?_ ?_⟩⟩
        · exact ⟨rfl, rfl, rfl, trivial⟩
        · exact ⟨rfl, rfl, rfl, trivial⟩
  clear ca cb hcase
  have hbc := hf.counted
  repeat (first
    | refine r_call rfl (cc) ?_ | refine r_mv_p rfl ?_ | refine r_fad rfl rfl ?_ | refine r_loadB rfl rfl ?_ | refine r_sem rfl rfl rfl rfl ?_ | refine r_nil ?_
    | refine r_storeAll rfl rfl rfl rfl rfl rfl ?_ | refine r_alloc rfl ?_ | refine r_mv_nil rfl ?_ | refine run_seq ?_ | refine run_reg ?_ | refine run_block ?_ | refine fin_seq ?_)
  refine run_weak (weak_nilRow 11 81 41 5 rfl rfl) (run_weak (weak_S ?_ ?_) (run_inv (fun i : Nat => S [(2, .own 2 0), (3, .own 3 0), (9, .own 9 0), (10, .p (.v (.int .i64 0))), (11, .row 81 (((h.counted.xs.take i).filter (notIn x.bin)).map Counted.enc).length), (12, .p (.v (.int .i64 (i : Nat))))] [(2, some (.box h.enc false)), (3, some (.box x.enc false)), (9, some (.box w.enc false)), (81, some (.row 41 5 (((h.counted.xs.take i).filter (notIn x.bin)).map Counted.enc) false))])
    (fun i => i ≤ h.counted.xs.length) (fun i => h.counted.xs.length - i) ?_ 0 (Nat.zero_le _)))
  · exact ⟨rfl, rfl, rfl, rfl, rfl, rfl, trivial⟩
  · exact ⟨rfl, rfl, rfl, rfl, trivial⟩
  intro i hi ih
  repeat (first
    | refine r_mv_p rfl ?_ | refine r_fad rfl rfl ?_ | refine r_sem rfl rfl rfl rfl ?_ | refine r_nil ?_ | refine run_seq ?_ | refine run_reg ?_ | refine fin_seq ?_)
  refine run_cond rfl (fun h1 => ?_) (fun h1 => ?_)
  · have hlt : i < h.counted.xs.length := by simpa using h1
    have hxi : (h.counted.xs.map Counted.enc)[i]? = some h.counted.xs[i].enc := by simp [hlt]
    have hs := filter_take_succ (notIn x.bin) h.counted.xs i hlt
    obtain ⟨y, hy⟩ : ∃ y, y = h.counted.xs[i] := ⟨_, rfl⟩
    rw [← hy] at hxi hs
    have hol := filter_take_len (notIn x.bin) h.counted.xs i
    obtain ⟨o, ho⟩ : ∃ o, o = (h.counted.xs.take i).filter (notIn x.bin) := ⟨_, rfl⟩
    rw [← ho] at hs hol ⊢
    cases hfy : (!decide (y.bin = x.bin)) with
    | true =>
      have hE : (h.counted.xs.take (i + 1)).filter (notIn x.bin) = o ++ [y] := by rw [hs, if_pos (show notIn x.bin y = true from hfy)]
      have he : ∀ z ∈ [y.enc], z.length = 5 := by intro z hz; simp at hz; subst hz; rfl
      have hl : ((o.map Counted.enc).length + [y.enc].length) * 64 ≤ 140737488355328 := by
        simp only [List.length_map, List.length_cons, List.length_nil]; omega
      repeat (first
        | refine r_appRow (fs := [80]) rfl rfl rfl rfl rfl rfl he hl (by decide) (Or.inl rfl) ?_ | refine r_mv_p rfl ?_ | refine r_fad rfl rfl ?_ | refine r_addA rfl rfl ?_
        | refine r_loadA rfl ?_ | refine r_sem rfl rfl rfl rfl ?_ | refine r_nil ?_ | refine r_iadA rfl rfl ?_ | refine r_bsl rfl rfl rfl rfl rfl rfl ?_ | refine r_mv_rowA rfl rfl ?_
        | refine run_seq ?_ | refine run_reg ?_ | refine run_regd rfl ?_ | refine run_block ?_ | refine run_skip ?_ | refine fin_seq ?_ | refine fin_blk ?_ | refine run_condT rfl ?_)
      refine fin_loop (run_weak (weak_S ?_ ?_) (ih (i + 1) hlt (by omega)))
      · exact ⟨rfl, rfl, rfl, rfl, by rw [hE, List.map_append, List.length_append]; rfl, rfl, trivial⟩
      · exact ⟨rfl, rfl, rfl, by rw [hE, List.map_append]; rfl, trivial⟩
    | false =>
      have hE : (h.counted.xs.take (i + 1)).filter (notIn x.bin) = o := by rw [hs, if_neg (by rw [notIn, hfy]; exact Bool.false_ne_true), List.append_nil]
      repeat (first
        | refine r_mv_p rfl ?_ | refine r_fad rfl rfl ?_ | refine r_addA rfl rfl ?_ | refine r_sem rfl rfl rfl rfl ?_ | refine r_nil ?_ | refine r_iadA rfl rfl ?_ | refine run_seq ?_
        | refine run_reg ?_ | refine run_regd rfl ?_ | refine run_block ?_ | refine run_skip ?_ | refine fin_seq ?_ | refine fin_blk ?_ | refine run_condF rfl ?_)
      refine fin_loop (run_weak (weak_S ?_ ?_) (ih (i + 1) hlt (by omega)))
      · exact ⟨rfl, rfl, rfl, rfl, by rw [hE]; rfl, rfl, trivial⟩
      · exact ⟨rfl, rfl, rfl, by rw [hE]; rfl, trivial⟩
  · have hlt : i = h.counted.xs.length := by simp at h1; omega
    have hE : (h.counted.xs.take i).filter (notIn x.bin) = h.counted.xs.filter (notIn x.bin) := by rw [hlt, List.take_length]
    rw [hE]
    have hpv : (RA.row 81 ((h.counted.xs.filter (notIn x.bin)).map Counted.enc).length 5 ((h.counted.xs.filter (notIn x.bin)).map Counted.enc)).pv = some (.sl ((h.counted.xs.filter (notIn x.bin)).map Counted.enc) []) := by
      simp only [RA.pv, List.take_length, List.drop_length]
    have hres : lookT (ol [(2, some (Own.box h.enc false)), (3, some (Own.box x.enc false)), (9, some (Own.box w.enc false)), (81, some (Own.row 41 5 ((h.counted.xs.filter (notIn x.bin)).map Counted.enc) false))]) (.row 81 ((h.counted.xs.filter (notIn x.bin)).map Counted.enc).length) = some (.row 81 ((h.counted.xs.filter (notIn x.bin)).map Counted.enc).length 5 ((h.counted.xs.filter (notIn x.bin)).map Counted.enc)) := by
      simp only [lookT, ol]
      simp
    clear ih
    repeat (first
      | refine r_call rfl (hfin) ?_ | refine r_call rfl (awake10) ?_ | refine r_storeF (fs := [81]) rfl rfl hres hpv rfl rfl (And.intro rfl (Nat.le_of_ble_eq_true rfl)) (by decide) ?_
      | refine r_mv_p rfl ?_ | refine r_doA rfl ?_ | refine r_fad rfl rfl ?_ | refine r_loadB rfl rfl ?_ | refine r_pickT rfl rfl rfl ?_ | refine r_sem rfl rfl rfl rfl ?_ | refine r_nil ?_
      | refine r_mv_rowA rfl rfl ?_ | refine run_seq ?_ | refine run_reg ?_ | refine run_exit ?_ | refine run_ret ?_ | refine fin_seq ?_ | refine fin_seq_e ?_ | refine fin_blk_e ?_
      | refine fin_loop_e ?_)
    exact fin_out rfl rfl
end Go.Fw
