/-
  Counts: the law CountsTrue.
-/
import Derived.Test.YtghhmkogooancaaGreatHCub
import Derived.Test.YtghhmkogooancaaGreatIrL
import Derived.Test.YtghhmkogooancaaGreatHCy
set_option linter.unusedVariables false
set_option linter.unusedSimpArgs false
set_option maxRecDepth 10000
namespace Go.Fw
open Go.Proofs

theorem r_eqsD {P : Program} {Q : Ex → St → Prop} {ks : List Kf} {rs : List RG} {l : List (Nat × T)} {m : List (Nat × Option Own)} {d : Nat} {cks : List Ck} {x y : Opd} {a b : List PV} (hx : (S l m).ev x = .p (.agg a)) (hy : (S l m).ev y = .p (.agg b)) (he : cellsEq cks a b = some true)
    (h : RunR P Q ks rs (S ((d, .p (.v (.bool false))) :: l) m)) : RunR P Q ks (⟨some d, .eqs true cks, [x, y], none⟩ :: rs) (S l m) :=
  r_sem («as» := [.p (.agg a), .p (.agg b)]) rfl (by simp only [St.resL, St.res, hx, hy, lookT]; rfl) (by simp only [sem, he, Option.map_some]; rfl) rfl h
theorem quant_self (x : Quant) : cellsEq [.s, .s, .s, .i .i64, .i .i64, .i .i64] x.enc x.enc = some true := by simp [cellsEq, Quant.enc]
theorem quant_here {h : House} (hp : h.Plain) {i : Nat} {x : Quant} (hx : h.quants.xs[i]? = some x) : h.quant? x.key = some x := by
  have hil : i < h.quants.xs.length := (List.getElem?_eq_some_iff.1 hx).1
  unfold House.quant?
  cases hf : h.quants.xs.find? fun y => decide (y.key = x.key) with
  | none =>
    have := List.find?_eq_none.1 hf x (List.mem_of_getElem? hx)
    simp at this
  | some z =>
    have hz : z.key = x.key := by simpa using List.find?_some hf
    obtain ⟨k, hk, hzk⟩ := List.mem_iff_getElem.1 (List.mem_of_find?_eq_some hf)
    have hk' : h.quants.xs[k]? = some z := by rw [List.getElem?_eq_getElem hk, hzk]
    rcases Nat.lt_trichotomy k i with h1 | h1 | h1
    · exact absurd hz (hp.onceQ i k x z hil hx h1 hk')
    · subst h1; rw [hx] at hk'; cases hk'; rfl
    · exact absurd hz.symm (hp.onceQ k i z x hk hk' h1 hx)
def hit (x : Quant) (c : Str) (y : Counted) : Bool := decide (y.key = x.key) && decide (x.bin = c)
theorem any_take_succ {α : Type} (q : α → Bool) (xs : List α) (k : Nat) (hk : k < xs.length) : (xs.take (k + 1)).any q = ((xs.take k).any q || q xs[k]) := by
  have : xs.take (k + 1) = xs.take k ++ [xs[k]] := by simp
  rw [this, List.any_append]
  simp
set_option maxHeartbeats 16000000 in
theorem law_CountsTrue (h : House) (c r : Str) : Ret Tryz.prog 4 [.agg h.enc, .v (.string c), .v (.string r)] (.v (.bool true)) := by
  refine ret4 rfl fun hbd => ?_
  have csm := small_ok h
  have bq := bd_quants (hbd _ (List.mem_cons_self))
  have bc := bd_counted (hbd _ (List.mem_cons_self))
  clear hbd
  unfold c4
  cases hs : h.small with
  | false =>
    rw [hs] at csm
    repeat (first
      | refine r_call rfl (csm) ?_ | refine r_call rfl (awake10) ?_ | refine r_mv_p rfl ?_ | refine r_skipA rfl ?_ | refine r_loadB rfl rfl ?_ | refine r_pickT rfl rfl rfl ?_
      | refine r_sem rfl rfl rfl rfl ?_ | refine r_nil ?_ | refine r_box rfl rfl rfl ?_ | refine run_seq ?_ | refine run_reg ?_ | refine run_ret ?_ | refine fin_seq ?_ | refine fin_seq_r ?_
      | refine run_condT rfl ?_)
    exact fin_out rfl rfl
  | true =>
  rw [hs] at csm
  have hf := few_small hs
  by_cases hp : h.Plain
  case neg =>
    have cp := plain22 h false ⟨fun e => (by cases e), fun e => absurd e hp⟩
    repeat (first
      | refine r_call rfl (csm) ?_ | refine r_call rfl (cp) ?_ | refine r_call rfl (awake10) ?_ | refine r_mv_p rfl ?_ | refine r_doA rfl ?_ | refine r_loadB rfl rfl ?_
      | refine r_pickF rfl rfl rfl ?_ | refine r_sem rfl rfl rfl rfl ?_ | refine r_nil ?_ | refine r_box rfl rfl rfl ?_ | refine run_seq ?_ | refine run_reg ?_ | refine run_ret ?_
      | refine fin_seq ?_ | refine fin_seq_r ?_ | refine run_condT rfl ?_)
    exact fin_out rfl rfl
  have cp := plain22 h true ⟨fun _ => hp, fun _ => rfl⟩
  have cc := close17 h c r hf
  obtain ⟨⟨g, e⟩, hg⟩ : ∃ p, p = h.close c r := ⟨_, rfl⟩
  rw [← hg] at cc
  replace cc : Ret Tryz.prog 17 _ (.tup [.agg g.enc, .v (.int .i64 e)]) := cc
  cases he : decide (e = 0) with
  | false =>
    have he' : (!decide (e = 0)) = true := by rw [he]; rfl
    have hgz := close_no hg.symm (of_decide_eq_false he)
    subst hgz
    repeat (first
      | refine r_call rfl (csm) ?_ | refine r_call rfl (cp) ?_ | refine r_call rfl (cc) ?_ | refine r_call rfl (awake10) ?_ | refine r_mv_p rfl ?_ | refine r_doA rfl ?_
      | refine r_fad rfl rfl ?_ | refine r_loadB rfl rfl ?_ | refine r_pickT rfl rfl rfl ?_ | refine r_pickF rfl rfl rfl ?_ | refine r_sem rfl rfl rfl rfl ?_ | refine r_nil ?_
      | refine r_storeAll rfl rfl rfl rfl rfl rfl ?_ | refine r_alloc rfl ?_ | refine r_box rfl rfl rfl ?_ | refine run_seq ?_ | refine run_reg ?_ | refine run_skip ?_ | refine run_ret ?_
      | refine fin_seq ?_ | refine fin_seq_r ?_ | refine run_condT rfl ?_ | refine run_condF rfl ?_)
    exact fin_out rfl rfl
  | true =>
  have he' : (!decide (e = 0)) = false := by rw [he]; rfl
  have he0 := of_decide_eq_true he
  have hc : Closed h g c := close_yes hp (by rw [← hg, he0])
  have cg := plain22 g true ⟨fun _ => hc.plain, fun _ => rfl⟩
  obtain ⟨b, hb, hbf, hbe⟩ := hc.bin
  have hbf' : (!b.frozen) = true := by rw [hbf]; rfl
  have cb := refFindBin g c
  rw [hb] at cb
  replace cb : Ret Tryz.prog 23 _ (.tup [.agg b.enc, .v (.bool true)]) := cb
  have cl := load47 g c
  obtain ⟨⟨v, w⟩, hvw⟩ : ∃ p, p = g.load c := ⟨_, rfl⟩
  rw [← hvw] at cl hbe
  replace cl : Ret Tryz.prog 24 _ (.tup [.v (.int .i64 v), .v (.int .i64 w)]) := cl
  simp only [beyond, Bool.or_eq_false_iff] at hbe
  obtain ⟨b1, b2⟩ := hbe
  repeat (first
    | refine r_call rfl (csm) ?_ | refine r_call rfl (cp) ?_ | refine r_call rfl (cc) ?_ | refine r_call rfl (cg) ?_ | refine r_call rfl (cb) ?_ | refine r_call rfl (cl) ?_
    | refine r_mv_p rfl ?_ | refine r_doA rfl ?_ | refine r_fad rfl rfl ?_ | refine r_loadB rfl rfl ?_ | refine r_pickF rfl rfl rfl ?_ | refine r_sem rfl rfl rfl rfl ?_ | refine r_nil ?_
    | refine r_storeAll rfl rfl rfl rfl rfl rfl ?_ | refine r_alloc rfl ?_ | refine r_box rfl rfl rfl ?_ | refine run_seq ?_ | refine run_reg ?_ | refine run_block ?_ | refine run_skip ?_
    | refine fin_seq ?_ | refine run_condF rfl ?_)
  clear csm cp cc cg cb cl b1 b2 he he' he0 hg hvw hb hf hs
  refine run_weak (weak_S ?_ ?_) (run_inv (fun i : Nat => S [(1, .p (.v (.string c))), (3, .own 3 0), (7, .own 7 0), (9, .own 9 0), (10, .p (.v (.bool true))), (13, .p (.v (.int .i64 (i : Nat))))] [(3, some (.box h.enc false)), (7, some (.box g.enc false)), (9, some (.box b.enc false))])
    (fun i => i ≤ h.counted.xs.length) (fun i => h.counted.xs.length - i) ?_ 0 (Nat.zero_le _))
  · exact ⟨rfl, rfl, rfl, rfl, rfl, rfl, trivial⟩
  · exact ⟨rfl, rfl, rfl, trivial⟩
  rintro i hi ih
  repeat (first
    | refine r_mv_p rfl ?_ | refine r_fad rfl rfl ?_ | refine r_sem rfl rfl rfl rfl ?_ | refine r_nil ?_ | refine run_seq ?_ | refine run_reg ?_ | refine fin_seq ?_)
  refine run_cond rfl (fun h1 => ?_) (fun h1 => ?_)
  · have hlt : i < h.counted.xs.length := by simpa using h1
    have hx : (h.counted.xs.map Counted.enc)[i]? = some h.counted.xs[i].enc := by simp [hlt]
    have hmem : h.counted.xs[i] ∈ h.counted.xs := List.getElem_mem hlt
    obtain ⟨x, hxe⟩ : ∃ x, x = h.counted.xs[i] := ⟨_, rfl⟩
    rw [← hxe] at hx hmem
    have hnext := ih (i + 1) hlt (by omega)
    clear ih
    cases hxc : decide (x.bin = c) with
    | false =>
      have hxc' : (!decide (x.bin = c)) = true := by rw [hxc]; rfl
      repeat (first
        | refine r_mv_p rfl ?_ | refine r_fad rfl rfl ?_ | refine r_addA rfl rfl ?_ | refine r_loadA rfl ?_ | refine r_sem rfl rfl rfl rfl ?_ | refine r_nil ?_ | refine r_iadA rfl rfl ?_
        | refine r_storeAll rfl rfl rfl rfl rfl rfl ?_ | refine r_alloc rfl ?_ | refine run_seq ?_ | refine run_reg ?_ | refine run_block ?_ | refine run_skip ?_ | refine run_exit ?_
        | refine fin_seq ?_ | refine fin_seq_e ?_ | refine fin_blk_e ?_ | refine run_condT rfl ?_)
      refine fin_loop (run_weak (weak_S ?_ ?_) hnext)
      · exact ⟨rfl, rfl, rfl, rfl, rfl, rfl, trivial⟩
      · exact ⟨rfl, rfl, rfl, trivial⟩
    | true =>
      have hxc' : (!decide (x.bin = c)) = false := by rw [hxc]; rfl
      have hq := findQuant g x.key
      obtain ⟨y1, y2⟩ := hc.yes x hmem (of_decide_eq_true hxc)
      unfold quantOut at hq
      rw [y1] at hq
      generalize (g.quant? x.key).getD Quant.zero = q at hq y2
      have cb1 := balance26 g x.item x.lot
      rw [hc.bal] at cb1
      have cb2 := balance26 h x.item x.lot
      generalize h.balance x.item x.lot = bl at cb1 cb2
      have k1 : (true != decide (decide ((0 : Int) < x.qty) = decide ((0 : Int) < x.qty))) = false := by simp
      have k2 : (!decide (q.qty = x.qty)) = false := by rw [y2]; simp
      have k3 : (!decide (bl = bl)) = false := by simp
      repeat (first
        | refine r_call rfl (hq) ?_ | refine r_call rfl (cb1) ?_ | refine r_call rfl (cb2) ?_ | refine r_mv_p rfl ?_ | refine r_doA rfl ?_ | refine r_fad rfl rfl ?_ | refine r_addA rfl rfl ?_
        | refine r_loadA rfl ?_ | refine r_loadB rfl rfl ?_ | refine r_pickF rfl rfl rfl ?_ | refine r_sem rfl rfl rfl rfl ?_ | refine r_nil ?_ | refine r_iadA rfl rfl ?_
        | refine r_storeAll rfl rfl rfl rfl rfl rfl ?_ | refine r_alloc rfl ?_ | refine run_seq ?_ | refine run_reg ?_ | refine run_regd rfl ?_ | refine run_block ?_ | refine run_skip ?_
        | refine fin_seq ?_ | refine fin_blk ?_ | refine run_condF rfl ?_)
      refine fin_loop (run_weak (weak_S ?_ ?_) hnext)
      · exact ⟨rfl, rfl, rfl, rfl, rfl, rfl, trivial⟩
      · exact ⟨rfl, rfl, rfl, trivial⟩
  clear ih h1 hi
  repeat (first
    | refine r_mv_p rfl ?_ | refine r_nil ?_ | refine run_seq ?_ | refine run_reg ?_ | refine run_block ?_ | refine run_exit ?_ | refine fin_seq ?_ | refine fin_seq_e ?_
    | refine fin_blk_e ?_ | refine fin_loop_e ?_)
  refine run_weak (weak_S ?_ ?_) (run_inv (fun i : Nat => S [(1, .p (.v (.string c))), (3, .own 3 0), (7, .own 7 0), (9, .own 9 0), (10, .p (.v (.bool true))), (17, .p (.v (.int .i64 (i : Nat))))] [(3, some (.box h.enc false)), (7, some (.box g.enc false)), (9, some (.box b.enc false))])
    (fun i => i ≤ h.quants.xs.length) (fun i => h.quants.xs.length - i) ?_ 0 (Nat.zero_le _))
  · exact ⟨rfl, rfl, rfl, rfl, rfl, rfl, trivial⟩
  · exact ⟨rfl, rfl, rfl, trivial⟩
  rintro i hi ih
  repeat (first
    | refine r_mv_p rfl ?_ | refine r_fad rfl rfl ?_ | refine r_sem rfl rfl rfl rfl ?_ | refine r_nil ?_ | refine run_seq ?_ | refine run_reg ?_ | refine fin_seq ?_)
  refine run_cond rfl (fun h1 => ?_) (fun h1 => ?_)
  · have hlt : i < h.quants.xs.length := by simpa using h1
    have hx : (h.quants.xs.map Quant.enc)[i]? = some h.quants.xs[i].enc := by simp [hlt]
    have hxi : h.quants.xs[i]? = some h.quants.xs[i] := by simp [hlt]
    obtain ⟨x, hxe⟩ : ∃ x, x = h.quants.xs[i] := ⟨_, rfl⟩
    rw [← hxe] at hx hxi
    have hnext := ih (i + 1) hlt (by omega)
    clear ih
    repeat (first
      | refine r_mv_p rfl ?_ | refine r_fad rfl rfl ?_ | refine r_loadA rfl ?_ | refine r_sem rfl rfl rfl rfl ?_ | refine r_nil ?_ | refine r_iadA rfl rfl ?_
      | refine r_storeAll rfl rfl rfl rfl rfl rfl ?_ | refine r_alloc rfl ?_ | refine run_seq ?_ | refine run_reg ?_ | refine run_block ?_ | refine run_skip ?_ | refine fin_seq ?_)
    clear hx
    refine run_weak (weak_S ?_ ?_) (run_inv (fun p : Nat × Bool => S [(1, .p (.v (.string c))), (3, .own 3 0), (7, .own 7 0), (9, .own 9 0), (10, .p (.v (.bool true))), (17, .p (.v (.int .i64 (i : Nat)))), (18, .own 18 0), (19, .p (.v (.bool p.2))), (20, .p (.v (.int .i64 (p.1 : Nat))))] [(3, some (.box h.enc false)), (7, some (.box g.enc false)), (9, some (.box b.enc false)), (18, some (.box x.enc false))])
      (fun p => p.1 ≤ h.counted.xs.length ∧ p.2 = (h.counted.xs.take p.1).any (hit x c)) (fun p => h.counted.xs.length - p.1) ?_ (0, false) ⟨Nat.zero_le _, rfl⟩)
    · exact ⟨rfl, rfl, rfl, rfl, rfl, rfl, rfl, rfl, rfl, trivial⟩
    · exact ⟨rfl, rfl, rfl, rfl, trivial⟩
    rintro ⟨k, d⟩ ⟨hk, hd⟩ ihk
    simp only at hk hd
    repeat (first
      | refine r_mv_p rfl ?_ | refine r_fad rfl rfl ?_ | refine r_sem rfl rfl rfl rfl ?_ | refine r_nil ?_ | refine run_seq ?_ | refine run_reg ?_ | refine fin_seq ?_)
    refine run_cond rfl (fun h2 => ?_) (fun h2 => ?_)
    · have hkl : k < h.counted.xs.length := by simpa using h2
      have hy : (h.counted.xs.map Counted.enc)[k]? = some h.counted.xs[k].enc := by simp [hkl]
      have hsu := any_take_succ (hit x c) h.counted.xs k hkl
      rw [← hd] at hsu
      obtain ⟨y, hye⟩ : ∃ y, y = h.counted.xs[k] := ⟨_, rfl⟩
      rw [← hye] at hy hsu
      have hstep : ∀ d', d' = (d || hit x c y) → _ := fun d' e => ihk (k + 1, d') ⟨hkl, e.trans hsu.symm⟩ (by simp only; omega)
      clear ihk hnext hsu hd
      cases d with
      | true =>
        have hs1 : ((k, true) : Nat × Bool).snd = true := rfl
        have hn := hstep true rfl
        clear hstep
        repeat (first
          | refine r_mv_p rfl ?_ | refine r_skipA rfl ?_ | refine r_skipU rfl ?_ | refine r_addA rfl rfl ?_ | refine r_pickT rfl rfl rfl ?_ | refine r_nil ?_ | refine run_seq ?_
          | refine run_reg ?_ | refine run_regd rfl ?_ | refine run_block ?_ | refine run_skip ?_ | refine fin_seq ?_ | refine fin_blk ?_)
        refine fin_loop (run_weak (weak_S ?_ ?_) hn)
        · exact ⟨rfl, rfl, rfl, rfl, rfl, rfl, rfl, rfl, rfl, trivial⟩
        · exact ⟨rfl, rfl, rfl, rfl, trivial⟩
      | false =>
        have hs1 : ((k, false) : Nat × Bool).snd = false := rfl
        have hke := key_eqs y.key x.key
        cases q1 : decide (y.key = x.key) with
        | false =>
          rw [q1] at hke
          have hn := hstep false (by simp only [hit, q1]; rfl)
          clear hstep
          repeat (first
            | refine r_eqsV rfl rfl hke ?_ | refine r_mv_p rfl ?_ | refine r_doA rfl ?_ | refine r_skipA rfl ?_ | refine r_fad rfl rfl ?_ | refine r_addA rfl rfl ?_
            | refine r_pickF rfl rfl rfl ?_ | refine r_sem rfl rfl rfl rfl ?_ | refine r_nil ?_ | refine r_iadA rfl rfl ?_ | refine run_seq ?_ | refine run_reg ?_ | refine run_regd rfl ?_
            | refine run_block ?_ | refine run_skip ?_ | refine fin_seq ?_ | refine fin_blk ?_)
          refine fin_loop (run_weak (weak_S ?_ ?_) hn)
          · exact ⟨rfl, rfl, rfl, rfl, rfl, rfl, rfl, rfl, rfl, trivial⟩
          · exact ⟨rfl, rfl, rfl, rfl, trivial⟩
        | true =>
          rw [q1] at hke
          cases q2 : decide (x.bin = c) with
          | false =>
            have hn := hstep false (by simp only [hit, q1, q2]; rfl)
            clear hstep
            repeat (first
              | refine r_eqsV rfl rfl hke ?_ | refine r_mv_p rfl ?_ | refine r_doA rfl ?_ | refine r_fad rfl rfl ?_ | refine r_addA rfl rfl ?_ | refine r_pickT rfl rfl rfl ?_
              | refine r_pickF rfl rfl rfl ?_ | refine r_sem rfl rfl rfl rfl ?_ | refine r_nil ?_ | refine r_iadA rfl rfl ?_ | refine run_seq ?_ | refine run_reg ?_ | refine run_regd rfl ?_
              | refine run_block ?_ | refine run_skip ?_ | refine fin_seq ?_ | refine fin_blk ?_)
            refine fin_loop (run_weak (weak_S ?_ ?_) hn)
            · exact ⟨rfl, rfl, rfl, rfl, rfl, rfl, rfl, by simp only [q2]; rfl, rfl, trivial⟩
            · exact ⟨rfl, rfl, rfl, rfl, trivial⟩
          | true =>
            have hn := hstep true (by simp only [hit, q1, q2]; rfl)
            clear hstep
            repeat (first
              | refine r_eqsV rfl rfl hke ?_ | refine r_mv_p rfl ?_ | refine r_doA rfl ?_ | refine r_fad rfl rfl ?_ | refine r_addA rfl rfl ?_ | refine r_pickT rfl rfl rfl ?_
              | refine r_pickF rfl rfl rfl ?_ | refine r_sem rfl rfl rfl rfl ?_ | refine r_nil ?_ | refine r_iadA rfl rfl ?_ | refine run_seq ?_ | refine run_reg ?_ | refine run_regd rfl ?_
              | refine run_block ?_ | refine run_skip ?_ | refine fin_seq ?_ | refine fin_blk ?_)
            refine fin_loop (run_weak (weak_S ?_ ?_) hn)
            · exact ⟨rfl, rfl, rfl, rfl, rfl, rfl, rfl, by simp only [q2]; rfl, rfl, trivial⟩
            · exact ⟨rfl, rfl, rfl, rfl, trivial⟩
    · have hkl : k = h.counted.xs.length := by simp at h2; omega
      rw [hkl, List.take_length] at hd
      clear ihk h2
      have cb1 := balance26 g x.item x.lot
      rw [hc.bal] at cb1
      have cb2 := balance26 h x.item x.lot
      generalize h.balance x.item x.lot = bl at cb1 cb2
      have k3 : (!decide (bl = bl)) = false := by simp
      have hq := findQuant g x.key
      cases d with
      | true =>
        have hs1 : (!((k, true) : Nat × Bool).snd) = false := rfl
        unfold quantOut at hq
        generalize (g.quant? x.key).getD Quant.zero = q at hq
        generalize (g.quant? x.key).isSome = qi at hq
        repeat (first
          | refine r_call rfl (hq) ?_ | refine r_call rfl (cb1) ?_ | refine r_call rfl (cb2) ?_ | refine r_mv_p rfl ?_ | refine r_doA rfl ?_ | refine r_skipA rfl ?_ | refine r_skipU rfl ?_
          | refine r_fad rfl rfl ?_ | refine r_addA rfl rfl ?_ | refine r_loadB rfl rfl ?_ | refine r_pickF rfl rfl rfl ?_ | refine r_sem rfl rfl rfl rfl ?_ | refine r_nil ?_
          | refine r_storeAll rfl rfl rfl rfl rfl rfl ?_ | refine r_alloc rfl ?_ | refine run_seq ?_ | refine run_reg ?_ | refine run_regd rfl ?_ | refine run_skip ?_ | refine run_exit ?_
          | refine fin_seq ?_ | refine fin_seq_e ?_ | refine fin_blk ?_ | refine fin_blk_e ?_ | refine fin_loop_e ?_ | refine run_condF rfl ?_)
        refine fin_loop (run_weak (weak_S ?_ ?_) hnext)
        · exact ⟨rfl, rfl, rfl, rfl, rfl, rfl, trivial⟩
        · exact ⟨rfl, rfl, rfl, trivial⟩
      | false =>
        have hs1 : (!((k, false) : Nat × Bool).snd) = true := rfl
        have hno : ∀ y ∈ h.counted.xs, y.bin = c → y.key ≠ x.key := fun y hy hyc hyk => by
          have h3 := List.any_eq_false.1 hd.symm y hy
          have h4 : x.bin = c := by
            have : x.bin = y.bin := (congrArg Key.bin hyk).symm
            rw [this]; exact hyc
          exact h3 (by simp [hit, hyk, h4])
        rw [hc.no x.key hno, quant_here hp hxi] at hq
        replace hq : Ret Tryz.prog 25 _ (.tup [.agg x.enc, .v (.bool true)]) := hq
        repeat (first
          | refine r_call rfl (hq) ?_ | refine r_call rfl (cb1) ?_ | refine r_call rfl (cb2) ?_ | refine r_eqsD rfl rfl (quant_self x) ?_ | refine r_mv_p rfl ?_ | refine r_doA rfl ?_
          | refine r_fad rfl rfl ?_ | refine r_addA rfl rfl ?_ | refine r_loadB rfl rfl ?_ | refine r_pickT rfl rfl rfl ?_ | refine r_pickF rfl rfl rfl ?_ | refine r_sem rfl rfl rfl rfl ?_
          | refine r_nil ?_ | refine r_storeAll rfl rfl rfl rfl rfl rfl ?_ | refine r_alloc rfl ?_ | refine run_seq ?_ | refine run_reg ?_ | refine run_regd rfl ?_ | refine run_skip ?_
          | refine run_exit ?_ | refine fin_seq ?_ | refine fin_seq_e ?_ | refine fin_blk ?_ | refine fin_blk_e ?_ | refine fin_loop_e ?_ | refine run_condF rfl ?_)
        refine fin_loop (run_weak (weak_S ?_ ?_) hnext)
        · exact ⟨rfl, rfl, rfl, rfl, rfl, rfl, trivial⟩
        · exact ⟨rfl, rfl, rfl, trivial⟩
  clear ih h1 hi
  repeat (first
    | refine r_call rfl (awake10) ?_ | refine r_mv_p rfl ?_ | refine r_doA rfl ?_ | refine r_fad rfl rfl ?_ | refine r_pickT rfl rfl rfl ?_ | refine r_sem rfl rfl rfl rfl ?_
    | refine r_nil ?_ | refine run_seq ?_ | refine run_reg ?_ | refine run_exit ?_ | refine run_ret ?_ | refine fin_seq ?_ | refine fin_seq_e ?_ | refine fin_blk_e ?_
    | refine fin_loop_e ?_)
  exact fin_out rfl rfl
end Go.Fw
