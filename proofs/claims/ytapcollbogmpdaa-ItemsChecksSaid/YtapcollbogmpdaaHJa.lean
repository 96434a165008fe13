/-
  The laws of items.
-/
import Derived.Test.YtapcollbogmpdaaHJe
set_option linter.unusedVariables false
set_option linter.unusedSimpArgs false
set_option maxRecDepth 10000
namespace Go.Fw
open Go.Proofs

theorem r_eqsF {P : Program} {Q : Ex → St → Prop} {ks : List Kf} {rs : List RG} {l : List (Nat × T)} {m : List (Nat × Option Own)} {d : Nat} {cks : List Ck} {x y : Opd} {a b : List PV} (hx : (S l m).ev x = .p (.agg a)) (hy : (S l m).ev y = .p (.agg b)) (he : cellsEq cks a b = some true)
    (h : RunR P Q ks rs (S ((d, .p (.v (.bool true))) :: l) m)) : RunR P Q ks (⟨some d, .eqs false cks, [x, y], none⟩ :: rs) (S l m) :=
  r_sem («as» := [.p (.agg a), .p (.agg b)]) rfl (by simp only [St.resL, St.res, hx, hy, lookT]; rfl) (by simp only [sem, he, Option.map_some]; rfl) rfl h
set_option maxHeartbeats 4000000 in
theorem awake34 : Ret Try.prog 34 [] (.v (.bool true)) := by
  refine ret34 rfl fun hbd => ?_
  have ca : Ret Try.prog 36 [.agg House.zero.enc, .agg nut7.enc] (.tup [.agg h7.enc, .v (.int .i64 0)]) := by
    have := addItem36 House.zero nut7 (by decide)
    rw [e7h] at this; exact this
  have cf := itemsFind h7 nut
  rw [e7f, itemOut_some] at cf
  have c1 := check41 nut7a
  rw [e7a] at c1
  have c2 := check41 nut7b
  rw [e7b] at c2
  have c3 := check41 { Item.zero with serial := true }
  rw [e7s] at c3
  have he := item_eqs nut7
  unfold c34
  repeat (first
    | refine r_call rfl (nut73) ?_ | refine r_call rfl (ca) ?_ | refine r_call rfl (cf) ?_ | refine r_call rfl (c1) ?_ | refine r_call rfl (c2) ?_ | refine r_call rfl (c3) ?_
    | refine r_aad rfl rfl rfl (by decide) ?_ | refine r_eqsF rfl rfl he ?_ | refine r_mv_p rfl ?_ | refine r_do rfl (by first | with_reducible rfl | assumption | decide) ?_
    | refine r_fad rfl rfl ?_ | refine r_loadAllB rfl rfl (by first | rfl | assumption) ?_ | refine r_pick_t rfl (by first | with_reducible rfl | assumption | decide) rfl rfl ?_
    | refine r_sem rfl rfl rfl rfl ?_ | refine r_nil ?_ | refine r_storeAll rfl rfl rfl rfl rfl rfl ?_ | refine r_store rfl rfl rfl rfl (by decide) ?_ | refine r_alloc rfl ?_
    | refine run_seq ?_ | refine run_reg ?_ | refine run_regd rfl ?_ | refine run_ret ?_ | refine fin_seq ?_)
  exact fin_out rfl rfl
theorem law_ItemsIs (x : Item) : Ret Try.prog 9 [.agg x.enc] (.v (.bool true)) := by
  refine ret9 rfl fun hbd => ?_
  have he : decide (x.check' = x.check') = true := by simp
  unfold c9
  repeat (first
    | refine r_call rfl (check41 x) ?_ | refine r_call rfl (refCheck42 x) ?_ | refine r_call rfl (awake34) ?_ | refine r_mv_p rfl ?_
    | refine r_do rfl (by first | with_reducible rfl | assumption | decide) ?_ | refine r_loadAllB rfl rfl (by first | rfl | assumption) ?_
    | refine r_pick_t rfl (by first | with_reducible rfl | assumption | decide) rfl rfl ?_ | refine r_sem rfl rfl rfl rfl ?_ | refine r_nil ?_ | refine r_box rfl rfl rfl ?_
    | refine run_seq ?_ | refine run_reg ?_ | refine run_regd rfl ?_ | refine run_ret ?_ | refine fin_seq ?_)
  exact fin_out rfl rfl
theorem law_ItemsLooks (h : House) (c : Str) : Ret Try.prog 10 [.agg h.enc, .v (.string c)] (.v (.bool true)) := by
  refine ret10 rfl fun hbd => ?_
  have cf := itemsFind h c
  have cr := refFindItem h c
  unfold c10
  repeat (first
    | refine r_call rfl (small_ok h) ?_ | refine r_mv_p rfl ?_ | refine r_loadAllB rfl rfl (by first | rfl | assumption) ?_ | refine r_sem rfl rfl rfl rfl ?_ | refine r_nil ?_
    | refine r_box rfl rfl rfl ?_ | refine run_seq ?_ | refine run_reg ?_ | refine fin_seq ?_)
  refine run_cond rfl (fun h1 => ?_) (fun h1 => ?_)
  · repeat (first
      | refine r_call rfl (awake34) ?_ | refine r_mv_p rfl ?_ | refine r_nil ?_ | refine run_seq ?_ | refine run_reg ?_ | refine run_ret ?_ | refine fin_seq ?_ | refine fin_seq_r ?_)
    exact fin_out rfl rfl
  unfold itemOut at cf cr
  generalize (h.item? c).getD Item.zero = b at *
  generalize (h.item? c).isSome = is at *
  have hb := item_eqs b
  have hi : (false != decide (is = is)) = true := by simp
  repeat (first
    | refine r_call rfl (cf) ?_ | refine r_call rfl (cr) ?_ | refine r_call rfl (awake34) ?_ | refine r_eqsF rfl rfl hb ?_ | refine r_mv_p rfl ?_
    | refine r_do rfl (by first | with_reducible rfl | assumption | decide) ?_ | refine r_loadAllB rfl rfl (by first | rfl | assumption) ?_
    | refine r_pick_t rfl (by first | with_reducible rfl | assumption | decide) rfl rfl ?_ | refine r_sem rfl rfl rfl rfl ?_ | refine r_nil ?_
    | refine r_storeAll rfl rfl rfl rfl rfl rfl ?_ | refine r_alloc rfl ?_ | refine run_seq ?_ | refine run_reg ?_ | refine run_skip ?_ | refine run_ret ?_ | refine fin_seq ?_)
  exact fin_out rfl rfl
set_option maxHeartbeats 4000000 in
theorem law_ItemsAdds (h : House) (hx : h.Ok) (x : Item) (c : Str) : Ret Try.prog 6 [.agg h.enc, .agg x.enc, .v (.string c)] (.v (.bool true)) := by
  refine ret6 rfl fun hbd => ?_
  unfold c6
  repeat (first
    | refine r_call rfl (small_ok h) ?_ | refine r_mv_p rfl ?_ | refine r_loadAllB rfl rfl (by first | rfl | assumption) ?_ | refine r_sem rfl rfl rfl rfl ?_ | refine r_nil ?_
    | refine r_box rfl rfl rfl ?_ | refine run_seq ?_ | refine run_reg ?_ | refine fin_seq ?_)
  refine run_cond rfl (fun h1 => ?_) (fun h1 => ?_)
  · repeat (first
      | refine r_call rfl (awake34) ?_ | refine r_mv_p rfl ?_ | refine r_nil ?_ | refine run_seq ?_ | refine run_reg ?_ | refine run_ret ?_ | refine fin_seq ?_ | refine fin_seq_r ?_)
    exact fin_out rfl rfl
  have hs : h.small = true := by simpa using h1
  obtain ⟨l0, l1, l2, l3, l4, -⟩ := small_lens hs
  obtain ⟨g, k, e, c1, c2, c3⟩ := two (addItem36 h.lent x (show (h.items.xs.length + 1) * 136 ≤ _ by omega)) (refAddItem37 h x (by omega)) (addItem_same (SameH.lent h) x) (addItem_ok (House.lent_ok hx) x)
  have cf := itemsFind h.lent c
  rw [show h.lent.item? c = h.item? c from (SameH.lent h).item? c] at cf
  have cr := refFindItem h c
  have cc := check41 x
  have cc2 := refCheck42 x
  have ck := kept_ok h hx hs
  have he : decide (e = e) = true := by simp
  have hce : decide (x.check' = x.check') = true := by simp
  unfold itemOut at cf cr
  generalize (h.item? c).getD Item.zero = b at *
  generalize (h.item? c).isSome = is at *
  have hb := item_eqs b
  have hi : (false != decide (is = is)) = true := by simp
  clear l0 l1 l2 l3 l4
  repeat (first
    | refine r_call rfl (lent_ok h hx hs) ?_ | refine r_call rfl (c1) ?_ | refine r_call rfl (c2) ?_ | refine r_call rfl (c3) ?_ | refine r_call rfl (cf) ?_ | refine r_call rfl (cr) ?_
    | refine r_call rfl (cc) ?_ | refine r_call rfl (cc2) ?_ | refine r_call rfl (ck) ?_ | refine r_call rfl (awake34) ?_ | refine r_eqsF rfl rfl hb ?_ | refine r_mv_p rfl ?_
    | refine r_do rfl (by first | with_reducible rfl | assumption | decide) ?_ | refine r_loadAllB rfl rfl (by first | rfl | assumption) ?_
    | refine r_pick_t rfl (by first | with_reducible rfl | assumption | decide) rfl rfl ?_ | refine r_sem rfl rfl rfl rfl ?_ | refine r_nil ?_
    | refine r_storeAll rfl rfl rfl rfl rfl rfl ?_ | refine r_alloc rfl ?_ | refine run_seq ?_ | refine run_reg ?_ | refine run_regd rfl ?_ | refine run_skip ?_ | refine run_ret ?_
    | refine fin_seq ?_)
  exact fin_out rfl rfl

/-! ### What may be kept is within its bounds -/
theorem us_ok {x : Item} (h : x.check' = 0) : ∀ (i : Nat) (u : Un), x.us[i]? = some u → unitE u (x.us.take i) = 0 := by
  obtain ⟨_, h0, h1, h2, h3, _⟩ := check_zero h
  intro i u hu
  rcases i with _ | _ | _ | _ | i
  · cases hu; exact h0
  · cases hu; exact h1
  · cases hu; exact h2
  · cases hu; exact h3
  · simp [Item.us] at hu
set_option maxHeartbeats 16000000 in
theorem law_ItemsChecks (x : Item) : Ret Try.prog 8 [.agg x.enc] (.v (.bool true)) := by
  refine ret8 rfl fun hbd => ?_
  have hc := check41 x
  have hv := check_vals x
  have hz := @check_zero x
  have huk := @us_ok x
  unfold c8
  generalize x.check' = e at *
  cases h0 : decide (e = 0) with
  | false =>
    have h0' : (!decide (e = 0)) = true := by rw [h0]; rfl
    have hv' := hv.resolve_left (of_decide_eq_false h0)
    clear hz huk hv
    rcases hv' with rfl | rfl | rfl | rfl | rfl
    · repeat (first
        | refine r_call rfl (hc) ?_ | refine r_call rfl (awake34) ?_ | refine r_mv_p rfl ?_ | refine r_do rfl (by first | with_reducible rfl | assumption | decide) ?_
        | refine r_skip rfl (by first | with_reducible rfl | assumption | decide) ?_ | refine r_loadAllB rfl rfl (by first | rfl | assumption) ?_
        | refine r_pick_t rfl (by first | with_reducible rfl | assumption | decide) rfl rfl ?_ | refine r_sem rfl rfl rfl rfl ?_ | refine r_nil ?_ | refine r_box rfl rfl rfl ?_
        | refine run_seq ?_ | refine run_reg ?_ | refine run_ret ?_ | refine fin_seq ?_ | refine fin_seq_r ?_ | refine run_cond_t rfl (by first | with_reducible rfl | assumption | decide) ?_)
      exact fin_out rfl rfl
    · repeat (first
        | refine r_call rfl (hc) ?_ | refine r_call rfl (awake34) ?_ | refine r_mv_p rfl ?_ | refine r_do rfl (by first | with_reducible rfl | assumption | decide) ?_
        | refine r_skip rfl (by first | with_reducible rfl | assumption | decide) ?_ | refine r_loadAllB rfl rfl (by first | rfl | assumption) ?_
        | refine r_pick_t rfl (by first | with_reducible rfl | assumption | decide) rfl rfl ?_ | refine r_pick_f rfl (by first | with_reducible rfl | assumption | decide) rfl rfl ?_
        | refine r_sem rfl rfl rfl rfl ?_ | refine r_nil ?_ | refine r_box rfl rfl rfl ?_ | refine run_seq ?_ | refine run_reg ?_ | refine run_ret ?_ | refine fin_seq ?_ | refine fin_seq_r ?_
        | refine run_cond_t rfl (by first | with_reducible rfl | assumption | decide) ?_)
      exact fin_out rfl rfl
    · repeat (first
        | refine r_call rfl (hc) ?_ | refine r_call rfl (awake34) ?_ | refine r_mv_p rfl ?_ | refine r_do rfl (by first | with_reducible rfl | assumption | decide) ?_
        | refine r_skip rfl (by first | with_reducible rfl | assumption | decide) ?_ | refine r_loadAllB rfl rfl (by first | rfl | assumption) ?_
        | refine r_pick_t rfl (by first | with_reducible rfl | assumption | decide) rfl rfl ?_ | refine r_pick_f rfl (by first | with_reducible rfl | assumption | decide) rfl rfl ?_
        | refine r_sem rfl rfl rfl rfl ?_ | refine r_nil ?_ | refine r_box rfl rfl rfl ?_ | refine run_seq ?_ | refine run_reg ?_ | refine run_ret ?_ | refine fin_seq ?_ | refine fin_seq_r ?_
        | refine run_cond_t rfl (by first | with_reducible rfl | assumption | decide) ?_)
      exact fin_out rfl rfl
    · repeat (first
        | refine r_call rfl (hc) ?_ | refine r_call rfl (awake34) ?_ | refine r_mv_p rfl ?_ | refine r_do rfl (by first | with_reducible rfl | assumption | decide) ?_
        | refine r_skip rfl (by first | with_reducible rfl | assumption | decide) ?_ | refine r_loadAllB rfl rfl (by first | rfl | assumption) ?_
        | refine r_pick_t rfl (by first | with_reducible rfl | assumption | decide) rfl rfl ?_ | refine r_pick_f rfl (by first | with_reducible rfl | assumption | decide) rfl rfl ?_
        | refine r_sem rfl rfl rfl rfl ?_ | refine r_nil ?_ | refine r_box rfl rfl rfl ?_ | refine run_seq ?_ | refine run_reg ?_ | refine run_ret ?_ | refine fin_seq ?_ | refine fin_seq_r ?_
        | refine run_cond_t rfl (by first | with_reducible rfl | assumption | decide) ?_)
      exact fin_out rfl rfl
    · repeat (first
        | refine r_call rfl (hc) ?_ | refine r_call rfl (awake34) ?_ | refine r_mv_p rfl ?_ | refine r_do rfl (by first | with_reducible rfl | assumption | decide) ?_
        | refine r_loadAllB rfl rfl (by first | rfl | assumption) ?_ | refine r_pick_t rfl (by first | with_reducible rfl | assumption | decide) rfl rfl ?_
        | refine r_pick_f rfl (by first | with_reducible rfl | assumption | decide) rfl rfl ?_ | refine r_sem rfl rfl rfl rfl ?_ | refine r_nil ?_ | refine r_box rfl rfl rfl ?_
        | refine run_seq ?_ | refine run_reg ?_ | refine run_ret ?_ | refine fin_seq ?_ | refine fin_seq_r ?_ | refine run_cond_t rfl (by first | with_reducible rfl | assumption | decide) ?_)
      exact fin_out rfl rfl
  | true =>
    have h0' : (!decide (e = 0)) = false := by rw [h0]; rfl
    have he0 := of_decide_eq_true h0
    obtain ⟨hn, -, -, -, -, ⟨v1, v2, w1, w2⟩, hsl⟩ := hz he0
    obtain ⟨n1, n2⟩ := nameE_zero hn
    have hus := huk he0
    clear hz huk hv hn
    have g1 : decide ((1 : Int) ≤ ((x.code.size : Nat) : Int)) = true := by simp; omega
    have g2 : decide (((x.code.size : Nat) : Int) ≤ 12) = true := by simp; omega
    have g3 : decide ((0 : Int) ≤ x.volume) = true := by simp [v1]
    have g4 : decide (x.volume ≤ (1000000 : Int)) = true := by simp [v2]
    have g5 : decide ((0 : Int) ≤ x.weight) = true := by simp [w1]
    have g6 : decide (x.weight ≤ (1000000 : Int)) = true := by simp [w2]
    clear v1 v2 w1 w2 n1 n2
    repeat (first
      | refine r_call rfl (hc) ?_ | refine r_mv_p rfl ?_ | refine r_do rfl (by first | with_reducible rfl | assumption | decide) ?_ | refine r_fad rfl rfl ?_
      | refine r_loadAllB rfl rfl (by first | rfl | assumption) ?_ | refine r_pick_t rfl (by first | with_reducible rfl | assumption | decide) rfl rfl ?_ | refine r_sem rfl rfl rfl rfl ?_
      | refine r_nil ?_ | refine r_box rfl rfl rfl ?_ | refine run_seq ?_ | refine run_reg ?_ | refine run_skip ?_ | refine fin_seq ?_
      | refine run_cond_f rfl (by first | with_reducible rfl | assumption | decide) ?_)
    refine run_reg_join (S [(1, .own 1 0), (4, .p (.v (.bool true)))] [(1, some (.box x.enc false))]) ?_ ?_
    · cases s1 : x.serial with
      | true =>
        have s1' : (!x.serial) = false := by rw [s1]; rfl
        have s2 := hsl s1
        repeat (first
          | refine r_mv_p rfl ?_ | refine r_do rfl (by first | with_reducible rfl | assumption | decide) ?_ | refine r_fad rfl rfl ?_
          | refine r_pick_t rfl (by first | with_reducible rfl | assumption | decide) rfl rfl ?_ | refine r_pick_f rfl (by first | with_reducible rfl | assumption | decide) rfl rfl ?_
          | refine r_sem rfl rfl rfl rfl ?_ | refine r_nil ?_)
        refine ⟨weak_S ?_ ?_⟩
        · exact ⟨rfl, tb rfl s2, trivial⟩
        · exact ⟨rfl, trivial⟩
      | false =>
        have s1' : (!x.serial) = true := by rw [s1]; rfl
        repeat (first
          | refine r_mv_p rfl ?_ | refine r_do rfl (by first | with_reducible rfl | assumption | decide) ?_ | refine r_skip rfl (by first | with_reducible rfl | assumption | decide) ?_
          | refine r_pick_t rfl (by first | with_reducible rfl | assumption | decide) rfl rfl ?_ | refine r_nil ?_)
        refine ⟨weak_S ?_ ?_⟩
        · exact ⟨rfl, rfl, trivial⟩
        · exact ⟨rfl, trivial⟩
    clear g1 g2 g3 g4 g5 g6 hsl
    repeat (first
      | refine r_mv_p rfl ?_ | refine r_nil ?_ | refine run_seq ?_ | refine run_reg ?_ | refine run_block ?_ | refine fin_seq ?_)
    refine run_weak (weak_S ?_ ?_) (run_inv (fun i : Nat => S [(1, .own 1 0), (4, .p (.v (.bool true))), (5, .p (.v (.int .i64 (i : Nat))))] [(1, some (.box x.enc false))])
      (fun i => i ≤ 4) (fun i => 4 - i) ?_ 0 (Nat.zero_le _))
    · exact ⟨rfl, rfl, rfl, trivial⟩
    · exact ⟨rfl, trivial⟩
    intro i hi ih
    repeat (first
      | refine r_mv_p rfl ?_ | refine r_sem rfl rfl rfl rfl ?_ | refine r_nil ?_ | refine run_seq ?_ | refine run_reg ?_ | refine fin_seq ?_)
    refine run_cond rfl (fun h => ?_) (fun h => ?_)
    · have hlt : i < 4 := by have := of_decide_eq_true h; omega
      obtain ⟨u, hu⟩ := us_get x hlt
      obtain ⟨_, d1, d2, d3⟩ := unit_at hu
      rcases unitE_zero (hus i u hu) with ⟨a1, a2⟩ | ⟨a1, a2, a3, a4, a5, a6⟩
      · have b1 : decide (u.1 = ⟨#[]⟩) = true := decide_eq_true a1
        have b2 : decide (u.2 = 0) = true := decide_eq_true a2
        repeat (first
          | refine r_aad rfl rfl rfl (by omega) ?_ | refine r_loadO rfl rfl d1 ?_ | refine r_mv_p rfl ?_ | refine r_do rfl (by first | with_reducible rfl | assumption | decide) ?_
          | refine r_fad rfl rfl ?_ | refine r_add rfl rfl (by omega) ?_ | refine r_pick_t rfl (by first | with_reducible rfl | assumption | decide) rfl rfl ?_ | refine r_sem rfl rfl rfl rfl ?_
          | refine r_nil ?_ | refine r_storeAll rfl rfl rfl rfl rfl rfl ?_ | refine r_alloc rfl ?_ | refine run_seq ?_ | refine run_reg ?_ | refine run_block ?_ | refine run_skip ?_
          | refine run_exit ?_ | refine fin_seq ?_ | refine fin_seq_e ?_ | refine fin_blk_e ?_ | refine run_cond_t rfl (by first | with_reducible rfl | assumption | decide) ?_)
        refine fin_loop (run_weak (weak_S ?_ ?_) (ih (i + 1) hlt (by omega)))
        · exact ⟨rfl, tb rfl b2, rfl, trivial⟩
        · exact ⟨rfl, trivial⟩
      · have b1 : decide (u.1 = ⟨#[]⟩) = false := decide_eq_false a1
        have b2 : decide (((u.1.size : Nat) : Int) ≤ 12) = true := by simp; omega
        have b3 : (!decide (u.1 = ⟨#[101, 97, 99, 104]⟩)) = true := by
          rw [show decide (u.1 = ⟨#[101, 97, 99, 104]⟩) = false from decide_eq_false a3]; rfl
        have b4 : decide ((2 : Int) ≤ u.2) = true := decide_eq_true a4
        have b5 : decide (u.2 ≤ (1000000 : Int)) = true := decide_eq_true a5
        repeat (first
          | refine r_aad rfl rfl rfl (by omega) ?_ | refine r_loadO rfl rfl d1 ?_ | refine r_mv_p rfl ?_ | refine r_do rfl (by first | with_reducible rfl | assumption | decide) ?_
          | refine r_fad rfl rfl ?_ | refine r_pick_t rfl (by first | with_reducible rfl | assumption | decide) rfl rfl ?_ | refine r_sem rfl rfl rfl rfl ?_ | refine r_nil ?_
          | refine r_storeAll rfl rfl rfl rfl rfl rfl ?_ | refine r_alloc rfl ?_ | refine run_seq ?_ | refine run_reg ?_ | refine run_block ?_ | refine run_skip ?_ | refine fin_seq ?_
          | refine run_cond_f rfl (by first | with_reducible rfl | assumption | decide) ?_)
        refine run_weak (weak_S ?_ ?_) (run_inv (fun k : Nat => S [(1, .own 1 0), (4, .p (.v (.bool true))), (5, .p (.v (.int .i64 (i : Nat)))), (6, .own 6 0), (7, .p (.v (.int .i64 (k : Nat))))] [(1, some (.box x.enc false)), (6, some (.box (uEnc u) false))])
          (fun k => k ≤ i) (fun k => i - k) ?_ 0 (Nat.zero_le _))
        · exact ⟨rfl, tb rfl b5, rfl, rfl, rfl, trivial⟩
        · exact ⟨rfl, rfl, trivial⟩
        intro k hk ihk
        repeat (first
          | refine r_mv_p rfl ?_ | refine r_sem rfl rfl rfl rfl ?_ | refine r_nil ?_ | refine run_seq ?_ | refine run_reg ?_ | refine fin_seq ?_)
        refine run_cond rfl (fun h3 => ?_) (fun h3 => ?_)
        · have hlk : k < i := by simpa using h3
          obtain ⟨a, ha⟩ := us_get x (show k < 4 by omega)
          obtain ⟨_, e1, e2, e3⟩ := unit_at ha
          have hne : a.1 ≠ u.1 := a6 a (List.mem_of_getElem? (i := k) (by rw [List.getElem?_take, if_pos hlk]; exact ha))
          have b6 : (!decide (a.1 = u.1)) = true := by rw [decide_eq_false hne]; rfl
          repeat (first
            | refine r_aad rfl rfl rfl (by omega) ?_ | refine r_loadO rfl rfl e2 ?_ | refine r_mv_p rfl ?_ | refine r_do rfl (by first | with_reducible rfl | assumption | decide) ?_
            | refine r_fad rfl rfl ?_ | refine r_add rfl rfl (by omega) ?_ | refine r_pick_t rfl (by first | with_reducible rfl | assumption | decide) rfl rfl ?_ | refine r_sem rfl rfl rfl rfl ?_
            | refine r_nil ?_ | refine run_seq ?_ | refine run_reg ?_ | refine run_regd rfl ?_ | refine run_block ?_ | refine run_skip ?_ | refine fin_seq ?_ | refine fin_blk ?_)
          refine fin_loop (run_weak (weak_S ?_ ?_) (ihk (k + 1) hlk (by omega)))
          · exact ⟨rfl, tb rfl b6, rfl, rfl, rfl, trivial⟩
          · exact ⟨rfl, rfl, trivial⟩
        · have hki : k = i := by simp at h3; omega
          clear ihk
          repeat (first
            | refine r_mv_p rfl ?_ | refine r_add rfl rfl (by omega) ?_ | refine r_nil ?_ | refine run_reg ?_ | refine run_exit ?_ | refine fin_seq ?_ | refine fin_seq_e ?_ | refine fin_blk ?_
            | refine fin_blk_e ?_ | refine fin_loop_e ?_)
          refine fin_loop (run_weak (weak_S ?_ ?_) (ih (i + 1) hlt (by omega)))
          · exact ⟨rfl, rfl, rfl, trivial⟩
          · exact ⟨rfl, trivial⟩
    · clear ih
      repeat (first
        | refine r_call rfl (awake34) ?_ | refine r_mv_p rfl ?_ | refine r_do rfl (by first | with_reducible rfl | assumption | decide) ?_
        | refine r_pick_t rfl (by first | with_reducible rfl | assumption | decide) rfl rfl ?_ | refine r_nil ?_ | refine run_seq ?_ | refine run_reg ?_ | refine run_exit ?_
        | refine run_ret ?_ | refine fin_seq ?_ | refine fin_seq_e ?_ | refine fin_blk_e ?_ | refine fin_loop_e ?_)
      exact fin_out rfl rfl

/-! ### What was added is found -/
theorem look_item {es : List (ByteArray × PV)} {c : Str} {o : Option Item} (h : mfind c es = o.map fun x => .agg x.enc) : itemOut o = (match mfind c es, true with
    | some x, true => .tup [x, .v (.bool true)]
    | some x, false => x
    | none, true => .tup [.agg Item.zero.enc, .v (.bool false)]
    | none, false => .agg Item.zero.enc) := by rw [h]; cases o <;> rfl
theorem look_item2 {es : List (ByteArray × PV)} {c : Str} {y : Item} (h : mfind c es = some (.agg y.enc)) : PV.agg y.enc = (match mfind c es, false with
    | some x, true => .tup [x, .v (.bool true)]
    | some x, false => x
    | none, true => .tup [.agg Item.zero.enc, .v (.bool false)]
    | none, false => .agg Item.zero.enc) := by rw [h]
theorem up_find {h : House} {y : Item} {k : Nat} (hu : UpK Item.code h.items.xs) (hy : h.items.xs[k]? = some y) : h.item? y.code = some y := by
  cases hf : h.item? y.code with
  | none =>
    have := List.find?_eq_none.1 hf y (List.mem_of_getElem? hy)
    simp at this
  | some z =>
    have hz : z ∈ h.items.xs := List.mem_of_find?_eq_some hf
    have hzc := item_code hf
    obtain ⟨j, hj, rfl⟩ := List.mem_iff_getElem.1 hz
    obtain ⟨hk, rfl⟩ := List.getElem?_eq_some_iff.1 hy
    rcases Nat.lt_trichotomy j k with h1 | h1 | h1
    · have := List.pairwise_iff_getElem.1 hu j k hj hk h1
      rw [hzc, slt_irrefl] at this; cases this
    · subst h1; rfl
    · have := List.pairwise_iff_getElem.1 hu k j hk hj h1
      rw [hzc, slt_irrefl] at this; cases this
set_option maxHeartbeats 16000000 in
theorem law_ItemsFinds (xs : List Item) (sp : List (List PV)) : Ret Try.prog 7 [.sl (xs.map Item.enc) sp] (.v (.bool true)) := by
  refine ret7 rfl fun hbd => ?_
  have hb : xs.length ≤ 9223372036854775807 := by
    have := hbd _ (List.mem_cons_self)
    simp only [PV.bd, PV.bd1, List.length_append, List.length_map, maxLen] at this
    omega
  unfold c7
  repeat (first
    | refine r_mv_p rfl ?_ | refine r_nil ?_ | refine r_alloc rfl ?_ | refine r_mkmap rfl ?_ | refine r_mv_mp rfl rfl ?_ | refine run_seq ?_ | refine run_reg ?_ | refine run_block ?_
    | refine fin_seq ?_)
  refine run_weak (weak_S ?_ ?_) (run_inv (fun q : Nat × House × List (ByteArray × PV) => S [(0, .p (.sl (xs.map Item.enc) sp)), (3, .own 3 0), (4, .mp 14), (5, .p (.v (.int .i64 (q.1 : Nat))))] [(3, some (.box q.2.1.enc false)), (14, some (.mp 9 46 q.2.2))])
    (fun q => q.1 ≤ xs.length ∧ Want q.2.1 q.2.2) (fun q => xs.length - q.1) ?_ (0, House.zero, []) ⟨Nat.zero_le _, want_zero⟩)
  · exact ⟨rfl, rfl, rfl, rfl, trivial⟩
  · exact ⟨rfl, rfl, trivial⟩
  rintro ⟨i, h, es⟩ ⟨hi, hw⟩ ih
  simp only at hi hw
  cases k1 : decide ((i : Int) < (((xs.map Item.enc).length : Nat) : Int)) with
  | false =>
    repeat (first
      | refine r_call rfl (awake34) ?_ | refine r_mv_p rfl ?_ | refine r_skip rfl (by first | with_reducible rfl | assumption | decide) ?_
      | refine r_pick_f rfl (by first | with_reducible rfl | assumption | decide) rfl rfl ?_ | refine r_sem rfl rfl rfl rfl ?_ | refine r_nil ?_ | refine run_seq ?_ | refine run_reg ?_
      | refine run_exit ?_ | refine run_ret ?_ | refine fin_seq ?_ | refine fin_seq_e ?_ | refine fin_blk_e ?_ | refine fin_loop_e ?_
      | refine run_cond_f rfl (by first | with_reducible rfl | assumption | decide) ?_)
    exact fin_out rfl rfl
  | true =>
    cases k2 : decide ((i : Int) < 100) with
    | false =>
      repeat (first
        | refine r_call rfl (awake34) ?_ | refine r_mv_p rfl ?_ | refine r_do rfl (by first | with_reducible rfl | assumption | decide) ?_
        | refine r_pick_t rfl (by first | with_reducible rfl | assumption | decide) rfl rfl ?_ | refine r_sem rfl rfl rfl rfl ?_ | refine r_nil ?_ | refine run_seq ?_ | refine run_reg ?_
        | refine run_exit ?_ | refine run_ret ?_ | refine fin_seq ?_ | refine fin_seq_e ?_ | refine fin_blk_e ?_ | refine fin_loop_e ?_
        | refine run_cond_f rfl (by first | with_reducible rfl | assumption | decide) ?_)
      exact fin_out rfl rfl
    | true =>
      have hlt : i < xs.length := by simpa using k1
      have hx : (xs.map Item.enc)[i]? = some xs[i].enc := by simp [hlt]
      obtain ⟨x, hxe⟩ : ∃ x, x = xs[i] := ⟨_, rfl⟩
      rw [← hxe] at hx
      obtain ⟨⟨g, e⟩, hr⟩ : ∃ p, p = h.addItem x := ⟨_, rfl⟩
      have hfew := hw.few
      have ca := addItem36 h x (by omega)
      rw [← hr] at ca
      replace ca : Ret Try.prog 36 _ (.tup [.agg g.enc, .v (.int .i64 e)]) := ca
      have hck := check41 x
      have hlk := look_item (hw.find x.code)
      have hadd := @want_add h g x es hw
      have hnot := @want_not h g x es e hw hr.symm
      have hfi := hw.find x.code
      unfold itemOut at hlk
      repeat (first
        | refine r_call rfl (ca) ?_ | refine r_look (kt' := 9) rfl rfl rfl hlk ?_ | refine r_mv_p rfl ?_ | refine r_do rfl (by first | with_reducible rfl | assumption | decide) ?_
        | refine r_loadAll rfl (by first | rfl | assumption) ?_ | refine r_loadAllB rfl rfl (by first | rfl | assumption) ?_
        | refine r_pick_t rfl (by first | with_reducible rfl | assumption | decide) rfl rfl ?_ | refine r_sem rfl rfl rfl rfl ?_ | refine r_nil ?_
        | refine r_iad rfl rfl (by omega) (by assumption) (by first | rfl | assumption | omega | (simp; done) | (simp; omega)) ?_ | refine r_storeAll rfl rfl rfl rfl rfl rfl ?_
        | refine r_alloc rfl ?_ | refine r_mv_mp rfl rfl ?_ | refine run_seq ?_ | refine run_reg ?_ | refine run_regd rfl ?_ | refine run_block ?_ | refine run_skip ?_ | refine fin_seq ?_
        | refine run_cond_t rfl (by first | with_reducible rfl | assumption | decide) ?_)
      obtain ⟨n1, n2, hN, hc⟩ : ∃ n1 n2, Want n1 n2 ∧ ((e = 0 ∧ n1 = g ∧ n2 = mput x.code (.agg x.enc) es) ∨ (e ≠ 0 ∧ n1 = h ∧ n2 = es)) := by
        by_cases he : e = 0
        · subst he; exact ⟨_, _, (hadd hr.symm).2.2.2, .inl ⟨rfl, rfl, rfl⟩⟩
        · exact ⟨_, _, hw, .inr ⟨he, rfl, rfl⟩⟩
      refine run_join (S [(0, .p (.sl (xs.map Item.enc) sp)), (3, .own 3 0), (4, .mp 14), (5, .p (.v (.int .i64 (i : Nat))))] [(3, some (.box n1.enc false)), (14, some (.mp 9 46 n2))]) ?_ ?_
      · clear ih
        refine run_cond rfl (fun he => ?_) (fun he => ?_)
        · have he' : e = 0 := of_decide_eq_true he
          subst he'
          obtain ⟨m1, m2, m3, m4⟩ := hadd hr.symm
          rcases hc with ⟨-, rfl, rfl⟩ | ⟨hc, -⟩
          · have ht : (h.item? x.code).isSome = false := by
              rw [m1] at hfi
              cases ho : h.item? x.code with
              | none => rfl
              | some y => rw [ho] at hfi; cases hfi
            have k3 : decide ((64 : Int) ≤ ((es.length : Nat) : Int)) = false := by simp; omega
            have k4 : (!decide (x.check' = 0)) = false := by rw [m3]; rfl
            repeat (first
              | refine r_call rfl (hck) ?_ | refine r_mset rfl rfl rfl rfl ?_ | refine r_mv_p rfl ?_ | refine r_do rfl (by first | with_reducible rfl | assumption | decide) ?_
              | refine r_loadAll rfl (by first | rfl | assumption) ?_ | refine r_loadAllB rfl rfl (by first | rfl | assumption) ?_
              | refine r_pick_f rfl (by first | with_reducible rfl | assumption | decide) rfl rfl ?_ | refine r_sem rfl rfl rfl rfl ?_ | refine r_nil ?_
              | refine r_iad rfl rfl (by omega) (by assumption) (by first | rfl | assumption | omega | (simp; done) | (simp; omega)) ?_ | refine r_storeAll rfl rfl rfl rfl rfl rfl ?_
              | refine r_mv_mp rfl rfl ?_ | refine run_seq ?_ | refine run_reg ?_ | refine run_regd rfl ?_ | refine run_skip ?_ | refine fin_seq ?_
              | refine run_cond_f rfl (by first | with_reducible rfl | assumption | decide) ?_)
            refine ⟨.inl ⟨rfl, weak_S ?_ ?_⟩⟩
            · exact ⟨rfl, rfl, rfl, rfl, trivial⟩
            · exact ⟨rfl, rfl, trivial⟩
          · exact absurd rfl hc
        · have he' : e ≠ 0 := of_decide_eq_false he
          rcases hc with ⟨hc, -⟩ | ⟨-, rfl, rfl⟩
          · exact absurd hc he'
          · have hnot' := hnot he'
            cases c1 : decide (x.check' = 0) with
            | false =>
              repeat (first
                | refine r_call rfl (hck) ?_ | refine r_mv_p rfl ?_ | refine r_skip rfl (by first | with_reducible rfl | assumption | decide) ?_
                | refine r_loadAll rfl (by first | rfl | assumption) ?_ | refine r_pick_f rfl (by first | with_reducible rfl | assumption | decide) rfl rfl ?_ | refine r_sem rfl rfl rfl rfl ?_
                | refine r_nil ?_ | refine r_iad rfl rfl (by omega) (by assumption) (by first | rfl | assumption | omega | (simp; done) | (simp; omega)) ?_ | refine run_seq ?_ | refine run_reg ?_
                | refine run_skip ?_ | refine fin_seq ?_ | refine run_cond_f rfl (by first | with_reducible rfl | assumption | decide) ?_)
              refine ⟨.inl ⟨rfl, weak_S ?_ ?_⟩⟩
              · exact ⟨rfl, rfl, rfl, rfl, trivial⟩
              · exact ⟨rfl, rfl, trivial⟩
            | true =>
              cases ht : (n1.item? x.code).isSome with
              | true =>
                have ht' : (!(n1.item? x.code).isSome) = false := by rw [ht]; rfl
                repeat (first
                  | refine r_call rfl (hck) ?_ | refine r_mv_p rfl ?_ | refine r_do rfl (by first | with_reducible rfl | assumption | decide) ?_
                  | refine r_skip rfl (by first | with_reducible rfl | assumption | decide) ?_ | refine r_loadAll rfl (by first | rfl | assumption) ?_
                  | refine r_pick_t rfl (by first | with_reducible rfl | assumption | decide) rfl rfl ?_ | refine r_pick_f rfl (by first | with_reducible rfl | assumption | decide) rfl rfl ?_
                  | refine r_sem rfl rfl rfl rfl ?_ | refine r_nil ?_ | refine r_iad rfl rfl (by omega) (by assumption) (by first | rfl | assumption | omega | (simp; done) | (simp; omega)) ?_
                  | refine run_seq ?_ | refine run_reg ?_ | refine run_skip ?_ | refine fin_seq ?_ | refine run_cond_f rfl (by first | with_reducible rfl | assumption | decide) ?_)
                refine ⟨.inl ⟨rfl, weak_S ?_ ?_⟩⟩
                · exact ⟨rfl, rfl, rfl, rfl, trivial⟩
                · exact ⟨rfl, rfl, trivial⟩
              | false =>
                have ht' : (!(n1.item? x.code).isSome) = true := by rw [ht]; rfl
                have k3 : decide (((n2.length : Nat) : Int) < 64) = false := by
                  have hm : mfind x.code n2 = none := by
                    rw [hfi]
                    cases ho : n1.item? x.code with
                    | none => rfl
                    | some y => rw [ho] at ht; cases ht
                  have : ¬ n2.length < 64 := fun hl => hnot' ⟨of_decide_eq_true c1, hm, hl⟩
                  simp; omega
                repeat (first
                  | refine r_call rfl (hck) ?_ | refine r_mv_p rfl ?_ | refine r_do rfl (by first | with_reducible rfl | assumption | decide) ?_ | refine r_loadAll rfl (by first | rfl | assumption) ?_
                  | refine r_pick_t rfl (by first | with_reducible rfl | assumption | decide) rfl rfl ?_ | refine r_sem rfl rfl rfl rfl ?_ | refine r_nil ?_
                  | refine r_iad rfl rfl (by omega) (by assumption) (by first | rfl | assumption | omega | (simp; done) | (simp; omega)) ?_ | refine run_seq ?_ | refine run_reg ?_ | refine run_skip ?_
                  | refine fin_seq ?_ | refine run_cond_f rfl (by first | with_reducible rfl | assumption | decide) ?_)
                refine ⟨.inl ⟨rfl, weak_S ?_ ?_⟩⟩
                · exact ⟨rfl, rfl, rfl, rfl, trivial⟩
                · exact ⟨rfl, rfl, trivial⟩
      clear hc hadd hnot hr ca hlk hfi hck
      have hlen : (!decide ((((n1.items.xs.map Item.enc).length : Nat) : Int) = ((n2.length : Nat) : Int))) = false := by
        rw [List.length_map, hN.len]; simp
      have hfew2 := hN.few
      repeat (first
        | refine r_mv_p rfl ?_ | refine r_fad rfl rfl ?_ | refine r_sem rfl rfl rfl rfl ?_ | refine r_nil ?_ | refine r_mv_mp rfl rfl ?_ | refine run_seq ?_ | refine run_reg ?_
        | refine run_block ?_ | refine run_skip ?_ | refine fin_seq ?_ | refine run_cond_f rfl (by first | with_reducible rfl | assumption | decide) ?_)
      refine run_weak (weak_S ?_ ?_) (run_inv (fun k : Nat => S [(0, .p (.sl (xs.map Item.enc) sp)), (3, .own 3 0), (4, .mp 14), (5, .p (.v (.int .i64 (i : Nat)))), (11, .p (.v (.int .i64 (k : Nat))))] [(3, some (.box n1.enc false)), (14, some (.mp 9 46 n2))])
        (fun k => k ≤ n1.items.xs.length) (fun k => n1.items.xs.length - k) ?_ 0 (Nat.zero_le _))
      · exact ⟨rfl, rfl, rfl, rfl, rfl, trivial⟩
      · exact ⟨rfl, rfl, trivial⟩
      intro k hk ihk
      repeat (first
        | refine r_mv_p rfl ?_ | refine r_fad rfl rfl ?_ | refine r_sem rfl rfl rfl rfl ?_ | refine r_nil ?_ | refine run_seq ?_ | refine run_reg ?_ | refine fin_seq ?_)
      refine run_cond rfl (fun h3 => ?_) (fun h3 => ?_)
      · have hlk : k < n1.items.xs.length := by simpa using h3
        have hyk : (n1.items.xs.map Item.enc)[k]? = some n1.items.xs[k].enc := by simp [hlk]
        obtain ⟨y, hy⟩ : ∃ y, y = n1.items.xs[k] := ⟨_, rfl⟩
        have hy0 : n1.items.xs[k]? = some y := by rw [hy]; simp [hlk]
        rw [← hy] at hyk
        have hfy := up_find hN.up hy0
        have cf := itemsFind n1 y.code
        rw [hfy, itemOut_some] at cf
        have hm : mfind y.code n2 = some (.agg y.enc) := by rw [hN.find, hfy]; rfl
        have hl2 := look_item2 hm
        have heq := item_eqs y
        cases k4 : decide ((0 : Int) < (k : Int)) with
        | false =>
          repeat (first
            | refine r_call rfl (cf) ?_ | refine r_look (kt' := 9) rfl rfl rfl hl2 ?_ | refine r_eqsN rfl rfl heq ?_ | refine r_mv_p rfl ?_
            | refine r_do rfl (by first | with_reducible rfl | assumption | decide) ?_ | refine r_skip rfl (by first | with_reducible rfl | assumption | decide) ?_ | refine r_fad rfl rfl ?_
            | refine r_add rfl rfl (by omega) ?_ | refine r_loadAll rfl (by first | rfl | assumption) ?_ | refine r_loadAllB rfl rfl (by first | rfl | assumption) ?_
            | refine r_pick_f rfl (by first | with_reducible rfl | assumption | decide) rfl rfl ?_ | refine r_sem rfl rfl rfl rfl ?_ | refine r_nil ?_
            | refine r_iad rfl rfl (by omega) (by assumption) (by first | rfl | assumption | omega | (simp; done) | (simp; omega)) ?_ | refine r_storeAll rfl rfl rfl rfl rfl rfl ?_
            | refine r_alloc rfl ?_ | refine r_mv_mp rfl rfl ?_ | refine run_seq ?_ | refine run_reg ?_ | refine run_regd rfl ?_ | refine run_block ?_ | refine run_skip ?_ | refine fin_seq ?_
            | refine fin_blk ?_ | refine run_cond_f rfl (by first | with_reducible rfl | assumption | decide) ?_)
          refine fin_loop (run_weak (weak_S ?_ ?_) (ihk (k + 1) hlk (by omega)))
          · exact ⟨rfl, rfl, rfl, rfl, rfl, trivial⟩
          · exact ⟨rfl, rfl, trivial⟩
        | true =>
          have hk0 : 0 < k := by simpa using k4
          obtain ⟨z, hz⟩ : ∃ z, n1.items.xs[k - 1]? = some z := ⟨_, List.getElem?_eq_getElem (by omega)⟩
          have hzk : (n1.items.xs.map Item.enc)[((k : Int) - 1).toNat]? = some z.enc := by
            rw [show ((k : Int) - 1).toNat = k - 1 by omega, List.getElem?_map, hz]; rfl
          have hlt2 : (!slt z.code y.code) = false := by
            obtain ⟨j1, j2⟩ := List.getElem?_eq_some_iff.1 hz
            have := List.pairwise_iff_getElem.1 hN.up (k - 1) k j1 hlk (by omega)
            rw [j2, ← hy] at this
            rw [this]; rfl
          repeat (first
            | refine r_call rfl (cf) ?_ | refine r_look (kt' := 9) rfl rfl rfl hl2 ?_ | refine r_eqsN rfl rfl heq ?_ | refine r_mv_p rfl ?_
            | refine r_do rfl (by first | with_reducible rfl | assumption | decide) ?_ | refine r_fad rfl rfl ?_ | refine r_add rfl rfl (by omega) ?_ | refine r_sub rfl rfl (by omega) ?_
            | refine r_loadAll rfl (by first | rfl | assumption) ?_ | refine r_loadAllB rfl rfl (by first | rfl | assumption) ?_
            | refine r_pick_t rfl (by first | with_reducible rfl | assumption | decide) rfl rfl ?_ | refine r_pick_f rfl (by first | with_reducible rfl | assumption | decide) rfl rfl ?_
            | refine r_sem rfl rfl rfl rfl ?_ | refine r_nil ?_ | refine r_iad rfl rfl (by omega) (by assumption) (by first | rfl | assumption | omega | (simp; done) | (simp; omega)) ?_
            | refine r_storeAll rfl rfl rfl rfl rfl rfl ?_ | refine r_alloc rfl ?_ | refine r_mv_mp rfl rfl ?_ | refine run_seq ?_ | refine run_reg ?_ | refine run_regd rfl ?_
            | refine run_block ?_ | refine run_skip ?_ | refine fin_seq ?_ | refine fin_blk ?_ | refine run_cond_f rfl (by first | with_reducible rfl | assumption | decide) ?_)
          refine fin_loop (run_weak (weak_S ?_ ?_) (ihk (k + 1) hlk (by omega)))
          · exact ⟨rfl, rfl, rfl, rfl, rfl, trivial⟩
          · exact ⟨rfl, rfl, trivial⟩
      · clear ihk
        repeat (first
          | refine r_mv_p rfl ?_ | refine r_add rfl rfl (by omega) ?_ | refine r_nil ?_ | refine run_reg ?_ | refine run_exit ?_ | refine fin_seq ?_ | refine fin_seq_e ?_ | refine fin_blk ?_
          | refine fin_blk_e ?_ | refine fin_loop_e ?_)
        refine fin_loop (run_weak (weak_S ?_ ?_) (ih (i + 1, n1, n2) ⟨hlt, hN⟩ (by simp only; omega)))
        · exact ⟨rfl, rfl, rfl, rfl, trivial⟩
        · exact ⟨rfl, rfl, trivial⟩
end Go.Fw
