/-
  What a house is with an item.
-/
import Derived.Test.YtapcollbogmpdaaHJc
import Derived.Test.YtapcollbogmpdaaHJd
set_option linter.unusedVariables false
set_option linter.unusedSimpArgs false
set_option maxRecDepth 10000
namespace Go.Fw
open Go.Proofs

/-! ### What a house is with an item -/
set_option maxHeartbeats 4000000 in
theorem addItem36 (h : House) (x : Item) (hbig : (h.items.xs.length + 1) * 136 ≤ 140737488355328) : Ret Try.prog 36 [.agg h.enc, .agg x.enc] (houseOut (h.addItem x)) := by
  refine ret36 rfl fun hbd => ?_
  have hc := check41 x
  have hf := itemsFind h x.code
  have hp := put89 Item.enc (fun _ => rfl) 131 itemCmp items_order x h.items.xs h.items.sp hbig
  have hll : (h.items.xs.map Item.enc).length = h.items.xs.length := List.length_map ..
  unfold itemOut at hf
  unfold House.addItem
  unfold c36
  generalize (h.item? x.code).isSome = is at *
  generalize (h.item? x.code).getD Item.zero = it at *
  generalize x.check' = ce at *
  cases h1 : decide (ce = 0) with
  | false =>
    have h1' : (!decide (ce = 0)) = true := by rw [h1]; rfl
    rw [if_pos (show ce ≠ 0 from of_decide_eq_false h1)]
    repeat (first
      | refine r_call rfl (hc) ?_ | refine r_mv_p rfl ?_ | refine r_loadAllB rfl rfl (by first | rfl | assumption) ?_ | refine r_sem rfl rfl rfl rfl ?_ | refine r_nil ?_
      | refine r_storeAll rfl rfl rfl rfl rfl rfl ?_ | refine r_alloc rfl ?_ | refine r_box rfl rfl rfl ?_ | refine run_seq ?_ | refine run_reg ?_ | refine run_ret ?_ | refine fin_seq ?_
      | refine fin_seq_r ?_ | refine run_cond_t rfl (by first | with_reducible rfl | assumption | decide) ?_)
    exact fin_out rfl rfl
  | true =>
    have h1' : (!decide (ce = 0)) = false := by rw [h1]; rfl
    rw [if_neg (show ¬ ce ≠ 0 from fun e => e (of_decide_eq_true h1))]
    cases is with
    | true =>
      rw [if_pos rfl]
      repeat (first
        | refine r_call rfl (hc) ?_ | refine r_call rfl (hf) ?_ | refine r_mv_p rfl ?_ | refine r_fad rfl rfl ?_ | refine r_loadAllB rfl rfl (by first | rfl | assumption) ?_
        | refine r_sem rfl rfl rfl rfl ?_ | refine r_nil ?_ | refine r_storeAll rfl rfl rfl rfl rfl rfl ?_ | refine r_alloc rfl ?_ | refine r_box rfl rfl rfl ?_ | refine run_seq ?_
        | refine run_reg ?_ | refine run_skip ?_ | refine run_ret ?_ | refine fin_seq ?_ | refine fin_seq_r ?_ | refine run_cond_t rfl (by first | with_reducible rfl | assumption | decide) ?_
        | refine run_cond_f rfl (by first | with_reducible rfl | assumption | decide) ?_)
      exact fin_out rfl rfl
    | false =>
      rw [if_neg (by decide)]
      cases k5 : decide ((64 : Int) ≤ (((h.items.xs.map Item.enc).length : Nat) : Int)) with
      | true =>
        have k5' : 64 ≤ h.items.xs.length := by rw [hll] at k5; have := of_decide_eq_true k5; omega
        rw [if_pos k5']
        repeat (first
          | refine r_call rfl (hc) ?_ | refine r_call rfl (hf) ?_ | refine r_mv_p rfl ?_ | refine r_fad rfl rfl ?_ | refine r_loadAllB rfl rfl (by first | rfl | assumption) ?_
          | refine r_sem rfl rfl rfl rfl ?_ | refine r_nil ?_ | refine r_storeAll rfl rfl rfl rfl rfl rfl ?_ | refine r_alloc rfl ?_ | refine r_box rfl rfl rfl ?_ | refine run_seq ?_
          | refine run_reg ?_ | refine run_skip ?_ | refine run_ret ?_ | refine fin_seq ?_ | refine fin_seq_r ?_ | refine run_cond_t rfl (by first | with_reducible rfl | assumption | decide) ?_
          | refine run_cond_f rfl (by first | with_reducible rfl | assumption | decide) ?_)
        exact fin_out rfl rfl
      | false =>
        have k5' : ¬ 64 ≤ h.items.xs.length := by rw [hll] at k5; have := of_decide_eq_false k5; omega
        rw [if_neg k5']
        repeat (first
          | refine r_call rfl (hc) ?_ | refine r_call rfl (hf) ?_ | refine r_call rfl (rowsItems) ?_ | refine r_call rfl (hp) ?_ | refine r_mv_p rfl ?_ | refine r_fad rfl rfl ?_
          | refine r_loadAllB rfl rfl (by first | rfl | assumption) ?_ | refine r_sem rfl rfl rfl rfl ?_ | refine r_nil ?_ | refine r_storeAll rfl rfl rfl rfl rfl rfl ?_
          | refine r_store rfl rfl rfl rfl (And.intro rfl (Nat.le_of_ble_eq_true rfl)) ?_ | refine r_alloc rfl ?_ | refine r_box rfl rfl rfl ?_ | refine run_seq ?_ | refine run_reg ?_
          | refine run_regd rfl ?_ | refine run_skip ?_ | refine run_ret ?_ | refine fin_seq ?_ | refine run_cond_f rfl (by first | with_reducible rfl | assumption | decide) ?_)
        exact fin_out rfl rfl
set_option maxHeartbeats 4000000 in
theorem refAddItem37 (h : House) (x : Item) (hbig : (h.items.xs.length + 1) * 136 ≤ 140737488355328) : Ret Try.prog 37 [.agg h.enc, .agg x.enc] (houseOut (h.addItem x)) := by
  refine ret37 rfl fun hbd => ?_
  have hc := refCheck42 x
  have hf := refFindItem h x.code
  have hp := refwithItem h x hbig
  have hll : (h.items.xs.map Item.enc).length = h.items.xs.length := List.length_map ..
  unfold itemOut at hf
  unfold House.addItem
  unfold c37
  generalize (h.item? x.code).isSome = is at *
  generalize (h.item? x.code).getD Item.zero = it at *
  generalize x.check' = ce at *
  cases h1 : decide (ce = 0) with
  | false =>
    have h1' : (!decide (ce = 0)) = true := by rw [h1]; rfl
    rw [if_pos (show ce ≠ 0 from of_decide_eq_false h1)]
    repeat (first
      | refine r_call rfl (hc) ?_ | refine r_call rfl (hf) ?_ | refine r_mv_p rfl ?_ | refine r_skip rfl (by first | with_reducible rfl | assumption | decide) ?_ | refine r_fad rfl rfl ?_
      | refine r_loadAllB rfl rfl (by first | rfl | assumption) ?_ | refine r_pick_f rfl (by first | with_reducible rfl | assumption | decide) rfl rfl ?_ | refine r_sem rfl rfl rfl rfl ?_
      | refine r_nil ?_ | refine r_storeAll rfl rfl rfl rfl rfl rfl ?_ | refine r_alloc rfl ?_ | refine r_box rfl rfl rfl ?_ | refine run_seq ?_ | refine run_reg ?_ | refine run_skip ?_
      | refine run_ret ?_ | refine fin_seq ?_ | refine fin_seq_r ?_ | refine run_cond_t rfl (by first | with_reducible rfl | assumption | decide) ?_
      | refine run_cond_f rfl (by first | with_reducible rfl | assumption | decide) ?_)
    exact fin_out rfl rfl
  | true =>
    have h1' : (!decide (ce = 0)) = false := by rw [h1]; rfl
    rw [if_neg (show ¬ ce ≠ 0 from fun e => e (of_decide_eq_true h1))]
    cases is with
    | true =>
      rw [if_pos rfl]
      repeat (first
        | refine r_call rfl (hc) ?_ | refine r_call rfl (hf) ?_ | refine r_mv_p rfl ?_ | refine r_do rfl (by first | with_reducible rfl | assumption | decide) ?_
        | refine r_skip rfl (by first | with_reducible rfl | assumption | decide) ?_ | refine r_fad rfl rfl ?_ | refine r_loadAllB rfl rfl (by first | rfl | assumption) ?_
        | refine r_pick_t rfl (by first | with_reducible rfl | assumption | decide) rfl rfl ?_ | refine r_pick_f rfl (by first | with_reducible rfl | assumption | decide) rfl rfl ?_
        | refine r_sem rfl rfl rfl rfl ?_ | refine r_nil ?_ | refine r_storeAll rfl rfl rfl rfl rfl rfl ?_ | refine r_alloc rfl ?_ | refine r_box rfl rfl rfl ?_ | refine run_seq ?_
        | refine run_reg ?_ | refine run_skip ?_ | refine run_ret ?_ | refine fin_seq ?_ | refine fin_seq_r ?_ | refine run_cond_t rfl (by first | with_reducible rfl | assumption | decide) ?_
        | refine run_cond_f rfl (by first | with_reducible rfl | assumption | decide) ?_)
      exact fin_out rfl rfl
    | false =>
      rw [if_neg (by decide)]
      cases k5 : decide ((64 : Int) ≤ (((h.items.xs.map Item.enc).length : Nat) : Int)) with
      | true =>
        have k5' : 64 ≤ h.items.xs.length := by rw [hll] at k5; have := of_decide_eq_true k5; omega
        rw [if_pos k5']
        repeat (first
          | refine r_call rfl (hc) ?_ | refine r_call rfl (hf) ?_ | refine r_mv_p rfl ?_ | refine r_do rfl (by first | with_reducible rfl | assumption | decide) ?_ | refine r_fad rfl rfl ?_
          | refine r_loadAllB rfl rfl (by first | rfl | assumption) ?_ | refine r_pick_t rfl (by first | with_reducible rfl | assumption | decide) rfl rfl ?_ | refine r_sem rfl rfl rfl rfl ?_
          | refine r_nil ?_ | refine r_storeAll rfl rfl rfl rfl rfl rfl ?_ | refine r_alloc rfl ?_ | refine r_box rfl rfl rfl ?_ | refine run_seq ?_ | refine run_reg ?_ | refine run_skip ?_
          | refine run_ret ?_ | refine fin_seq ?_ | refine fin_seq_r ?_ | refine run_cond_t rfl (by first | with_reducible rfl | assumption | decide) ?_
          | refine run_cond_f rfl (by first | with_reducible rfl | assumption | decide) ?_)
        exact fin_out rfl rfl
      | false =>
        have k5' : ¬ 64 ≤ h.items.xs.length := by rw [hll] at k5; have := of_decide_eq_false k5; omega
        rw [if_neg k5']
        repeat (first
          | refine r_call rfl (hc) ?_ | refine r_call rfl (hf) ?_ | refine r_call rfl (hp) ?_ | refine r_mv_p rfl ?_ | refine r_do rfl (by first | with_reducible rfl | assumption | decide) ?_
          | refine r_fad rfl rfl ?_ | refine r_loadAllB rfl rfl (by first | rfl | assumption) ?_ | refine r_pick_t rfl (by first | with_reducible rfl | assumption | decide) rfl rfl ?_
          | refine r_sem rfl rfl rfl rfl ?_ | refine r_nil ?_ | refine r_storeAll rfl rfl rfl rfl rfl rfl ?_ | refine r_alloc rfl ?_ | refine r_box rfl rfl rfl ?_ | refine run_seq ?_
          | refine run_reg ?_ | refine run_skip ?_ | refine run_ret ?_ | refine fin_seq ?_ | refine run_cond_f rfl (by first | with_reducible rfl | assumption | decide) ?_)
        exact fin_out rfl rfl

/-! ### The chapter's examples -/
def nut7 : Item := { Item.zero with code := nut, u0 := ⟨#[98, 111, 120]⟩, f0 := 12, u1 := ⟨#[99, 97, 115, 101]⟩, f1 := 240, volume := 3, weight := 2 }
def nut7a : Item := { nut7 with u1 := ⟨#[98, 111, 120]⟩ }
def nut7b : Item := { nut7 with u0 := eachS }
def h7 : House := { House.zero with items := ⟨[nut7], []⟩ }
theorem nut73 : Ret Try.prog 73 [] (.agg nut7.enc) := by
  refine ret73 rfl fun hbd => ?_
  unfold c73
  repeat (first
    | refine r_sem rfl rfl rfl rfl ?_ | refine r_nil ?_ | refine r_storeAll rfl rfl rfl rfl rfl rfl ?_ | refine r_alloc rfl ?_ | refine run_seq ?_ | refine run_reg ?_ | refine run_ret ?_
    | refine fin_seq ?_)
  exact fin_out rfl rfl
theorem e7c : nut7.check' = 0 := rfl
theorem e7a : nut7a.check' = 11 := rfl
theorem e7b : nut7b.check' = 11 := rfl
theorem e7s : ({ Item.zero with serial := true } : Item).check' = 3 := rfl
theorem e7h : House.zero.addItem nut7 = (h7, 0) := rfl
theorem e7f : h7.item? nut = some nut7 := rfl
end Go.Fw
