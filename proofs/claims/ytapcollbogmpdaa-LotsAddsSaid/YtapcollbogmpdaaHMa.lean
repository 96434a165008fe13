/-
  The law LotsFits.
-/
import Derived.Test.YtapcollbogmpdaaHM
set_option linter.unusedVariables false
set_option linter.unusedSimpArgs false
set_option maxRecDepth 10000
namespace Go.Fw
open Go.Proofs

def itQ (x : Lot) (q : Quant) : Bool := decide (q.item = x.item) && decide (q.lot = x.code)
theorem any_take_succ9 {α : Type} (q : α → Bool) (xs : List α) (i : Nat) (hi : i < xs.length) : (xs.take (i + 1)).any q = ((xs.take i).any q || q xs[i]) := by
  rw [← List.take_append_getElem hi, List.any_append]; simp
set_option maxHeartbeats 16000000 in
theorem law_LotsFits (h : House) (x : Lot) : Ret Try.prog 12 [.agg h.enc, .agg x.enc] (.v (.bool true)) := by
  refine ret12 rfl fun hbd => ?_
  unfold c12
  repeat (first
    | refine r_call rfl (small_ok h) ?_ | refine r_mv_p rfl ?_ | refine r_loadAllB rfl rfl (by first | rfl | assumption) ?_ | refine r_sem rfl rfl rfl rfl ?_ | refine r_nil ?_
    | refine r_box rfl rfl rfl ?_ | refine run_seq ?_ | refine run_reg ?_ | refine fin_seq ?_)
  refine run_cond rfl (fun h1 => ?_) (fun h1 => ?_)
  · repeat (first
      | refine r_call rfl (awake9) ?_ | refine r_mv_p rfl ?_ | refine r_nil ?_ | refine run_seq ?_ | refine run_reg ?_ | refine run_ret ?_ | refine fin_seq ?_ | refine fin_seq_r ?_)
    exact fin_out rfl rfl
  have hs : h.small = true := by simpa using h1
  obtain ⟨l0, l1, l2, l3, l4, -⟩ := small_lens hs
  obtain ⟨⟨g, e⟩, hr⟩ : ∃ p, p = h.addLot x := ⟨_, rfl⟩
  have ca := addLot44 h x (by omega)
  rw [← hr] at ca
  replace ca : Ret Try.prog 44 _ (.tup [.agg g.enc, .v (.int .i64 e)]) := ca
  by_cases h0 : e = 0
  · subst h0
    obtain ⟨hg, hlen, hag, hday, hfit⟩ := addLot_yes hr.symm
    obtain ⟨g2, cb⟩ := out_of (addLot44 g x (by omega)) hag
    have cd := lotsDay g x.item x.code
    rw [hday] at cd
    have cf := lotsFits g x.item x.code 1
    have hl : (!decide ((((g.lots.xs.map Lot.enc).length : Nat) : Int) = (((h.lots.xs.map Lot.enc).length : Nat) : Int) + 1)) = false := by
      simp only [List.length_map]; rw [hlen]; simp
    have hb160 : (((h.lots.xs.map Lot.enc).length : Nat) : Int) ≤ 160 := by simp only [List.length_map]; omega
    obtain ⟨d, hd⟩ : ∃ d : Int, d = if x.expiry = 0 then 100001 else x.expiry := ⟨_, rfl⟩
    rw [← hd] at cd
    clear hday hag
    repeat (first
      | refine r_call rfl (ca) ?_ | refine r_mv_p rfl ?_ | refine r_fad rfl rfl ?_ | refine r_add rfl rfl (by omega) ?_ | refine r_loadAllB rfl rfl (by first | rfl | assumption) ?_
      | refine r_sem rfl rfl rfl rfl ?_ | refine r_nil ?_ | refine r_storeAll rfl rfl rfl rfl rfl rfl ?_ | refine r_alloc rfl ?_ | refine run_seq ?_ | refine run_reg ?_ | refine run_skip ?_
      | refine fin_seq ?_ | refine run_cond_f rfl (by first | with_reducible rfl | assumption | decide) ?_)
    refine run_join (S [(2, .own 2 0), (3, .own 3 0), (5, .own 5 0), (7, .p (.v (.int .i64 d)))] [(2, some (.box h.enc false)), (3, some (.box x.enc false)), (5, some (.box g.enc false))]) ?_ ?_
    · refine run_cond rfl (fun h5 => ?_) (fun h5 => ?_)
      · have hd' : (100001 : Int) = d := by rw [hd, if_pos (of_decide_eq_true h5)]
        repeat (first
          | refine r_mv_p rfl ?_ | refine r_nil ?_ | refine run_reg ?_)
        refine ⟨.inl ⟨rfl, weak_S ?_ ?_⟩⟩
        · exact ⟨rfl, rfl, rfl, ti rfl hd', trivial⟩
        · exact ⟨rfl, rfl, rfl, trivial⟩
      · have hd' : x.expiry = d := by rw [hd, if_neg (of_decide_eq_false h5)]
        repeat (first
          | refine run_skip ?_)
        refine ⟨.inl ⟨rfl, weak_S ?_ ?_⟩⟩
        · exact ⟨rfl, rfl, rfl, ti rfl hd', trivial⟩
        · exact ⟨rfl, rfl, rfl, trivial⟩
    clear hd
    repeat (first
      | refine r_mv_p rfl ?_ | refine r_nil ?_ | refine run_seq ?_ | refine run_reg ?_ | refine run_block ?_ | refine fin_seq ?_)
    refine run_weak (weak_S ?_ ?_) (run_inv (fun k : Nat => S [(2, .own 2 0), (3, .own 3 0), (5, .own 5 0), (7, .p (.v (.int .i64 d))), (8, .p (.v (.bool ((h.quants.xs.take k).any (itQ x))))), (9, .p (.v (.int .i64 (k : Nat))))] [(2, some (.box h.enc false)), (3, some (.box x.enc false)), (5, some (.box g.enc false))])
      (fun k => k ≤ h.quants.xs.length) (fun k => h.quants.xs.length - k) ?_ 0 (Nat.zero_le _))
    · exact ⟨rfl, rfl, rfl, rfl, rfl, rfl, trivial⟩
    · exact ⟨rfl, rfl, rfl, trivial⟩
    intro k hk ih
    repeat (first
      | refine r_mv_p rfl ?_ | refine r_fad rfl rfl ?_ | refine r_sem rfl rfl rfl rfl ?_ | refine r_nil ?_ | refine run_seq ?_ | refine run_reg ?_ | refine fin_seq ?_)
    refine run_cond rfl (fun h6 => ?_) (fun h6 => ?_)
    · have hlt : k < h.quants.xs.length := by simpa using h6
      have hq : (h.quants.xs.map Quant.enc)[k]? = some h.quants.xs[k].enc := by simp [hlt]
      have hst := any_take_succ9 (itQ x) h.quants.xs k hlt
      obtain ⟨q, hqe⟩ : ∃ q, q = h.quants.xs[k] := ⟨_, rfl⟩
      rw [← hqe] at hq hst
      obtain ⟨o, ho⟩ : ∃ o, o = (h.quants.xs.take k).any (itQ x) := ⟨_, rfl⟩
      rw [← ho] at hst ⊢
      cases o with
      | true =>
        repeat (first
          | refine r_mv_p rfl ?_ | refine r_skip rfl (by first | with_reducible rfl | assumption | decide) ?_ | refine r_skipU rfl ?_ | refine r_add rfl rfl (by omega) ?_
          | refine r_pick_t rfl (by first | with_reducible rfl | assumption | decide) rfl rfl ?_ | refine r_nil ?_ | refine run_seq ?_ | refine run_reg ?_ | refine run_regd rfl ?_
          | refine run_block ?_ | refine run_skip ?_ | refine fin_seq ?_ | refine fin_blk ?_)
        refine fin_loop (run_weak (weak_S ?_ ?_) (ih (k + 1) hlt (by omega)))
        · exact ⟨rfl, rfl, rfl, rfl, tb rfl (by rw [hst]; rfl), rfl, trivial⟩
        · exact ⟨rfl, rfl, rfl, trivial⟩
      | false =>
        cases hqb : decide (q.item = x.item) with
        | true =>
          repeat (first
            | refine r_mv_p rfl ?_ | refine r_do rfl (by first | with_reducible rfl | assumption | decide) ?_ | refine r_fad rfl rfl ?_ | refine r_add rfl rfl (by omega) ?_
            | refine r_pick_t rfl (by first | with_reducible rfl | assumption | decide) rfl rfl ?_ | refine r_pick_f rfl (by first | with_reducible rfl | assumption | decide) rfl rfl ?_
            | refine r_sem rfl rfl rfl rfl ?_ | refine r_nil ?_ | refine r_iad rfl rfl (by omega) (by assumption) (by first | rfl | assumption | omega | (simp; done) | (simp; omega)) ?_
            | refine run_seq ?_ | refine run_reg ?_ | refine run_regd rfl ?_ | refine run_block ?_ | refine run_skip ?_ | refine fin_seq ?_ | refine fin_blk ?_)
          refine fin_loop (run_weak (weak_S ?_ ?_) (ih (k + 1) hlt (by omega)))
          · exact ⟨rfl, rfl, rfl, rfl, tb rfl (by rw [hst, itQ, hqb]; rfl), rfl, trivial⟩
          · exact ⟨rfl, rfl, rfl, trivial⟩
        | false =>
          repeat (first
            | refine r_mv_p rfl ?_ | refine r_do rfl (by first | with_reducible rfl | assumption | decide) ?_ | refine r_skip rfl (by first | with_reducible rfl | assumption | decide) ?_
            | refine r_fad rfl rfl ?_ | refine r_add rfl rfl (by omega) ?_ | refine r_pick_f rfl (by first | with_reducible rfl | assumption | decide) rfl rfl ?_ | refine r_sem rfl rfl rfl rfl ?_
            | refine r_nil ?_ | refine r_iad rfl rfl (by omega) (by assumption) (by first | rfl | assumption | omega | (simp; done) | (simp; omega)) ?_ | refine run_seq ?_ | refine run_reg ?_
            | refine run_regd rfl ?_ | refine run_block ?_ | refine run_skip ?_ | refine fin_seq ?_ | refine fin_blk ?_)
          refine fin_loop (run_weak (weak_S ?_ ?_) (ih (k + 1) hlt (by omega)))
          · exact ⟨rfl, rfl, rfl, rfl, tb rfl (by rw [hst, itQ, hqb]; rfl), rfl, trivial⟩
          · exact ⟨rfl, rfl, rfl, trivial⟩
    · have hlt : k = h.quants.xs.length := by simp at h6; omega
      have hall : (h.quants.xs.take k).any (itQ x) = h.quants.xs.any (itQ x) := by rw [hlt, List.take_length]
      rw [hall]
      clear ih
      have hdd : decide (d = d) = true := by simp
      cases ht : h.quants.xs.any (itQ x) with
      | true =>
        repeat (first
          | refine r_call rfl (cb) ?_ | refine r_call rfl (cd) ?_ | refine r_call rfl (awake9) ?_ | refine r_mv_p rfl ?_
          | refine r_do rfl (by first | with_reducible rfl | assumption | decide) ?_ | refine r_skip rfl (by first | with_reducible rfl | assumption | decide) ?_ | refine r_fad rfl rfl ?_
          | refine r_loadAllB rfl rfl (by first | rfl | assumption) ?_ | refine r_pick_t rfl (by first | with_reducible rfl | assumption | decide) rfl rfl ?_ | refine r_sem rfl rfl rfl rfl ?_
          | refine r_nil ?_ | refine r_storeAll rfl rfl rfl rfl rfl rfl ?_ | refine r_alloc rfl ?_ | refine run_seq ?_ | refine run_reg ?_ | refine run_exit ?_ | refine run_ret ?_
          | refine fin_seq ?_ | refine fin_seq_e ?_ | refine fin_blk_e ?_ | refine fin_loop_e ?_)
        exact fin_out rfl rfl
      | false =>
        have hff : g.fits x.item x.code 1 = 0 := hfit fun q hq hc => by
          have := List.any_eq_false.1 ht q hq
          simp [itQ, hc.1, hc.2] at this
        rw [hff] at cf
        repeat (first
          | refine r_call rfl (cb) ?_ | refine r_call rfl (cf) ?_ | refine r_call rfl (cd) ?_ | refine r_call rfl (awake9) ?_ | refine r_mv_p rfl ?_
          | refine r_do rfl (by first | with_reducible rfl | assumption | decide) ?_ | refine r_fad rfl rfl ?_ | refine r_loadAllB rfl rfl (by first | rfl | assumption) ?_
          | refine r_pick_t rfl (by first | with_reducible rfl | assumption | decide) rfl rfl ?_ | refine r_pick_f rfl (by first | with_reducible rfl | assumption | decide) rfl rfl ?_
          | refine r_sem rfl rfl rfl rfl ?_ | refine r_nil ?_ | refine r_storeAll rfl rfl rfl rfl rfl rfl ?_ | refine r_alloc rfl ?_ | refine run_seq ?_ | refine run_reg ?_ | refine run_exit ?_
          | refine run_ret ?_ | refine fin_seq ?_ | refine fin_seq_e ?_ | refine fin_blk_e ?_ | refine fin_loop_e ?_)
        exact fin_out rfl rfl
  · have hg : g = House.zero := addLot_no hr.symm h0
    subst hg
    have hd : (!decide (e = 0)) = true := by simp [h0]
    repeat (first
      | refine r_call rfl (ca) ?_ | refine r_call rfl (awake9) ?_ | refine r_mv_p rfl ?_ | refine r_do rfl (by first | with_reducible rfl | assumption | decide) ?_ | refine r_fad rfl rfl ?_
      | refine r_loadAllB rfl rfl (by first | rfl | assumption) ?_ | refine r_pick_t rfl (by first | with_reducible rfl | assumption | decide) rfl rfl ?_ | refine r_sem rfl rfl rfl rfl ?_
      | refine r_nil ?_ | refine r_storeAll rfl rfl rfl rfl rfl rfl ?_ | refine r_alloc rfl ?_ | refine run_seq ?_ | refine run_reg ?_ | refine run_skip ?_ | refine run_ret ?_
      | refine fin_seq ?_ | refine fin_seq_r ?_ | refine run_cond_t rfl (by first | with_reducible rfl | assumption | decide) ?_)
    exact fin_out rfl rfl
end Go.Fw
