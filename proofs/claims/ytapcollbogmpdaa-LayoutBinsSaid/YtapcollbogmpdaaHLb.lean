/-
  The law LayoutBins.
-/
import Derived.Test.YtapcollbogmpdaaHLa
set_option linter.unusedVariables false
set_option linter.unusedSimpArgs false
set_option maxRecDepth 10000
namespace Go.Fw
open Go.Proofs

theorem up_at {α : Type} {key : α → Str} {xs : List α} (hu : UpK key xs) {k : Nat} {y z : α} (hy : xs[k]? = some y) (hk : 0 < k) (hz : xs[k - 1]? = some z) : (!slt (key z) (key y)) = false := by
  obtain ⟨j1, j2⟩ := List.getElem?_eq_some_iff.1 hz
  obtain ⟨j3, j4⟩ := List.getElem?_eq_some_iff.1 hy
  have := List.pairwise_iff_getElem.1 hu (k - 1) k j1 j3 (by omega)
  rw [j2, j4] at this
  rw [this]; rfl
set_option maxHeartbeats 16000000 in
theorem law_LayoutBins (zs : List Zone) (bs : List Bin) (s1 s2 : List (List PV)) : Ret Try.prog 24 [.sl (zs.map Zone.enc) s1, .sl (bs.map Bin.enc) s2] (.v (.bool true)) := by
  refine ret24 rfl fun hbd => ?_
  have hbz : zs.length ≤ 9223372036854775807 := by
    have := hbd _ (List.mem_cons_self)
    simp only [PV.bd, PV.bd1, List.length_append, List.length_map, maxLen] at this
    omega
  have hbb : bs.length ≤ 9223372036854775807 := by
    have := hbd _ (List.mem_cons_of_mem _ (List.mem_cons_self))
    simp only [PV.bd, PV.bd1, List.length_append, List.length_map, maxLen] at this
    omega
  unfold c24
  repeat (first
    | refine r_mv_p rfl ?_ | refine r_nil ?_ | refine r_alloc rfl ?_ | refine run_seq ?_ | refine run_reg ?_ | refine run_block ?_ | refine fin_seq ?_)
  refine run_weak (weak_S ?_ ?_) (run_inv (fun q : Nat × House => S [(0, .p (.sl (zs.map Zone.enc) s1)), (1, .p (.sl (bs.map Bin.enc) s2)), (5, .own 5 0), (6, .p (.v (.int .i64 (q.1 : Nat))))] [(5, some (.box q.2.enc false))])
    (fun q => q.1 ≤ zs.length ∧ q.2.Grown) (fun q => zs.length - q.1) ?_ (0, House.zero) ⟨Nat.zero_le _, grown_zero⟩)
  · exact ⟨rfl, rfl, rfl, rfl, trivial⟩
  · exact ⟨rfl, trivial⟩
  rintro ⟨i, h⟩ ⟨hi, hw⟩ ih
  simp only at hi hw
  by_cases hin : i < zs.length ∧ i < 100
  · obtain ⟨hlt, h100⟩ := hin
    have k1 : decide ((i : Int) < (((zs.map Zone.enc).length : Nat) : Int)) = true := by simp [hlt]
    have k2 : decide ((i : Int) < 100) = true := by simp; omega
    have hx : (zs.map Zone.enc)[i]? = some zs[i].enc := by simp [hlt]
    obtain ⟨x, hxe⟩ : ∃ x, x = zs[i] := ⟨_, rfl⟩
    rw [← hxe] at hx
    obtain ⟨⟨g, e⟩, hr⟩ : ∃ p, p = h.addZone x := ⟨_, rfl⟩
    have hzl := hw.zlen
    have ca := addZone59 h x (by omega)
    rw [← hr] at ca
    replace ca : Ret Try.prog 59 _ (.tup [.agg g.enc, .v (.int .i64 e)]) := ca
    repeat (first
      | refine r_call rfl (ca) ?_ | refine r_mv_p rfl ?_ | refine r_do rfl (by first | with_reducible rfl | assumption | decide) ?_ | refine r_loadAll rfl (by first | rfl | assumption) ?_
      | refine r_loadAllB rfl rfl (by first | rfl | assumption) ?_ | refine r_pick_t rfl (by first | with_reducible rfl | assumption | decide) rfl rfl ?_ | refine r_sem rfl rfl rfl rfl ?_
      | refine r_nil ?_ | refine r_iad rfl rfl (by omega) (by assumption) (by first | rfl | assumption | omega | (simp; done) | (simp; omega)) ?_
      | refine r_storeAll rfl rfl rfl rfl rfl rfl ?_ | refine r_alloc rfl ?_ | refine run_seq ?_ | refine run_reg ?_ | refine run_regd rfl ?_ | refine run_block ?_ | refine run_skip ?_
      | refine fin_seq ?_ | refine run_cond_t rfl (by first | with_reducible rfl | assumption | decide) ?_)
    refine run_cond rfl (fun he => ?_) (fun he => ?_)
    · have he' : e = 0 := of_decide_eq_true he
      subst he'
      repeat (first
        | refine r_mv_p rfl ?_ | refine r_add rfl rfl (by omega) ?_ | refine r_loadAllB rfl rfl (by first | rfl | assumption) ?_ | refine r_nil ?_
        | refine r_storeAll rfl rfl rfl rfl rfl rfl ?_ | refine run_reg ?_ | refine fin_seq ?_ | refine fin_blk ?_)
      refine fin_loop (run_weak (weak_S ?_ ?_) (ih (i + 1, g) ⟨hlt, grown_zone hw hr.symm⟩ (by simp only; omega)))
      · exact ⟨rfl, rfl, rfl, rfl, trivial⟩
      · exact ⟨rfl, trivial⟩
    · repeat (first
        | refine r_mv_p rfl ?_ | refine r_add rfl rfl (by omega) ?_ | refine r_nil ?_ | refine run_reg ?_ | refine run_skip ?_ | refine fin_seq ?_ | refine fin_blk ?_)
      refine fin_loop (run_weak (weak_S ?_ ?_) (ih (i + 1, h) ⟨hlt, hw⟩ (by simp only; omega)))
      · exact ⟨rfl, rfl, rfl, rfl, trivial⟩
      · exact ⟨rfl, trivial⟩
  clear ih hbz
  have hstop : ∀ (b : Bool), decide ((i : Int) < (((zs.map Zone.enc).length : Nat) : Int)) = b → b = true → decide ((i : Int) < 100) = false := fun b h1 h2 => by
    subst h2
    have h3 : i < zs.length := by simpa using h1
    have : ¬ i < 100 := fun h4 => hin ⟨h3, h4⟩
    simp; omega
  refine run_weak (weak_S (l := [(0, .p (.sl (zs.map Zone.enc) s1)), (1, .p (.sl (bs.map Bin.enc) s2)), (5, .own 5 0), (6, .p (.v (.int .i64 (i : Nat))))]) (m := [(5, some (.box h.enc false))]) ⟨rfl, rfl, rfl, rfl, trivial⟩ ⟨rfl, trivial⟩) ?_
  repeat refine run_seq ?_
  refine run_reg ?_
  refine run_reg_join (S [(1, .p (.sl (bs.map Bin.enc) s2)), (5, .own 5 0), (24, .p (.v (.bool false)))] [(5, some (.box h.enc false))]) ?_ ?_
  · cases k1 : decide ((i : Int) < (((zs.map Zone.enc).length : Nat) : Int)) with
    | false =>
      repeat (first
        | refine r_mv_p rfl ?_ | refine r_skip rfl (by first | with_reducible rfl | assumption | decide) ?_
        | refine r_pick_f rfl (by first | with_reducible rfl | assumption | decide) rfl rfl ?_ | refine r_sem rfl rfl rfl rfl ?_ | refine r_nil ?_)
      exact ⟨weak_S ⟨rfl, rfl, rfl, trivial⟩ ⟨rfl, trivial⟩⟩
    | true =>
      have k2 := hstop _ k1 rfl
      repeat (first
        | refine r_mv_p rfl ?_ | refine r_do rfl (by first | with_reducible rfl | assumption | decide) ?_
        | refine r_pick_t rfl (by first | with_reducible rfl | assumption | decide) rfl rfl ?_ | refine r_sem rfl rfl rfl rfl ?_ | refine r_nil ?_)
      exact ⟨weak_S ⟨rfl, rfl, tb rfl k2, trivial⟩ ⟨rfl, trivial⟩⟩
  repeat (first
    | refine r_mv_p rfl ?_ | refine r_nil ?_ | refine run_seq ?_ | refine run_reg ?_ | refine run_block ?_ | refine run_exit ?_ | refine fin_seq ?_ | refine fin_seq_e ?_
    | refine fin_blk_e ?_ | refine fin_loop_e ?_ | refine run_cond_f rfl (by first | with_reducible rfl | assumption | decide) ?_)
  clear hstop hin hi
  refine run_weak (weak_S ?_ ?_) (run_inv (fun q : Nat × House => S [(1, .p (.sl (bs.map Bin.enc) s2)), (5, .own 5 0), (9, .p (.v (.int .i64 (q.1 : Nat))))] [(5, some (.box q.2.enc false))])
    (fun q => q.1 ≤ bs.length ∧ q.2.Grown) (fun q => bs.length - q.1) ?_ (0, h) ⟨Nat.zero_le _, hw⟩)
  · exact ⟨rfl, rfl, rfl, trivial⟩
  · exact ⟨rfl, trivial⟩
  clear hw
  rintro ⟨i, h⟩ ⟨hi, hw⟩ ih
  simp only at hi hw
  by_cases hin : i < bs.length ∧ i < 100
  · obtain ⟨hlt, h100⟩ := hin
    have k1 : decide ((i : Int) < (((bs.map Bin.enc).length : Nat) : Int)) = true := by simp [hlt]
    have k2 : decide ((i : Int) < 100) = true := by simp; omega
    have hx : (bs.map Bin.enc)[i]? = some bs[i].enc := by simp [hlt]
    obtain ⟨x, hxe⟩ : ∃ x, x = bs[i] := ⟨_, rfl⟩
    rw [← hxe] at hx
    obtain ⟨⟨g, e⟩, hr⟩ : ∃ p, p = h.addBin x := ⟨_, rfl⟩
    have hbl := hw.blen
    have ca := addBin61 h x (by omega)
    rw [← hr] at ca
    replace ca : Ret Try.prog 61 _ (.tup [.agg g.enc, .v (.int .i64 e)]) := ca
    repeat (first
      | refine r_call rfl (ca) ?_ | refine r_mv_p rfl ?_ | refine r_do rfl (by first | with_reducible rfl | assumption | decide) ?_ | refine r_loadAll rfl (by first | rfl | assumption) ?_
      | refine r_loadAllB rfl rfl (by first | rfl | assumption) ?_ | refine r_pick_t rfl (by first | with_reducible rfl | assumption | decide) rfl rfl ?_ | refine r_sem rfl rfl rfl rfl ?_
      | refine r_nil ?_ | refine r_iad rfl rfl (by omega) (by assumption) (by first | rfl | assumption | omega | (simp; done) | (simp; omega)) ?_
      | refine r_storeAll rfl rfl rfl rfl rfl rfl ?_ | refine r_alloc rfl ?_ | refine run_seq ?_ | refine run_reg ?_ | refine run_regd rfl ?_ | refine run_block ?_ | refine run_skip ?_
      | refine fin_seq ?_ | refine run_cond_t rfl (by first | with_reducible rfl | assumption | decide) ?_)
    refine run_cond rfl (fun he => ?_) (fun he => ?_)
    · have he' : e = 0 := of_decide_eq_true he
      subst he'
      repeat (first
        | refine r_mv_p rfl ?_ | refine r_add rfl rfl (by omega) ?_ | refine r_loadAllB rfl rfl (by first | rfl | assumption) ?_ | refine r_nil ?_
        | refine r_storeAll rfl rfl rfl rfl rfl rfl ?_ | refine run_reg ?_ | refine fin_seq ?_ | refine fin_blk ?_)
      refine fin_loop (run_weak (weak_S ?_ ?_) (ih (i + 1, g) ⟨hlt, grown_bin hw hr.symm⟩ (by simp only; omega)))
      · exact ⟨rfl, rfl, rfl, trivial⟩
      · exact ⟨rfl, trivial⟩
    · repeat (first
        | refine r_mv_p rfl ?_ | refine r_add rfl rfl (by omega) ?_ | refine r_nil ?_ | refine run_reg ?_ | refine run_skip ?_ | refine fin_seq ?_ | refine fin_blk ?_)
      refine fin_loop (run_weak (weak_S ?_ ?_) (ih (i + 1, h) ⟨hlt, hw⟩ (by simp only; omega)))
      · exact ⟨rfl, rfl, rfl, trivial⟩
      · exact ⟨rfl, trivial⟩
  clear ih hbb
  have hstop : ∀ (b : Bool), decide ((i : Int) < (((bs.map Bin.enc).length : Nat) : Int)) = b → b = true → decide ((i : Int) < 100) = false := fun b h1 h2 => by
    subst h2
    have h3 : i < bs.length := by simpa using h1
    have : ¬ i < 100 := fun h4 => hin ⟨h3, h4⟩
    simp; omega
  refine run_weak (weak_S (l := [(1, .p (.sl (bs.map Bin.enc) s2)), (5, .own 5 0), (9, .p (.v (.int .i64 (i : Nat))))]) (m := [(5, some (.box h.enc false))]) ⟨rfl, rfl, rfl, trivial⟩ ⟨rfl, trivial⟩) ?_
  repeat refine run_seq ?_
  refine run_reg ?_
  refine run_reg_join (S [(5, .own 5 0), (46, .p (.v (.bool false)))] [(5, some (.box h.enc false))]) ?_ ?_
  · cases k1 : decide ((i : Int) < (((bs.map Bin.enc).length : Nat) : Int)) with
    | false =>
      repeat (first
        | refine r_mv_p rfl ?_ | refine r_skip rfl (by first | with_reducible rfl | assumption | decide) ?_
        | refine r_pick_f rfl (by first | with_reducible rfl | assumption | decide) rfl rfl ?_ | refine r_sem rfl rfl rfl rfl ?_ | refine r_nil ?_)
      exact ⟨weak_S ⟨rfl, rfl, trivial⟩ ⟨rfl, trivial⟩⟩
    | true =>
      have k2 := hstop _ k1 rfl
      repeat (first
        | refine r_mv_p rfl ?_ | refine r_do rfl (by first | with_reducible rfl | assumption | decide) ?_
        | refine r_pick_t rfl (by first | with_reducible rfl | assumption | decide) rfl rfl ?_ | refine r_sem rfl rfl rfl rfl ?_ | refine r_nil ?_)
      exact ⟨weak_S ⟨rfl, tb rfl k2, trivial⟩ ⟨rfl, trivial⟩⟩
  clear hstop hin hi
  have hzl := hw.zlen
  have hbl := hw.blen
  have m1 : decide ((16 : Int) < (((h.zones.xs.map Zone.enc).length : Nat) : Int)) = false := by simp; omega
  have m2 : decide ((64 : Int) < (((h.bins.xs.map Bin.enc).length : Nat) : Int)) = false := by simp; omega
  repeat (first
    | refine r_mv_p rfl ?_ | refine r_do rfl (by first | with_reducible rfl | assumption | decide) ?_ | refine r_fad rfl rfl ?_
    | refine r_pick_f rfl (by first | with_reducible rfl | assumption | decide) rfl rfl ?_ | refine r_sem rfl rfl rfl rfl ?_ | refine r_nil ?_ | refine run_seq ?_ | refine run_reg ?_
    | refine run_block ?_ | refine run_skip ?_ | refine run_exit ?_ | refine fin_seq ?_ | refine fin_seq_e ?_ | refine fin_blk_e ?_ | refine fin_loop_e ?_
    | refine run_cond_f rfl (by first | with_reducible rfl | assumption | decide) ?_)
  refine run_weak (weak_S ?_ ?_) (run_inv (fun k : Nat => S [(5, .own 5 0), (12, .p (.v (.int .i64 (k : Nat))))] [(5, some (.box h.enc false))])
    (fun k => k ≤ h.bins.xs.length) (fun k => h.bins.xs.length - k) ?_ 0 (Nat.zero_le _))
  · exact ⟨rfl, rfl, trivial⟩
  · exact ⟨rfl, trivial⟩
  intro k hk ih
  repeat (first
    | refine r_mv_p rfl ?_ | refine r_fad rfl rfl ?_ | refine r_sem rfl rfl rfl rfl ?_ | refine r_nil ?_ | refine run_seq ?_ | refine run_reg ?_ | refine fin_seq ?_)
  refine run_cond rfl (fun h3 => ?_) (fun h3 => ?_)
  · have hlk : k < h.bins.xs.length := by simpa using h3
    have hyk : (h.bins.xs.map Bin.enc)[k]? = some h.bins.xs[k].enc := by simp [hlk]
    obtain ⟨y, hy⟩ : ∃ y, y = h.bins.xs[k] := ⟨_, rfl⟩
    have hy0 : h.bins.xs[k]? = some y := by rw [hy]; simp [hlk]
    rw [← hy] at hyk
    obtain ⟨g1, g2, ⟨g3, g4⟩, g5, g6⟩ := hw.good y (by rw [hy]; exact List.getElem_mem _)
    have cz := refFindZone h y.zone
    unfold zoneOut at cz
    rw [g1] at cz
    have d3 : decide (y.kind < 1) = false := by simp; omega
    have d4 : decide ((4 : Int) < y.kind) = false := by simp; omega
    have d5 : decide (y.volume < 0) = false := by simp; omega
    have d6 : decide (y.weight < 0) = false := by simp; omega
    cases k4 : decide ((0 : Int) < (k : Int)) with
    | false =>
      repeat (first
        | refine r_call rfl (cz) ?_ | refine r_mv_p rfl ?_ | refine r_do rfl (by first | with_reducible rfl | assumption | decide) ?_
        | refine r_skip rfl (by first | with_reducible rfl | assumption | decide) ?_ | refine r_fad rfl rfl ?_ | refine r_add rfl rfl (by omega) ?_
        | refine r_loadAll rfl (by first | rfl | assumption) ?_ | refine r_loadAllB rfl rfl (by first | rfl | assumption) ?_
        | refine r_pick_f rfl (by first | with_reducible rfl | assumption | decide) rfl rfl ?_ | refine r_sem rfl rfl rfl rfl ?_ | refine r_nil ?_
        | refine r_iad rfl rfl (by omega) (by assumption) (by first | rfl | assumption | omega | (simp; done) | (simp; omega)) ?_ | refine r_storeAll rfl rfl rfl rfl rfl rfl ?_
        | refine r_alloc rfl ?_ | refine run_seq ?_ | refine run_reg ?_ | refine run_regd rfl ?_ | refine run_block ?_ | refine run_skip ?_ | refine fin_seq ?_ | refine fin_blk ?_
        | refine run_cond_f rfl (by first | with_reducible rfl | assumption | decide) ?_)
      refine fin_loop (run_weak (weak_S ?_ ?_) (ih (k + 1) hlk (by omega)))
      · exact ⟨rfl, rfl, trivial⟩
      · exact ⟨rfl, trivial⟩
    | true =>
      have hk0 : 0 < k := by simpa using k4
      obtain ⟨z, hz⟩ : ∃ z, h.bins.xs[k - 1]? = some z := ⟨_, List.getElem?_eq_getElem (by omega)⟩
      have hzk : (h.bins.xs.map Bin.enc)[((k : Int) - 1).toNat]? = some z.enc := by
        rw [show ((k : Int) - 1).toNat = k - 1 by omega, List.getElem?_map, hz]; rfl
      have hlt2 := up_at hw.bup hy0 hk0 hz
      repeat (first
        | refine r_call rfl (cz) ?_ | refine r_mv_p rfl ?_ | refine r_do rfl (by first | with_reducible rfl | assumption | decide) ?_ | refine r_fad rfl rfl ?_
        | refine r_add rfl rfl (by omega) ?_ | refine r_sub rfl rfl (by omega) ?_ | refine r_loadAll rfl (by first | rfl | assumption) ?_
        | refine r_loadAllB rfl rfl (by first | rfl | assumption) ?_ | refine r_pick_t rfl (by first | with_reducible rfl | assumption | decide) rfl rfl ?_
        | refine r_pick_f rfl (by first | with_reducible rfl | assumption | decide) rfl rfl ?_ | refine r_sem rfl rfl rfl rfl ?_ | refine r_nil ?_
        | refine r_iad rfl rfl (by omega) (by assumption) (by first | rfl | assumption | omega | (simp; done) | (simp; omega)) ?_ | refine r_storeAll rfl rfl rfl rfl rfl rfl ?_
        | refine r_alloc rfl ?_ | refine run_seq ?_ | refine run_reg ?_ | refine run_regd rfl ?_ | refine run_block ?_ | refine run_skip ?_ | refine fin_seq ?_ | refine fin_blk ?_
        | refine run_cond_f rfl (by first | with_reducible rfl | assumption | decide) ?_)
      refine fin_loop (run_weak (weak_S ?_ ?_) (ih (k + 1) hlk (by omega)))
      · exact ⟨rfl, rfl, trivial⟩
      · exact ⟨rfl, trivial⟩
  clear ih m1 m2
  repeat (first
    | refine r_mv_p rfl ?_ | refine r_nil ?_ | refine run_seq ?_ | refine run_reg ?_ | refine run_block ?_ | refine run_exit ?_ | refine fin_seq ?_ | refine fin_seq_e ?_
    | refine fin_blk_e ?_ | refine fin_loop_e ?_)
  refine run_weak (weak_S ?_ ?_) (run_inv (fun k : Nat => S [(5, .own 5 0), (16, .p (.v (.int .i64 (k : Nat))))] [(5, some (.box h.enc false))])
    (fun k => 1 ≤ k) (fun k => h.zones.xs.length - k) ?_ 1 (Nat.le_refl _))
  · exact ⟨rfl, rfl, trivial⟩
  · exact ⟨rfl, trivial⟩
  intro k hk ih
  repeat (first
    | refine r_mv_p rfl ?_ | refine r_fad rfl rfl ?_ | refine r_sem rfl rfl rfl rfl ?_ | refine r_nil ?_ | refine run_seq ?_ | refine run_reg ?_ | refine fin_seq ?_)
  refine run_cond rfl (fun h3 => ?_) (fun h3 => ?_)
  · have hlk : k < h.zones.xs.length := by simpa using h3
    have hyk : (h.zones.xs.map Zone.enc)[k]? = some h.zones.xs[k].enc := by simp [hlk]
    obtain ⟨y, hy⟩ : ∃ y, y = h.zones.xs[k] := ⟨_, rfl⟩
    have hy0 : h.zones.xs[k]? = some y := by rw [hy]; simp [hlk]
    rw [← hy] at hyk
    obtain ⟨z, hz⟩ : ∃ z, h.zones.xs[k - 1]? = some z := ⟨_, List.getElem?_eq_getElem (by omega)⟩
    have hzk : (h.zones.xs.map Zone.enc)[((k : Int) - 1).toNat]? = some z.enc := by
      rw [show ((k : Int) - 1).toNat = k - 1 by omega, List.getElem?_map, hz]; rfl
    have hlt2 := up_at hw.zup hy0 (by omega) hz
    repeat (first
      | refine r_mv_p rfl ?_ | refine r_fad rfl rfl ?_ | refine r_add rfl rfl (by omega) ?_ | refine r_sub rfl rfl (by omega) ?_ | refine r_sem rfl rfl rfl rfl ?_ | refine r_nil ?_
      | refine r_iad rfl rfl (by omega) (by assumption) (by first | rfl | assumption | omega | (simp; done) | (simp; omega)) ?_ | refine run_seq ?_ | refine run_reg ?_
      | refine run_regd rfl ?_ | refine run_block ?_ | refine run_skip ?_ | refine fin_seq ?_ | refine fin_blk ?_
      | refine run_cond_f rfl (by first | with_reducible rfl | assumption | decide) ?_)
    refine fin_loop (run_weak (weak_S ?_ ?_) (ih (k + 1) (by omega) (by omega)))
    · exact ⟨rfl, rfl, trivial⟩
    · exact ⟨rfl, trivial⟩
  · clear ih
    repeat (first
      | refine r_call rfl (awake10) ?_ | refine r_mv_p rfl ?_ | refine r_nil ?_ | refine run_seq ?_ | refine run_reg ?_ | refine run_exit ?_ | refine run_ret ?_ | refine fin_seq ?_
      | refine fin_seq_e ?_ | refine fin_blk_e ?_ | refine fin_loop_e ?_)
    exact fin_out rfl rfl
end Go.Fw
