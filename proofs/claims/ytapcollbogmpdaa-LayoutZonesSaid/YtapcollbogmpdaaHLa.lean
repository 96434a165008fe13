/-
  The laws of the layout that hold the program against the document.
-/
import Derived.Test.YtapcollbogmpdaaHS
import Derived.Test.YtapcollbogmpdaaHYb
import Derived.Test.YtapcollbogmpdaaIrG
set_option linter.unusedVariables false
set_option linter.unusedSimpArgs false
set_option maxRecDepth 10000
namespace Go.Fw
open Go.Proofs

theorem r_eqsE {P : Program} {Q : Ex → St → Prop} {ks : List Kf} {rs : List RG} {l : List (Nat × T)} {m : List (Nat × Option Own)} {d : Nat} {cks : List Ck} {x y : Opd} {a b : List PV} (hx : (S l m).ev x = .p (.agg a)) (hy : (S l m).ev y = .p (.agg b)) (he : cellsEq cks a b = some true)
    (h : RunR P Q ks rs (S ((d, .p (.v (.bool true))) :: l) m)) : RunR P Q ks (⟨some d, .eqs false cks, [x, y], none⟩ :: rs) (S l m) :=
  r_sem («as» := [.p (.agg a), .p (.agg b)]) rfl (by simp only [St.resL, St.res, hx, hy, lookT]; rfl) (by simp only [sem, he, Option.map_some]; rfl) rfl h
/-! ### The chapter's examples -/
def z10 : Zone := ⟨⟨#[122]⟩, ⟨#[115]⟩⟩
def b10 : Bin := { Bin.zero with code := ⟨#[98]⟩, zone := ⟨#[122]⟩, kind := 1 }
def b10y : Bin := { Bin.zero with code := ⟨#[98]⟩, zone := ⟨#[121]⟩, kind := 1 }
def h10 : House := { House.zero with zones := ⟨[z10], []⟩ }
def g10 : House := { House.zero with zones := ⟨[z10], []⟩, bins := ⟨[b10], []⟩ }
def k10 : House := { House.zero with zones := ⟨[z10], []⟩, bins := ⟨[{ b10 with frozen := true }], []⟩ }
theorem put_one {α : Type} {cmp : α → α → Int} {x y : α} (h : cmp y x = 0) : putL cmp x [y] = [x] := by
  have hf : findB (eqQ cmp x) [y] = true := by simp [findB, firstI, eqQ, h]
  unfold putL
  rw [if_pos hf]
  simp [findI, firstI, eqQ, h]
theorem e10a : House.zero.addZone z10 = (h10, 0) := rfl
theorem e10b : h10.addBin b10 = (g10, 0) := rfl
theorem e10c : (h10.addBin b10y).2 = 12 := rfl
theorem e10d : g10.freeze ⟨#[98]⟩ true = (k10, 0) := by
  have h : putL binCmp { b10 with frozen := true } [b10] = [{ b10 with frozen := true }] := put_one ((bin0 _ _).2 rfl)
  show (g10.withBin { b10 with frozen := true }, (0 : Int)) = (k10, 0)
  unfold House.withBin
  show (({ House.zero with zones := ⟨[z10], []⟩, bins := ⟨putL binCmp { b10 with frozen := true } [b10], []⟩ } : House), (0 : Int)) = (k10, 0)
  rw [h]; rfl
theorem e10e : (k10.freeze ⟨#[98]⟩ true).2 = 25 := rfl
theorem e10f : k10.freeze ⟨#[98]⟩ false = (g10, 0) := by
  have h : putL binCmp b10 [{ b10 with frozen := true }] = [b10] := put_one ((bin0 _ _).2 rfl)
  show (k10.withBin b10, (0 : Int)) = (g10, 0)
  unfold House.withBin
  show (({ House.zero with zones := ⟨[z10], []⟩, bins := ⟨putL binCmp b10 [{ b10 with frozen := true }], []⟩ } : House), (0 : Int)) = (g10, 0)
  rw [h]; rfl
theorem e10i : (g10.freeze ⟨#[98]⟩ false).2 = 13 := rfl
theorem e10s : g10.siteOf ⟨#[98]⟩ = ⟨#[115]⟩ := rfl
set_option maxHeartbeats 4000000 in
theorem awake10 : Ret Try.prog 58 [] (.v (.bool true)) := by
  refine ret58 rfl fun hbd => ?_
  have ca := out_is (addZone59 House.zero z10 (by decide)) e10a
  have cb := out_is (addBin61 h10 b10 (by decide)) e10b
  obtain ⟨g3, cc⟩ := out_of (addBin61 h10 b10y (by decide)) e10c
  have cd := out_is (freeze65 g10 ⟨#[98]⟩ true (by decide)) e10d
  obtain ⟨g5, ce⟩ := out_of (freeze65 k10 ⟨#[98]⟩ true (by decide)) e10e
  have cf := out_is (freeze65 k10 ⟨#[98]⟩ false (by decide)) e10f
  obtain ⟨g7, ci⟩ := out_of (freeze65 g10 ⟨#[98]⟩ false (by decide)) e10i
  have cs := site67 g10 ⟨#[98]⟩
  rw [e10s] at cs
  unfold c58
  repeat (first
    | refine r_call rfl (ca) ?_ | refine r_call rfl (cb) ?_ | refine r_call rfl (cc) ?_ | refine r_call rfl (cd) ?_ | refine r_call rfl (ce) ?_ | refine r_call rfl (cf) ?_
    | refine r_call rfl (ci) ?_ | refine r_call rfl (cs) ?_ | refine r_mv_p rfl ?_ | refine r_do rfl (by first | with_reducible rfl | assumption | decide) ?_
    | refine r_loadAllB rfl rfl (by first | rfl | assumption) ?_ | refine r_pick_t rfl (by first | with_reducible rfl | assumption | decide) rfl rfl ?_ | refine r_sem rfl rfl rfl rfl ?_
    | refine r_nil ?_ | refine r_storeAll rfl rfl rfl rfl rfl rfl ?_ | refine r_alloc rfl ?_ | refine run_seq ?_ | refine run_reg ?_ | refine run_ret ?_ | refine fin_seq ?_)
  exact fin_out rfl rfl

theorem law_LayoutZones (h : House) (hx : h.Ok) (z : Zone) : Ret Try.prog 25 [.agg h.enc, .agg z.enc] (.v (.bool true)) := by
  refine ret25 rfl fun hbd => ?_
  unfold c25
  repeat (first
    | refine r_call rfl (small_ok h) ?_ | refine r_mv_p rfl ?_ | refine r_loadAllB rfl rfl (by first | rfl | assumption) ?_ | refine r_sem rfl rfl rfl rfl ?_ | refine r_nil ?_
    | refine r_box rfl rfl rfl ?_ | refine run_seq ?_ | refine run_reg ?_ | refine fin_seq ?_)
  refine run_cond rfl (fun h1 => ?_) (fun h1 => ?_)
  · repeat (first
      | refine r_call rfl (awake10) ?_ | refine r_mv_p rfl ?_ | refine r_nil ?_ | refine run_seq ?_ | refine run_reg ?_ | refine run_ret ?_ | refine fin_seq ?_ | refine fin_seq_r ?_)
    exact fin_out rfl rfl
  have hs : h.small = true := by simpa using h1
  obtain ⟨l0, l1, l2, l3, l4, -⟩ := small_lens hs
  obtain ⟨g, k, e, c1, c2, c3⟩ := two (addZone59 h.lent z (show (h.zones.xs.length + 1) * 32 ≤ _ by omega)) (refAddZone60 h z (by omega)) (addZone_same (SameH.lent h) z) (addZone_ok (House.lent_ok hx) z)
  have ck := kept_ok h hx hs
  have he : decide (e = e) = true := by simp
  clear l0 l1 l2 l3 l4
  repeat (first
    | refine r_call rfl (lent_ok h hx hs) ?_ | refine r_call rfl (c1) ?_ | refine r_call rfl (c2) ?_ | refine r_call rfl (c3) ?_ | refine r_call rfl (ck) ?_
    | refine r_call rfl (awake10) ?_ | refine r_mv_p rfl ?_ | refine r_do rfl (by first | with_reducible rfl | assumption | decide) ?_
    | refine r_loadAllB rfl rfl (by first | rfl | assumption) ?_ | refine r_pick_t rfl (by first | with_reducible rfl | assumption | decide) rfl rfl ?_ | refine r_sem rfl rfl rfl rfl ?_
    | refine r_nil ?_ | refine r_storeAll rfl rfl rfl rfl rfl rfl ?_ | refine r_alloc rfl ?_ | refine run_seq ?_ | refine run_reg ?_ | refine run_skip ?_ | refine run_ret ?_
    | refine fin_seq ?_)
  exact fin_out rfl rfl
theorem law_LayoutFreeze (h : House) (hx : h.Ok) (c : Str) (on : Bool) : Ret Try.prog 26 [.agg h.enc, .v (.string c), .v (.bool on)] (.v (.bool true)) := by
  refine ret26 rfl fun hbd => ?_
  unfold c26
  repeat (first
    | refine r_call rfl (small_ok h) ?_ | refine r_mv_p rfl ?_ | refine r_loadAllB rfl rfl (by first | rfl | assumption) ?_ | refine r_sem rfl rfl rfl rfl ?_ | refine r_nil ?_
    | refine r_box rfl rfl rfl ?_ | refine run_seq ?_ | refine run_reg ?_ | refine fin_seq ?_)
  refine run_cond rfl (fun h1 => ?_) (fun h1 => ?_)
  · repeat (first
      | refine r_call rfl (awake10) ?_ | refine r_mv_p rfl ?_ | refine r_nil ?_ | refine run_seq ?_ | refine run_reg ?_ | refine run_ret ?_ | refine fin_seq ?_ | refine fin_seq_r ?_)
    exact fin_out rfl rfl
  have hs : h.small = true := by simpa using h1
  obtain ⟨l0, l1, l2, l3, l4, -⟩ := small_lens hs
  obtain ⟨g, k, e, c1, c2, c3⟩ := two (freeze65 h.lent c on (show (h.bins.xs.length + 1) * 80 ≤ _ by omega)) (refFreeze66 h c on (by omega)) (freeze_same (SameH.lent h) c on) (freeze_ok (House.lent_ok hx) c on)
  have ck := kept_ok h hx hs
  have he : decide (e = e) = true := by simp
  clear l0 l1 l2 l3 l4
  repeat (first
    | refine r_call rfl (lent_ok h hx hs) ?_ | refine r_call rfl (c1) ?_ | refine r_call rfl (c2) ?_ | refine r_call rfl (c3) ?_ | refine r_call rfl (ck) ?_
    | refine r_call rfl (awake10) ?_ | refine r_mv_p rfl ?_ | refine r_do rfl (by first | with_reducible rfl | assumption | decide) ?_
    | refine r_loadAllB rfl rfl (by first | rfl | assumption) ?_ | refine r_pick_t rfl (by first | with_reducible rfl | assumption | decide) rfl rfl ?_ | refine r_sem rfl rfl rfl rfl ?_
    | refine r_nil ?_ | refine r_storeAll rfl rfl rfl rfl rfl rfl ?_ | refine r_alloc rfl ?_ | refine run_seq ?_ | refine run_reg ?_ | refine run_skip ?_ | refine run_ret ?_
    | refine fin_seq ?_)
  exact fin_out rfl rfl
theorem law_LayoutSites (h : House) (c : Str) : Ret Try.prog 27 [.agg h.enc, .v (.string c)] (.v (.bool true)) := by
  refine ret27 rfl fun hbd => ?_
  unfold c27
  repeat (first
    | refine r_call rfl (small_ok h) ?_ | refine r_mv_p rfl ?_ | refine r_loadAllB rfl rfl (by first | rfl | assumption) ?_ | refine r_sem rfl rfl rfl rfl ?_ | refine r_nil ?_
    | refine r_box rfl rfl rfl ?_ | refine run_seq ?_ | refine run_reg ?_ | refine fin_seq ?_)
  refine run_cond rfl (fun h1 => ?_) (fun h1 => ?_)
  · repeat (first
      | refine r_call rfl (awake10) ?_ | refine r_mv_p rfl ?_ | refine r_nil ?_ | refine run_seq ?_ | refine run_reg ?_ | refine run_ret ?_ | refine fin_seq ?_ | refine fin_seq_r ?_)
    exact fin_out rfl rfl
  have he : decide (h.siteOf c = h.siteOf c) = true := by simp
  repeat (first
    | refine r_call rfl (site67 h c) ?_ | refine r_call rfl (refSite68 h c) ?_ | refine r_call rfl (awake10) ?_ | refine r_mv_p rfl ?_
    | refine r_do rfl (by first | with_reducible rfl | assumption | decide) ?_ | refine r_loadAllB rfl rfl (by first | rfl | assumption) ?_
    | refine r_pick_t rfl (by first | with_reducible rfl | assumption | decide) rfl rfl ?_ | refine r_sem rfl rfl rfl rfl ?_ | refine r_nil ?_ | refine run_seq ?_ | refine run_regd rfl ?_
    | refine run_skip ?_ | refine run_ret ?_ | refine fin_seq ?_)
  exact fin_out rfl rfl
set_option maxHeartbeats 4000000 in
theorem law_LayoutAdds (h : House) (hx : h.Ok) (z : Zone) (b : Bin) : Ret Try.prog 21 [.agg h.enc, .agg z.enc, .agg b.enc] (.v (.bool true)) := by
  refine ret21 rfl fun hbd => ?_
  unfold c21
  repeat (first
    | refine r_call rfl (small_ok h) ?_ | refine r_mv_p rfl ?_ | refine r_loadAllB rfl rfl (by first | rfl | assumption) ?_ | refine r_sem rfl rfl rfl rfl ?_ | refine r_nil ?_
    | refine r_box rfl rfl rfl ?_ | refine run_seq ?_ | refine run_reg ?_ | refine fin_seq ?_)
  refine run_cond rfl (fun h1 => ?_) (fun h1 => ?_)
  · repeat (first
      | refine r_call rfl (awake10) ?_ | refine r_mv_p rfl ?_ | refine r_nil ?_ | refine run_seq ?_ | refine run_reg ?_ | refine run_ret ?_ | refine fin_seq ?_ | refine fin_seq_r ?_)
    exact fin_out rfl rfl
  have hs : h.small = true := by simpa using h1
  obtain ⟨l0, l1, l2, l3, l4, -⟩ := small_lens hs
  obtain ⟨g, k, e, c1, c2, c3⟩ := two (addZone59 h.lent z (show (h.zones.xs.length + 1) * 32 ≤ _ by omega)) (refAddZone60 h z (by omega)) (addZone_same (SameH.lent h) z) (addZone_ok (House.lent_ok hx) z)
  obtain ⟨g', k', e', c1', c2', c3'⟩ := two (addBin61 h.lent b (show (h.bins.xs.length + 1) * 80 ≤ _ by omega)) (refAddBin62 h b (by omega)) (addBin_same (SameH.lent h) b) (addBin_ok (House.lent_ok hx) b)
  have ck := kept_ok h hx hs
  have he : decide (e = e) = true := by simp
  have he' : decide (e' = e') = true := by simp
  clear l0 l1 l2 l3 l4
  repeat (first
    | refine r_call rfl (lent_ok h hx hs) ?_ | refine r_call rfl (c1) ?_ | refine r_call rfl (c2) ?_ | refine r_call rfl (c3) ?_ | refine r_call rfl (c1') ?_ | refine r_call rfl (c2') ?_
    | refine r_call rfl (c3') ?_ | refine r_call rfl (ck) ?_ | refine r_call rfl (awake10) ?_ | refine r_mv_p rfl ?_
    | refine r_do rfl (by first | with_reducible rfl | assumption | decide) ?_ | refine r_loadAllB rfl rfl (by first | rfl | assumption) ?_
    | refine r_pick_t rfl (by first | with_reducible rfl | assumption | decide) rfl rfl ?_ | refine r_sem rfl rfl rfl rfl ?_ | refine r_nil ?_
    | refine r_storeAll rfl rfl rfl rfl rfl rfl ?_ | refine r_alloc rfl ?_ | refine run_seq ?_ | refine run_reg ?_ | refine run_skip ?_ | refine run_ret ?_ | refine fin_seq ?_)
  exact fin_out rfl rfl
set_option maxHeartbeats 4000000 in
theorem law_LayoutFinds (h : House) (hx : h.Ok) (c : Str) (on : Bool) : Ret Try.prog 22 [.agg h.enc, .v (.string c), .v (.bool on)] (.v (.bool true)) := by
  refine ret22 rfl fun hbd => ?_
  unfold c22
  repeat (first
    | refine r_call rfl (small_ok h) ?_ | refine r_mv_p rfl ?_ | refine r_loadAllB rfl rfl (by first | rfl | assumption) ?_ | refine r_sem rfl rfl rfl rfl ?_ | refine r_nil ?_
    | refine r_box rfl rfl rfl ?_ | refine run_seq ?_ | refine run_reg ?_ | refine fin_seq ?_)
  refine run_cond rfl (fun h1 => ?_) (fun h1 => ?_)
  · repeat (first
      | refine r_call rfl (awake10) ?_ | refine r_mv_p rfl ?_ | refine r_nil ?_ | refine run_seq ?_ | refine run_reg ?_ | refine run_ret ?_ | refine fin_seq ?_ | refine fin_seq_r ?_)
    exact fin_out rfl rfl
  have hs : h.small = true := by simpa using h1
  obtain ⟨l0, l1, l2, l3, l4, -⟩ := small_lens hs
  obtain ⟨g, k, e, c1, c2, c3⟩ := two (freeze65 h.lent c on (show (h.bins.xs.length + 1) * 80 ≤ _ by omega)) (refFreeze66 h c on (by omega)) (freeze_same (SameH.lent h) c on) (freeze_ok (House.lent_ok hx) c on)
  have cf := findBin h.lent c
  rw [show h.lent.bin? c = h.bin? c from (SameH.lent h).bin? c] at cf
  have cr := refFindBin h c
  have cs := site67 h.lent c
  rw [siteOf_same (SameH.lent h)] at cs
  have ck := kept_ok h hx hs
  have he : decide (e = e) = true := by simp
  have hsi : decide (h.siteOf c = h.siteOf c) = true := by simp
  unfold binOut at cf cr
  generalize (h.bin? c).getD Bin.zero = b at *
  generalize (h.bin? c).isSome = is at *
  have hb := bin_eqs b
  have hi : (false != decide (is = is)) = true := by simp
  clear l0 l1 l2 l3 l4
  repeat (first
    | refine r_call rfl (lent_ok h hx hs) ?_ | refine r_call rfl (cf) ?_ | refine r_call rfl (cr) ?_ | refine r_call rfl (c1) ?_ | refine r_call rfl (c2) ?_ | refine r_call rfl (cs) ?_
    | refine r_call rfl (refSite68 h c) ?_ | refine r_call rfl (c3) ?_ | refine r_call rfl (ck) ?_ | refine r_call rfl (awake10) ?_ | refine r_eqsE rfl rfl hb ?_ | refine r_mv_p rfl ?_
    | refine r_do rfl (by first | with_reducible rfl | assumption | decide) ?_ | refine r_loadAllB rfl rfl (by first | rfl | assumption) ?_
    | refine r_pick_t rfl (by first | with_reducible rfl | assumption | decide) rfl rfl ?_ | refine r_sem rfl rfl rfl rfl ?_ | refine r_nil ?_
    | refine r_storeAll rfl rfl rfl rfl rfl rfl ?_ | refine r_alloc rfl ?_ | refine run_seq ?_ | refine run_reg ?_ | refine run_regd rfl ?_ | refine run_skip ?_ | refine run_ret ?_
    | refine fin_seq ?_)
  exact fin_out rfl rfl
set_option maxHeartbeats 4000000 in
theorem law_LayoutStands (h : House) (hx : h.Ok) (b : Bin) : Ret Try.prog 23 [.agg h.enc, .agg b.enc] (.v (.bool true)) := by
  refine ret23 rfl fun hbd => ?_
  unfold c23
  repeat (first
    | refine r_call rfl (small_ok h) ?_ | refine r_mv_p rfl ?_ | refine r_loadAllB rfl rfl (by first | rfl | assumption) ?_ | refine r_sem rfl rfl rfl rfl ?_ | refine r_nil ?_
    | refine r_box rfl rfl rfl ?_ | refine run_seq ?_ | refine run_reg ?_ | refine fin_seq ?_)
  refine run_cond rfl (fun h1 => ?_) (fun h1 => ?_)
  · repeat (first
      | refine r_call rfl (awake10) ?_ | refine r_mv_p rfl ?_ | refine r_nil ?_ | refine run_seq ?_ | refine run_reg ?_ | refine run_ret ?_ | refine fin_seq ?_ | refine fin_seq_r ?_)
    exact fin_out rfl rfl
  have hs : h.small = true := by simpa using h1
  obtain ⟨l0, l1, l2, l3, l4, -⟩ := small_lens hs
  obtain ⟨⟨g, e⟩, hr⟩ : ∃ p, p = h.addBin b := ⟨_, rfl⟩
  have ca := addBin61 h b (by omega)
  rw [← hr] at ca
  replace ca : Ret Try.prog 61 _ (.tup [.agg g.enc, .v (.int .i64 e)]) := ca
  by_cases h0 : e = 0
  · subst h0
    obtain ⟨hg, hlen, hfb, hsite, hfz, hfk, hfz2, hback⟩ := addBin_yes hr.symm
    have gb : g.bins.xs.length ≤ 81 := by omega
    obtain ⟨k, hk⟩ : ∃ k, k = g.withBin { b with frozen := true } := ⟨_, rfl⟩
    rw [← hk] at hfz hfk hfz2 hback
    have kb : k.bins.xs.length ≤ 82 := by
      have := (put_length binCmp { b with frozen := true } g.bins.xs).2
      rw [hk]
      show (putL binCmp { b with frozen := true } g.bins.xs).length ≤ 82
      omega
    have cf := findBin g b.code
    rw [hfb, binOut_some] at cf
    have cz := refFindZone h b.zone
    unfold zoneOut at cz
    have cs := site67 g b.code
    rw [hsite] at cs
    have c1 := out_is (freeze65 g b.code true (by omega)) hfz
    have c2 := findBin k b.code
    rw [hfk, binOut_some] at c2
    have c3 := out_is (freeze65 k b.code false (by omega)) hfz2
    have gok : g.Ok := by rw [hg]; exact hx.withBin b
    have hsame : SameH (k.withBin b) g := by
      rw [hk] at hback ⊢
      exact ⟨rfl, rfl, rfl, hback, rfl, rfl, rfl, rfl, rfl, rfl, rfl, rfl, rfl, rfl, rfl⟩
    have kok : (k.withBin b).Ok := by rw [hk]; exact (gok.withBin _).withBin _
    have c4 := same_ok (k.withBin b) g kok hsame
    generalize ((h.zone? b.zone).getD Zone.zero) = z at *
    generalize (h.zone? b.zone).isSome = zi at *
    have hb := bin_eqs b
    have hd : (!decide (z.site = z.site)) = false := by simp
    have hl : (!decide ((((g.bins.xs.map Bin.enc).length : Nat) : Int) = (((h.bins.xs.map Bin.enc).length : Nat) : Int) + 1)) = false := by
      simp only [List.length_map]; rw [hlen]; simp
    have hb80 : (((h.bins.xs.map Bin.enc).length : Nat) : Int) ≤ 80 := by simp only [List.length_map]; omega
    clear l0 l1 l2 l4
    repeat (first
      | refine r_call rfl (ca) ?_ | refine r_call rfl (cf) ?_ | refine r_call rfl (cz) ?_ | refine r_call rfl (cs) ?_ | refine r_call rfl (c1) ?_ | refine r_call rfl (c2) ?_
      | refine r_call rfl (c3) ?_ | refine r_call rfl (c4) ?_ | refine r_call rfl (awake10) ?_ | refine r_eqs rfl rfl hb ?_ | refine r_mv_p rfl ?_
      | refine r_do rfl (by first | with_reducible rfl | assumption | decide) ?_ | refine r_fad rfl rfl ?_ | refine r_add rfl rfl (by omega) ?_
      | refine r_loadAllB rfl rfl (by first | rfl | assumption) ?_ | refine r_pick_t rfl (by first | with_reducible rfl | assumption | decide) rfl rfl ?_
      | refine r_pick_f rfl (by first | with_reducible rfl | assumption | decide) rfl rfl ?_ | refine r_sem rfl rfl rfl rfl ?_ | refine r_nil ?_
      | refine r_storeAll rfl rfl rfl rfl rfl rfl ?_ | refine r_alloc rfl ?_ | refine run_seq ?_ | refine run_reg ?_ | refine run_regd rfl ?_ | refine run_skip ?_ | refine run_ret ?_
      | refine fin_seq ?_ | refine run_cond_f rfl (by first | with_reducible rfl | assumption | decide) ?_)
    exact fin_out rfl rfl
  · have hg : g = House.zero := addBin_no hr.symm h0
    subst hg
    have hd : (!decide (e = 0)) = true := by simp [h0]
    repeat (first
      | refine r_call rfl (ca) ?_ | refine r_call rfl (awake10) ?_ | refine r_mv_p rfl ?_ | refine r_do rfl (by first | with_reducible rfl | assumption | decide) ?_
      | refine r_fad rfl rfl ?_ | refine r_loadAllB rfl rfl (by first | rfl | assumption) ?_ | refine r_pick_t rfl (by first | with_reducible rfl | assumption | decide) rfl rfl ?_
      | refine r_sem rfl rfl rfl rfl ?_ | refine r_nil ?_ | refine r_storeAll rfl rfl rfl rfl rfl rfl ?_ | refine r_alloc rfl ?_ | refine run_seq ?_ | refine run_reg ?_ | refine run_skip ?_
      | refine run_ret ?_ | refine fin_seq ?_ | refine fin_seq_r ?_ | refine run_cond_t rfl (by first | with_reducible rfl | assumption | decide) ?_)
    exact fin_out rfl rfl
end Go.Fw
