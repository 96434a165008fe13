/-
  Units: what base units are as units, by the document: the walk; the laws UnitsSplits and UnitsTurns.
-/
import Derived.Test.YtbclfhjjkekglaaUT
import Derived.Test.YtbclfhjjkekglaaIrB
set_option linter.unusedVariables false
set_option linter.unusedSimpArgs false
set_option maxRecDepth 10000
namespace Go.Fw
open Go.Proofs

def rstep (p : List U × Int) (u : U) : List U × Int := if 0 < max p.2 0 / u.f then (p.1 ++ [⟨u.name, max p.2 0 / u.f⟩], p.2 - max p.2 0 / u.f * u.f) else p
theorem rstep_eq (p : List U × Int) {u : U} (hu : 2 ≤ u.f) : rstep p u = sstep p u := by
  unfold rstep sstep
  by_cases h : u.f ≤ p.2
  · have hm : max p.2 0 = p.2 := by omega
    have hd : 1 ≤ p.2 / u.f := (Int.le_ediv_iff_mul_le (by omega)).2 (by omega)
    have hmod := Int.ediv_mul_add_emod p.2 u.f
    rw [hm, if_pos (by omega), if_pos h]
    refine Prod.ext rfl ?_
    show p.2 - p.2 / u.f * u.f = p.2 % u.f
    omega
  · have h0 : max p.2 0 / u.f = 0 := Int.ediv_eq_zero_of_lt (by omega) (by omega)
    rw [if_neg h, h0, if_neg (by omega)]
def bv (b : Bool) : PV := .v (.bool b)
theorem splice_set (l : List Bool) (a : Nat) (h : a < l.length) : splice (l.map bv) a [bv true] = (l.set a true).map bv := by
  unfold splice
  rw [List.set_eq_take_append_cons_drop, if_pos h]
  simp
def U.tgt (x : It) (b : Int) : List U × Int := (srt (knownTo x.us)).foldl sstep ([], b)
def refOut (t : List U × Int) : List U := if 1 ≤ t.2 then t.1 ++ [⟨eachB, t.2⟩] else t.1
/-- The state of a round. -/
def sW (x : It) (q : Nat × List Bool × List U × Int) : St :=
  S [(1, .p (.v (.int .i64 q.2.2.2))), (2, .own 2 0), (4, .nil), (5, .row 105 (q.2.2.1.map U.enc).length), (6, .own 6 0), (7, .p (.v (.int .i64 (q.1 : Nat))))] [(2, some (.box x.enc false)), (6, some (.box (q.2.1.map bv) false)), (105, some (.row 36 2 (q.2.2.1.map U.enc) false))]
set_option maxHeartbeats 4000000 in
theorem refSplit12 (x : It) (base : Int) (hb0 : base ≤ 9223372036854775807) : RetN Try.prog 12 [.agg x.enc, .v (.int .i64 base)] 36 2 ((refOut (U.tgt x base)).map U.enc) := by
  refine row12 rfl fun hbd => ?_
  have hus : x.us.length = 4 := rfl
  unfold c12
  repeat (first
    | refine r_mv_p rfl ?_
    | refine r_do rfl (by first | with_reducible rfl | assumption | decide) ?_
    | refine r_skip rfl (by first | with_reducible rfl | assumption | decide) ?_
    | refine r_skipU rfl ?_
    | refine r_fad rfl rfl ?_
    | refine r_add rfl rfl (by omega) ?_
    | refine r_sub rfl rfl (by omega) ?_
    | refine r_loadAll rfl (by first | rfl | assumption) ?_
    | refine r_loadAllB rfl rfl (by first | rfl | assumption) ?_
    | refine r_pick_t rfl (by first | with_reducible rfl | assumption | decide) rfl rfl ?_
    | refine r_pick_f rfl (by first | with_reducible rfl | assumption | decide) rfl rfl ?_
    | refine r_sem rfl rfl rfl rfl ?_
    | refine r_nil ?_
    | refine r_iad rfl rfl (by omega) (by assumption) (by first | rfl | assumption | omega | (simp; done) | (simp; omega)) ?_
    | refine r_storeAll rfl rfl rfl rfl rfl rfl ?_
    | refine r_store rfl rfl rfl rfl (by decide) ?_
    | refine r_store rfl rfl rfl rfl (And.intro rfl (Nat.le_of_ble_eq_true rfl)) ?_
    | refine r_alloc rfl ?_
    | refine r_box rfl rfl rfl ?_
    | refine r_bsl rfl rfl rfl rfl rfl rfl ?_
    | refine r_bsl1 rfl (by assumption) rfl ?_
    | refine r_mkmap rfl ?_
    | refine r_mv_nil rfl ?_
    | refine r_mv_own rfl rfl ?_
    | refine r_mv_mp rfl rfl ?_
    | refine r_mv_row rfl rfl (by first | rfl | assumption | omega | (simp; done) | (simp; omega)) ?_
    | refine r_mv_rp rfl rfl (by first | rfl | assumption | omega | (simp; done) | (simp; omega)) ?_
    | refine r_fad_rp rfl rfl (by first | rfl | assumption | omega | (simp; done) | (simp; omega)) ?_
    | refine r_iad_row rfl rfl (by first | rfl | assumption | omega | (simp; done) | (simp; omega)) rfl (by first | rfl | assumption | omega | (simp; done) | (simp; omega)) ?_
    | refine r_skip0 rfl (by first | with_reducible rfl | assumption | decide) ?_
    | refine r_skipU0 rfl ?_
    | refine r_semF rfl rfl rfl rfl ?_
    | refine r_load_rp rfl rfl (by assumption) rfl ?_
    | refine r_len_row rfl rfl (by first | rfl | assumption | omega | (simp; done) | (simp; omega)) ?_
    | refine run_seq ?_
    | refine run_reg ?_
    | refine run_regd rfl ?_
    | refine run_block ?_
    | refine run_skip ?_
    | refine run_exit ?_
    | refine run_ret ?_
    | refine fin_seq ?_
    | refine fin_seq_e ?_
    | refine fin_seq_r ?_
    | refine fin_blk ?_
    | refine fin_blk_e ?_
    | refine fin_blk_x rfl ?_
    | refine fin_blk_r ?_
    | refine fin_loop_e ?_
    | refine fin_loop_r ?_
    | refine run_cond_t rfl (by first | with_reducible rfl | assumption | decide) ?_
    | refine run_cond_f rfl (by first | with_reducible rfl | assumption | decide) ?_)
  refine run_weak (weak_nilRow 5 105 36 2 rfl rfl) (run_weak (weak_S ?_ ?_) (run_inv (sW x)
    (fun q => q.1 ≤ 4 ∧ q.2.1.length = 4 ∧ (remI x.us q.2.1).length + q.1 ≤ 4 ∧ (srt (rem x.us q.2.1)).foldl sstep (q.2.2.1, q.2.2.2) = U.tgt x base ∧ q.2.2.1.length ≤ q.1 ∧ q.2.2.2 ≤ 9223372036854775807) (fun q => 4 - q.1) ?_ (0, [false, false, false, false], [], base) ⟨Nat.zero_le _, rfl, ?_, ?_, Nat.le_refl _, hb0⟩))
  · exact ⟨rfl, rfl, rfl, rfl, rfl, rfl, trivial⟩
  · exact ⟨rfl, rfl, rfl, trivial⟩
  rotate_left
  · have := List.length_filter_le (cand x.us [false, false, false, false]) (List.range x.us.length)
    rw [List.length_range, hus] at this
    exact this
  · show (srt (rem x.us (List.replicate x.us.length false))).foldl sstep ([], base) = _
    rw [← knownTo_rem]; rfl
  rintro ⟨r, used, out, b⟩ ⟨hr, hul, hrem, htgt, hol, hb⟩ ih
  simp only at hr hul hrem htgt hol hb
  have htl : rem x.us used = [] → U.tgt x base = (out, b) := fun e => by rw [← htgt, e]; rfl
  show Run Try.prog _ _ _ (S [(1, .p (.v (.int .i64 b))), (2, .own 2 0), (4, .nil), (5, .row 105 (out.map U.enc).length), (6, .own 6 0), (7, .p (.v (.int .i64 (r : Nat))))] [(2, some (.box x.enc false)), (6, some (.box (used.map bv) false)), (105, some (.row 36 2 (out.map U.enc) false))])
  have he : ∀ n : Int, ∀ s : Str, ∀ z ∈ [(⟨s, n⟩ : U).enc], z.length = 2 := by intro n s z hz; simp at hz; subst hz; rfl
  have hl : ∀ n : Int, ∀ s : Str, ((out.map U.enc).length + [(⟨s, n⟩ : U).enc].length) * 24 ≤ 140737488355328 := by
    intro n s
    simp only [List.length_map, List.length_cons, List.length_nil]; omega
  repeat (first
    | refine r_mv_p rfl ?_
    | refine r_do rfl (by first | with_reducible rfl | assumption | decide) ?_
    | refine r_skip rfl (by first | with_reducible rfl | assumption | decide) ?_
    | refine r_skipU rfl ?_
    | refine r_fad rfl rfl ?_
    | refine r_add rfl rfl (by omega) ?_
    | refine r_sub rfl rfl (by omega) ?_
    | refine r_loadAll rfl (by first | rfl | assumption) ?_
    | refine r_loadAllB rfl rfl (by first | rfl | assumption) ?_
    | refine r_pick_t rfl (by first | with_reducible rfl | assumption | decide) rfl rfl ?_
    | refine r_pick_f rfl (by first | with_reducible rfl | assumption | decide) rfl rfl ?_
    | refine r_sem rfl rfl rfl rfl ?_
    | refine r_nil ?_
    | refine r_iad rfl rfl (by omega) (by assumption) (by first | rfl | assumption | omega | (simp; done) | (simp; omega)) ?_
    | refine r_storeAll rfl rfl rfl rfl rfl rfl ?_
    | refine r_store rfl rfl rfl rfl (by decide) ?_
    | refine r_store rfl rfl rfl rfl (And.intro rfl (Nat.le_of_ble_eq_true rfl)) ?_
    | refine r_alloc rfl ?_
    | refine r_box rfl rfl rfl ?_
    | refine r_bsl rfl rfl rfl rfl rfl rfl ?_
    | refine r_bsl1 rfl (by assumption) rfl ?_
    | refine r_mkmap rfl ?_
    | refine r_mv_nil rfl ?_
    | refine r_mv_own rfl rfl ?_
    | refine r_mv_mp rfl rfl ?_
    | refine r_mv_row rfl rfl (by first | rfl | assumption | omega | (simp; done) | (simp; omega)) ?_
    | refine r_mv_rp rfl rfl (by first | rfl | assumption | omega | (simp; done) | (simp; omega)) ?_
    | refine r_fad_rp rfl rfl (by first | rfl | assumption | omega | (simp; done) | (simp; omega)) ?_
    | refine r_iad_row rfl rfl (by first | rfl | assumption | omega | (simp; done) | (simp; omega)) rfl (by first | rfl | assumption | omega | (simp; done) | (simp; omega)) ?_
    | refine r_skip0 rfl (by first | with_reducible rfl | assumption | decide) ?_
    | refine r_skipU0 rfl ?_
    | refine r_semF rfl rfl rfl rfl ?_
    | refine r_load_rp rfl rfl (by assumption) rfl ?_
    | refine r_len_row rfl rfl (by first | rfl | assumption | omega | (simp; done) | (simp; omega)) ?_
    | refine run_seq ?_
    | refine run_reg ?_
    | refine run_regd rfl ?_
    | refine run_block ?_
    | refine run_skip ?_
    | refine run_exit ?_
    | refine run_ret ?_
    | refine fin_seq ?_
    | refine fin_seq_e ?_
    | refine fin_seq_r ?_
    | refine fin_blk ?_
    | refine fin_blk_e ?_
    | refine fin_blk_x rfl ?_
    | refine fin_blk_r ?_
    | refine fin_loop_e ?_
    | refine fin_loop_r ?_
    | refine run_cond_t rfl (by first | with_reducible rfl | assumption | decide) ?_
    | refine run_cond_f rfl (by first | with_reducible rfl | assumption | decide) ?_)
  refine run_cond rfl (fun h => ?_) (fun h => ?_)
  · have hr4 : r < 4 := by simp at h; omega
    repeat (first
      | refine r_mv_p rfl ?_
      | refine r_do rfl (by first | with_reducible rfl | assumption | decide) ?_
      | refine r_skip rfl (by first | with_reducible rfl | assumption | decide) ?_
      | refine r_skipU rfl ?_
      | refine r_fad rfl rfl ?_
      | refine r_add rfl rfl (by omega) ?_
      | refine r_sub rfl rfl (by omega) ?_
      | refine r_loadAll rfl (by first | rfl | assumption) ?_
      | refine r_loadAllB rfl rfl (by first | rfl | assumption) ?_
      | refine r_pick_t rfl (by first | with_reducible rfl | assumption | decide) rfl rfl ?_
      | refine r_pick_f rfl (by first | with_reducible rfl | assumption | decide) rfl rfl ?_
      | refine r_sem rfl rfl rfl rfl ?_
      | refine r_nil ?_
      | refine r_iad rfl rfl (by omega) (by assumption) (by first | rfl | assumption | omega | (simp; done) | (simp; omega)) ?_
      | refine r_storeAll rfl rfl rfl rfl rfl rfl ?_
      | refine r_store rfl rfl rfl rfl (by decide) ?_
      | refine r_store rfl rfl rfl rfl (And.intro rfl (Nat.le_of_ble_eq_true rfl)) ?_
      | refine r_alloc rfl ?_
      | refine r_box rfl rfl rfl ?_
      | refine r_bsl rfl rfl rfl rfl rfl rfl ?_
      | refine r_bsl1 rfl (by assumption) rfl ?_
      | refine r_mkmap rfl ?_
      | refine r_mv_nil rfl ?_
      | refine r_mv_own rfl rfl ?_
      | refine r_mv_mp rfl rfl ?_
      | refine r_mv_row rfl rfl (by first | rfl | assumption | omega | (simp; done) | (simp; omega)) ?_
      | refine r_mv_rp rfl rfl (by first | rfl | assumption | omega | (simp; done) | (simp; omega)) ?_
      | refine r_fad_rp rfl rfl (by first | rfl | assumption | omega | (simp; done) | (simp; omega)) ?_
      | refine r_iad_row rfl rfl (by first | rfl | assumption | omega | (simp; done) | (simp; omega)) rfl (by first | rfl | assumption | omega | (simp; done) | (simp; omega)) ?_
      | refine r_skip0 rfl (by first | with_reducible rfl | assumption | decide) ?_
      | refine r_skipU0 rfl ?_
      | refine r_semF rfl rfl rfl rfl ?_
      | refine r_load_rp rfl rfl (by assumption) rfl ?_
      | refine r_len_row rfl rfl (by first | rfl | assumption | omega | (simp; done) | (simp; omega)) ?_
      | refine run_seq ?_
      | refine run_reg ?_
      | refine run_regd rfl ?_
      | refine run_block ?_
      | refine run_skip ?_
      | refine run_exit ?_
      | refine run_ret ?_
      | refine fin_seq ?_
      | refine fin_seq_e ?_
      | refine fin_seq_r ?_
      | refine fin_blk ?_
      | refine fin_blk_e ?_
      | refine fin_blk_x rfl ?_
      | refine fin_blk_r ?_
      | refine fin_loop_e ?_
      | refine fin_loop_r ?_
      | refine run_cond_t rfl (by first | with_reducible rfl | assumption | decide) ?_
      | refine run_cond_f rfl (by first | with_reducible rfl | assumption | decide) ?_)
    refine run_weak (weak_S ?_ ?_) (run_inv (fun i : Nat => S [(1, .p (.v (.int .i64 b))), (2, .own 2 0), (4, .nil), (5, .row 105 (out.map U.enc).length), (6, .own 6 0), (7, .p (.v (.int .i64 (r : Nat)))), (8, .p (.v (.int .i64 (pickA x.us used i)))), (9, .p (.v (.int .i64 (i : Nat))))] [(2, some (.box x.enc false)), (6, some (.box (used.map bv) false)), (105, some (.row 36 2 (out.map U.enc) false))])
      (fun i => i ≤ 4) (fun i => 4 - i) ?_ 0 (Nat.zero_le _))
    · exact ⟨rfl, rfl, rfl, rfl, rfl, rfl, rfl, rfl, trivial⟩
    · exact ⟨rfl, rfl, rfl, trivial⟩
    intro i hi ihi
    have hsp := pickA_spec x.us used i
    repeat (first
      | refine r_mv_p rfl ?_
      | refine r_do rfl (by first | with_reducible rfl | assumption | decide) ?_
      | refine r_skip rfl (by first | with_reducible rfl | assumption | decide) ?_
      | refine r_skipU rfl ?_
      | refine r_fad rfl rfl ?_
      | refine r_add rfl rfl (by omega) ?_
      | refine r_sub rfl rfl (by omega) ?_
      | refine r_loadAll rfl (by first | rfl | assumption) ?_
      | refine r_loadAllB rfl rfl (by first | rfl | assumption) ?_
      | refine r_pick_t rfl (by first | with_reducible rfl | assumption | decide) rfl rfl ?_
      | refine r_pick_f rfl (by first | with_reducible rfl | assumption | decide) rfl rfl ?_
      | refine r_sem rfl rfl rfl rfl ?_
      | refine r_nil ?_
      | refine r_iad rfl rfl (by omega) (by assumption) (by first | rfl | assumption | omega | (simp; done) | (simp; omega)) ?_
      | refine r_storeAll rfl rfl rfl rfl rfl rfl ?_
      | refine r_store rfl rfl rfl rfl (by decide) ?_
      | refine r_store rfl rfl rfl rfl (And.intro rfl (Nat.le_of_ble_eq_true rfl)) ?_
      | refine r_alloc rfl ?_
      | refine r_box rfl rfl rfl ?_
      | refine r_bsl rfl rfl rfl rfl rfl rfl ?_
      | refine r_bsl1 rfl (by assumption) rfl ?_
      | refine r_mkmap rfl ?_
      | refine r_mv_nil rfl ?_
      | refine r_mv_own rfl rfl ?_
      | refine r_mv_mp rfl rfl ?_
      | refine r_mv_row rfl rfl (by first | rfl | assumption | omega | (simp; done) | (simp; omega)) ?_
      | refine r_mv_rp rfl rfl (by first | rfl | assumption | omega | (simp; done) | (simp; omega)) ?_
      | refine r_fad_rp rfl rfl (by first | rfl | assumption | omega | (simp; done) | (simp; omega)) ?_
      | refine r_iad_row rfl rfl (by first | rfl | assumption | omega | (simp; done) | (simp; omega)) rfl (by first | rfl | assumption | omega | (simp; done) | (simp; omega)) ?_
      | refine r_skip0 rfl (by first | with_reducible rfl | assumption | decide) ?_
      | refine r_skipU0 rfl ?_
      | refine r_semF rfl rfl rfl rfl ?_
      | refine r_load_rp rfl rfl (by assumption) rfl ?_
      | refine r_len_row rfl rfl (by first | rfl | assumption | omega | (simp; done) | (simp; omega)) ?_
      | refine run_seq ?_
      | refine run_reg ?_
      | refine run_regd rfl ?_
      | refine run_block ?_
      | refine run_skip ?_
      | refine run_exit ?_
      | refine run_ret ?_
      | refine fin_seq ?_
      | refine fin_seq_e ?_
      | refine fin_seq_r ?_
      | refine fin_blk ?_
      | refine fin_blk_e ?_
      | refine fin_blk_x rfl ?_
      | refine fin_blk_r ?_
      | refine fin_loop_e ?_
      | refine fin_loop_r ?_
      | refine run_cond_t rfl (by first | with_reducible rfl | assumption | decide) ?_
      | refine run_cond_f rfl (by first | with_reducible rfl | assumption | decide) ?_)
    refine run_cond rfl (fun h2 => ?_) (fun h2 => ?_)
    · have hlt : i < 4 := by simp at h2; omega
      have hlt' : i < x.us.length := hlt
      obtain ⟨u, hu⟩ : ∃ u, u = x.us[i] := ⟨_, rfl⟩
      have hget : x.us[i]? = some u := by rw [hu]; exact List.getElem?_eq_getElem hlt'
      have hld : ldv x.enc (0 + 1 + ((i : Nat) : Int).toNat * 2) 2 true = some (.agg u.enc) := by
        rw [hu]
        have : i = 0 ∨ i = 1 ∨ i = 2 ∨ i = 3 := by omega
        rcases this with rfl | rfl | rfl | rfl <;> rfl
      -- the unit itself
      repeat (first
        | refine r_aad rfl rfl rfl (by omega) ?_
        | refine r_loadO rfl rfl hld ?_
        | refine r_mv_p rfl ?_
        | refine r_do rfl (by first | with_reducible rfl | assumption | decide) ?_
        | refine r_skip rfl (by first | with_reducible rfl | assumption | decide) ?_
        | refine r_skipU rfl ?_
        | refine r_fad rfl rfl ?_
        | refine r_add rfl rfl (by omega) ?_
        | refine r_sub rfl rfl (by omega) ?_
        | refine r_loadAll rfl (by first | rfl | assumption) ?_
        | refine r_loadAllB rfl rfl (by first | rfl | assumption) ?_
        | refine r_pick_t rfl (by first | with_reducible rfl | assumption | decide) rfl rfl ?_
        | refine r_pick_f rfl (by first | with_reducible rfl | assumption | decide) rfl rfl ?_
        | refine r_sem rfl rfl rfl rfl ?_
        | refine r_nil ?_
        | refine r_iad rfl rfl (by omega) (by assumption) (by first | rfl | assumption | omega | (simp; done) | (simp; omega)) ?_
        | refine r_storeAll rfl rfl rfl rfl rfl rfl ?_
        | refine r_store rfl rfl rfl rfl (by decide) ?_
        | refine r_store rfl rfl rfl rfl (And.intro rfl (Nat.le_of_ble_eq_true rfl)) ?_
        | refine r_alloc rfl ?_
        | refine r_box rfl rfl rfl ?_
        | refine r_bsl rfl rfl rfl rfl rfl rfl ?_
        | refine r_bsl1 rfl (by assumption) rfl ?_
        | refine r_mkmap rfl ?_
        | refine r_mv_nil rfl ?_
        | refine r_mv_own rfl rfl ?_
        | refine r_mv_mp rfl rfl ?_
        | refine r_mv_row rfl rfl (by first | rfl | assumption | omega | (simp; done) | (simp; omega)) ?_
        | refine r_mv_rp rfl rfl (by first | rfl | assumption | omega | (simp; done) | (simp; omega)) ?_
        | refine r_fad_rp rfl rfl (by first | rfl | assumption | omega | (simp; done) | (simp; omega)) ?_
        | refine r_iad_row rfl rfl (by first | rfl | assumption | omega | (simp; done) | (simp; omega)) rfl (by first | rfl | assumption | omega | (simp; done) | (simp; omega)) ?_
        | refine r_skip0 rfl (by first | with_reducible rfl | assumption | decide) ?_
        | refine r_skipU0 rfl ?_
        | refine r_semF rfl rfl rfl rfl ?_
        | refine r_load_rp rfl rfl (by assumption) rfl ?_
        | refine r_len_row rfl rfl (by first | rfl | assumption | omega | (simp; done) | (simp; omega)) ?_
        | refine run_seq ?_
        | refine run_reg ?_
        | refine run_regd rfl ?_
        | refine run_block ?_
        | refine run_skip ?_
        | refine run_exit ?_
        | refine run_ret ?_
        | refine fin_seq ?_
        | refine fin_seq_e ?_
        | refine fin_seq_r ?_
        | refine fin_blk ?_
        | refine fin_blk_e ?_
        | refine fin_blk_x rfl ?_
        | refine fin_blk_r ?_
        | refine fin_loop_e ?_
        | refine fin_loop_r ?_
        | refine run_cond_t rfl (by first | with_reducible rfl | assumption | decide) ?_
        | refine run_cond_f rfl (by first | with_reducible rfl | assumption | decide) ?_)
      refine run_reg_join (S [(1, .p (.v (.int .i64 b))), (2, .own 2 0), (4, .nil), (5, .row 105 (out.map U.enc).length), (6, .own 6 0), (7, .p (.v (.int .i64 (r : Nat)))), (8, .p (.v (.int .i64 (pickA x.us used i)))), (9, .p (.v (.int .i64 (i : Nat)))), (10, .own 10 0), (11, .p (.v (.bool (vB u))))] [(2, some (.box x.enc false)), (6, some (.box (used.map bv) false)), (10, some (.box u.enc false)), (105, some (.row 36 2 (out.map U.enc) false))]) ?_ ?_
      · repeat' (first
          | refine r_mv_p rfl ?_
          | refine r_do rfl (by first | with_reducible rfl | assumption | decide) ?_
          | refine r_skip rfl (by first | with_reducible rfl | assumption | decide) ?_
          | refine r_skipU rfl ?_
          | refine r_fad rfl rfl ?_
          | refine r_add rfl rfl (by omega) ?_
          | refine r_sub rfl rfl (by omega) ?_
          | refine r_loadAll rfl (by first | rfl | assumption) ?_
          | refine r_loadAllB rfl rfl (by first | rfl | assumption) ?_
          | refine r_pick_t rfl (by first | with_reducible rfl | assumption | decide) rfl rfl ?_
          | refine r_pick_f rfl (by first | with_reducible rfl | assumption | decide) rfl rfl ?_
          | refine r_sem rfl rfl rfl rfl ?_
          | refine r_nil ?_
          | refine r_iad rfl rfl (by omega) (by assumption) (by first | rfl | assumption | omega | (simp; done) | (simp; omega)) ?_
          | refine r_storeAll rfl rfl rfl rfl rfl rfl ?_
          | refine r_store rfl rfl rfl rfl (by decide) ?_
          | refine r_store rfl rfl rfl rfl (And.intro rfl (Nat.le_of_ble_eq_true rfl)) ?_
          | refine r_alloc rfl ?_
          | refine r_box rfl rfl rfl ?_
          | refine r_bsl rfl rfl rfl rfl rfl rfl ?_
          | refine r_bsl1 rfl (by assumption) rfl ?_
          | refine r_mkmap rfl ?_
          | refine r_mv_nil rfl ?_
          | refine r_mv_own rfl rfl ?_
          | refine r_mv_mp rfl rfl ?_
          | refine r_mv_row rfl rfl (by first | rfl | assumption | omega | (simp; done) | (simp; omega)) ?_
          | refine r_mv_rp rfl rfl (by first | rfl | assumption | omega | (simp; done) | (simp; omega)) ?_
          | refine r_fad_rp rfl rfl (by first | rfl | assumption | omega | (simp; done) | (simp; omega)) ?_
          | refine r_iad_row rfl rfl (by first | rfl | assumption | omega | (simp; done) | (simp; omega)) rfl (by first | rfl | assumption | omega | (simp; done) | (simp; omega)) ?_
          | refine r_skip0 rfl (by first | with_reducible rfl | assumption | decide) ?_
          | refine r_skipU0 rfl ?_
          | refine r_semF rfl rfl rfl rfl ?_
          | refine r_load_rp rfl rfl (by assumption) rfl ?_
          | refine r_len_row rfl rfl (by first | rfl | assumption | omega | (simp; done) | (simp; omega)) ?_
          | refine run_seq ?_
          | refine run_reg ?_
          | refine run_regd rfl ?_
          | refine run_block ?_
          | refine run_skip ?_
          | refine run_exit ?_
          | refine run_ret ?_
          | refine fin_seq ?_
          | refine fin_seq_e ?_
          | refine fin_seq_r ?_
          | refine fin_blk ?_
          | refine fin_blk_e ?_
          | refine fin_blk_x rfl ?_
          | refine fin_blk_r ?_
          | refine fin_loop_e ?_
          | refine fin_loop_r ?_
          | refine run_cond_t rfl (by first | with_reducible rfl | assumption | decide) ?_
          | refine run_cond_f rfl (by first | with_reducible rfl | assumption | decide) ?_
          | refine r_split rfl (fun hs => ?_) (fun hs => ?_)
          | refine run_cond rfl (fun hs => ?_) (fun hs => ?_))
        all_goals refine ⟨weak_S ?_ ?_⟩
        all_goals first | exact ⟨rfl, rfl, rfl, rfl, trivial⟩ | exact ⟨rfl, rfl, rfl, rfl, rfl, rfl, rfl, rfl, rfl, tb rfl (by simp_all [vB, eachB]), trivial⟩
      repeat (first
        | refine r_mv_p rfl ?_
        | refine r_do rfl (by first | with_reducible rfl | assumption | decide) ?_
        | refine r_skip rfl (by first | with_reducible rfl | assumption | decide) ?_
        | refine r_skipU rfl ?_
        | refine r_fad rfl rfl ?_
        | refine r_add rfl rfl (by omega) ?_
        | refine r_sub rfl rfl (by omega) ?_
        | refine r_loadAll rfl (by first | rfl | assumption) ?_
        | refine r_loadAllB rfl rfl (by first | rfl | assumption) ?_
        | refine r_pick_t rfl (by first | with_reducible rfl | assumption | decide) rfl rfl ?_
        | refine r_pick_f rfl (by first | with_reducible rfl | assumption | decide) rfl rfl ?_
        | refine r_sem rfl rfl rfl rfl ?_
        | refine r_nil ?_
        | refine r_iad rfl rfl (by omega) (by assumption) (by first | rfl | assumption | omega | (simp; done) | (simp; omega)) ?_
        | refine r_storeAll rfl rfl rfl rfl rfl rfl ?_
        | refine r_store rfl rfl rfl rfl (by decide) ?_
        | refine r_store rfl rfl rfl rfl (And.intro rfl (Nat.le_of_ble_eq_true rfl)) ?_
        | refine r_alloc rfl ?_
        | refine r_box rfl rfl rfl ?_
        | refine r_bsl rfl rfl rfl rfl rfl rfl ?_
        | refine r_bsl1 rfl (by assumption) rfl ?_
        | refine r_mkmap rfl ?_
        | refine r_mv_nil rfl ?_
        | refine r_mv_own rfl rfl ?_
        | refine r_mv_mp rfl rfl ?_
        | refine r_mv_row rfl rfl (by first | rfl | assumption | omega | (simp; done) | (simp; omega)) ?_
        | refine r_mv_rp rfl rfl (by first | rfl | assumption | omega | (simp; done) | (simp; omega)) ?_
        | refine r_fad_rp rfl rfl (by first | rfl | assumption | omega | (simp; done) | (simp; omega)) ?_
        | refine r_iad_row rfl rfl (by first | rfl | assumption | omega | (simp; done) | (simp; omega)) rfl (by first | rfl | assumption | omega | (simp; done) | (simp; omega)) ?_
        | refine r_skip0 rfl (by first | with_reducible rfl | assumption | decide) ?_
        | refine r_skipU0 rfl ?_
        | refine r_semF rfl rfl rfl rfl ?_
        | refine r_load_rp rfl rfl (by assumption) rfl ?_
        | refine r_len_row rfl rfl (by first | rfl | assumption | omega | (simp; done) | (simp; omega)) ?_
        | refine run_seq ?_
        | refine run_reg ?_
        | refine run_regd rfl ?_
        | refine run_block ?_
        | refine run_skip ?_
        | refine run_exit ?_
        | refine run_ret ?_
        | refine fin_seq ?_
        | refine fin_seq_e ?_
        | refine fin_seq_r ?_
        | refine fin_blk ?_
        | refine fin_blk_e ?_
        | refine fin_blk_x rfl ?_
        | refine fin_blk_r ?_
        | refine fin_loop_e ?_
        | refine fin_loop_r ?_
        | refine run_cond_t rfl (by first | with_reducible rfl | assumption | decide) ?_
        | refine run_cond_f rfl (by first | with_reducible rfl | assumption | decide) ?_)
      refine run_weak (weak_S ?_ ?_) (run_inv (fun k : Nat => S [(1, .p (.v (.int .i64 b))), (2, .own 2 0), (4, .nil), (5, .row 105 (out.map U.enc).length), (6, .own 6 0), (7, .p (.v (.int .i64 (r : Nat)))), (8, .p (.v (.int .i64 (pickA x.us used i)))), (9, .p (.v (.int .i64 (i : Nat)))), (10, .own 10 0), (11, .p (.v (.bool (vB u && !(x.us.take k).any (twQ u))))), (12, .p (.v (.int .i64 (k : Nat))))] [(2, some (.box x.enc false)), (6, some (.box (used.map bv) false)), (10, some (.box u.enc false)), (105, some (.row 36 2 (out.map U.enc) false))])
        (fun k => k ≤ i) (fun k => i - k) ?_ 0 (Nat.zero_le _))
      · exact ⟨rfl, rfl, rfl, rfl, rfl, rfl, rfl, rfl, rfl, tb rfl (by simp), rfl, trivial⟩
      · exact ⟨rfl, rfl, rfl, rfl, trivial⟩
      intro k hk ihk
      repeat (first
        | refine r_mv_p rfl ?_
        | refine r_do rfl (by first | with_reducible rfl | assumption | decide) ?_
        | refine r_skip rfl (by first | with_reducible rfl | assumption | decide) ?_
        | refine r_skipU rfl ?_
        | refine r_fad rfl rfl ?_
        | refine r_add rfl rfl (by omega) ?_
        | refine r_sub rfl rfl (by omega) ?_
        | refine r_loadAll rfl (by first | rfl | assumption) ?_
        | refine r_loadAllB rfl rfl (by first | rfl | assumption) ?_
        | refine r_pick_t rfl (by first | with_reducible rfl | assumption | decide) rfl rfl ?_
        | refine r_pick_f rfl (by first | with_reducible rfl | assumption | decide) rfl rfl ?_
        | refine r_sem rfl rfl rfl rfl ?_
        | refine r_nil ?_
        | refine r_iad rfl rfl (by omega) (by assumption) (by first | rfl | assumption | omega | (simp; done) | (simp; omega)) ?_
        | refine r_storeAll rfl rfl rfl rfl rfl rfl ?_
        | refine r_store rfl rfl rfl rfl (by decide) ?_
        | refine r_store rfl rfl rfl rfl (And.intro rfl (Nat.le_of_ble_eq_true rfl)) ?_
        | refine r_alloc rfl ?_
        | refine r_box rfl rfl rfl ?_
        | refine r_bsl rfl rfl rfl rfl rfl rfl ?_
        | refine r_bsl1 rfl (by assumption) rfl ?_
        | refine r_mkmap rfl ?_
        | refine r_mv_nil rfl ?_
        | refine r_mv_own rfl rfl ?_
        | refine r_mv_mp rfl rfl ?_
        | refine r_mv_row rfl rfl (by first | rfl | assumption | omega | (simp; done) | (simp; omega)) ?_
        | refine r_mv_rp rfl rfl (by first | rfl | assumption | omega | (simp; done) | (simp; omega)) ?_
        | refine r_fad_rp rfl rfl (by first | rfl | assumption | omega | (simp; done) | (simp; omega)) ?_
        | refine r_iad_row rfl rfl (by first | rfl | assumption | omega | (simp; done) | (simp; omega)) rfl (by first | rfl | assumption | omega | (simp; done) | (simp; omega)) ?_
        | refine r_skip0 rfl (by first | with_reducible rfl | assumption | decide) ?_
        | refine r_skipU0 rfl ?_
        | refine r_semF rfl rfl rfl rfl ?_
        | refine r_load_rp rfl rfl (by assumption) rfl ?_
        | refine r_len_row rfl rfl (by first | rfl | assumption | omega | (simp; done) | (simp; omega)) ?_
        | refine run_seq ?_
        | refine run_reg ?_
        | refine run_regd rfl ?_
        | refine run_block ?_
        | refine run_skip ?_
        | refine run_exit ?_
        | refine run_ret ?_
        | refine fin_seq ?_
        | refine fin_seq_e ?_
        | refine fin_seq_r ?_
        | refine fin_blk ?_
        | refine fin_blk_e ?_
        | refine fin_blk_x rfl ?_
        | refine fin_blk_r ?_
        | refine fin_loop_e ?_
        | refine fin_loop_r ?_
        | refine run_cond_t rfl (by first | with_reducible rfl | assumption | decide) ?_
        | refine run_cond_f rfl (by first | with_reducible rfl | assumption | decide) ?_)
      refine run_cond rfl (fun h3 => ?_) (fun h3 => ?_)
      · have hlk : k < i := by simpa using h3
        have hlk' : k < x.us.length := by omega
        obtain ⟨v, hv⟩ : ∃ v, v = x.us[k] := ⟨_, rfl⟩
        have hvn : ldv x.enc (0 + 1 + ((k : Nat) : Int).toNat * 2 + 0) 1 false = some (.v (.string v.name)) := by
          rw [hv]
          have : k = 0 ∨ k = 1 ∨ k = 2 := by omega
          rcases this with rfl | rfl | rfl <;> rfl
        have hvf : ldv x.enc (0 + 1 + ((k : Nat) : Int).toNat * 2 + 1) 1 false = some (.v (.int .i64 v.f)) := by
          rw [hv]
          have : k = 0 ∨ k = 1 ∨ k = 2 := by omega
          rcases this with rfl | rfl | rfl <;> rfl
        have htk : (x.us.take (k + 1)).any (twQ u) = ((x.us.take k).any (twQ u) || twQ u v) := by
          rw [show x.us.take (k + 1) = x.us.take k ++ [v] by rw [hv]; simp, List.any_append]; simp
        obtain ⟨c, hc⟩ : ∃ c, c = (vB u && !(x.us.take k).any (twQ u)) := ⟨_, rfl⟩
        rw [← hc]
        cases hb1 : decide (v.name = u.name) with
        | false =>
          have hE : c = (vB u && !(x.us.take (k + 1)).any (twQ u)) := by rw [htk, twQ, hb1]; simp [hc]
          repeat (first
            | refine r_aad rfl rfl rfl (by omega) ?_
            | refine r_loadO rfl rfl hvn ?_
            | refine r_loadO rfl rfl hvf ?_
            | refine r_mv_p rfl ?_
            | refine r_do rfl (by first | with_reducible rfl | assumption | decide) ?_
            | refine r_skip rfl (by first | with_reducible rfl | assumption | decide) ?_
            | refine r_skipU rfl ?_
            | refine r_fad rfl rfl ?_
            | refine r_add rfl rfl (by omega) ?_
            | refine r_sub rfl rfl (by omega) ?_
            | refine r_loadAll rfl (by first | rfl | assumption) ?_
            | refine r_loadAllB rfl rfl (by first | rfl | assumption) ?_
            | refine r_pick_t rfl (by first | with_reducible rfl | assumption | decide) rfl rfl ?_
            | refine r_pick_f rfl (by first | with_reducible rfl | assumption | decide) rfl rfl ?_
            | refine r_sem rfl rfl rfl rfl ?_
            | refine r_nil ?_
            | refine r_iad rfl rfl (by omega) (by assumption) (by first | rfl | assumption | omega | (simp; done) | (simp; omega)) ?_
            | refine r_storeAll rfl rfl rfl rfl rfl rfl ?_
            | refine r_store rfl rfl rfl rfl (by decide) ?_
            | refine r_store rfl rfl rfl rfl (And.intro rfl (Nat.le_of_ble_eq_true rfl)) ?_
            | refine r_alloc rfl ?_
            | refine r_box rfl rfl rfl ?_
            | refine r_bsl rfl rfl rfl rfl rfl rfl ?_
            | refine r_bsl1 rfl (by assumption) rfl ?_
            | refine r_mkmap rfl ?_
            | refine r_mv_nil rfl ?_
            | refine r_mv_own rfl rfl ?_
            | refine r_mv_mp rfl rfl ?_
            | refine r_mv_row rfl rfl (by first | rfl | assumption | omega | (simp; done) | (simp; omega)) ?_
            | refine r_mv_rp rfl rfl (by first | rfl | assumption | omega | (simp; done) | (simp; omega)) ?_
            | refine r_fad_rp rfl rfl (by first | rfl | assumption | omega | (simp; done) | (simp; omega)) ?_
            | refine r_iad_row rfl rfl (by first | rfl | assumption | omega | (simp; done) | (simp; omega)) rfl (by first | rfl | assumption | omega | (simp; done) | (simp; omega)) ?_
            | refine r_skip0 rfl (by first | with_reducible rfl | assumption | decide) ?_
            | refine r_skipU0 rfl ?_
            | refine r_semF rfl rfl rfl rfl ?_
            | refine r_load_rp rfl rfl (by assumption) rfl ?_
            | refine r_len_row rfl rfl (by first | rfl | assumption | omega | (simp; done) | (simp; omega)) ?_
            | refine run_seq ?_
            | refine run_reg ?_
            | refine run_regd rfl ?_
            | refine run_block ?_
            | refine run_skip ?_
            | refine run_exit ?_
            | refine run_ret ?_
            | refine fin_seq ?_
            | refine fin_seq_e ?_
            | refine fin_seq_r ?_
            | refine fin_blk ?_
            | refine fin_blk_e ?_
            | refine fin_blk_x rfl ?_
            | refine fin_blk_r ?_
            | refine fin_loop_e ?_
            | refine fin_loop_r ?_
            | refine run_cond_t rfl (by first | with_reducible rfl | assumption | decide) ?_
            | refine run_cond_f rfl (by first | with_reducible rfl | assumption | decide) ?_)
          refine fin_loop (run_weak (weak_S ?_ ?_) (ihk (k + 1) hlk (by omega)))
          · exact ⟨rfl, rfl, rfl, rfl, rfl, rfl, rfl, rfl, rfl, tb rfl hE, rfl, trivial⟩
          · exact ⟨rfl, rfl, rfl, rfl, trivial⟩
        | true =>
          cases hb2 : decide ((2 : Int) ≤ v.f) with
          | false =>
            have hE : c = (vB u && !(x.us.take (k + 1)).any (twQ u)) := by rw [htk, twQ, hb1, hb2]; simp [hc]
            repeat (first
              | refine r_aad rfl rfl rfl (by omega) ?_
              | refine r_loadO rfl rfl hvn ?_
              | refine r_loadO rfl rfl hvf ?_
              | refine r_mv_p rfl ?_
              | refine r_do rfl (by first | with_reducible rfl | assumption | decide) ?_
              | refine r_skip rfl (by first | with_reducible rfl | assumption | decide) ?_
              | refine r_skipU rfl ?_
              | refine r_fad rfl rfl ?_
              | refine r_add rfl rfl (by omega) ?_
              | refine r_sub rfl rfl (by omega) ?_
              | refine r_loadAll rfl (by first | rfl | assumption) ?_
              | refine r_loadAllB rfl rfl (by first | rfl | assumption) ?_
              | refine r_pick_t rfl (by first | with_reducible rfl | assumption | decide) rfl rfl ?_
              | refine r_pick_f rfl (by first | with_reducible rfl | assumption | decide) rfl rfl ?_
              | refine r_sem rfl rfl rfl rfl ?_
              | refine r_nil ?_
              | refine r_iad rfl rfl (by omega) (by assumption) (by first | rfl | assumption | omega | (simp; done) | (simp; omega)) ?_
              | refine r_storeAll rfl rfl rfl rfl rfl rfl ?_
              | refine r_store rfl rfl rfl rfl (by decide) ?_
              | refine r_store rfl rfl rfl rfl (And.intro rfl (Nat.le_of_ble_eq_true rfl)) ?_
              | refine r_alloc rfl ?_
              | refine r_box rfl rfl rfl ?_
              | refine r_bsl rfl rfl rfl rfl rfl rfl ?_
              | refine r_bsl1 rfl (by assumption) rfl ?_
              | refine r_mkmap rfl ?_
              | refine r_mv_nil rfl ?_
              | refine r_mv_own rfl rfl ?_
              | refine r_mv_mp rfl rfl ?_
              | refine r_mv_row rfl rfl (by first | rfl | assumption | omega | (simp; done) | (simp; omega)) ?_
              | refine r_mv_rp rfl rfl (by first | rfl | assumption | omega | (simp; done) | (simp; omega)) ?_
              | refine r_fad_rp rfl rfl (by first | rfl | assumption | omega | (simp; done) | (simp; omega)) ?_
              | refine r_iad_row rfl rfl (by first | rfl | assumption | omega | (simp; done) | (simp; omega)) rfl (by first | rfl | assumption | omega | (simp; done) | (simp; omega)) ?_
              | refine r_skip0 rfl (by first | with_reducible rfl | assumption | decide) ?_
              | refine r_skipU0 rfl ?_
              | refine r_semF rfl rfl rfl rfl ?_
              | refine r_load_rp rfl rfl (by assumption) rfl ?_
              | refine r_len_row rfl rfl (by first | rfl | assumption | omega | (simp; done) | (simp; omega)) ?_
              | refine run_seq ?_
              | refine run_reg ?_
              | refine run_regd rfl ?_
              | refine run_block ?_
              | refine run_skip ?_
              | refine run_exit ?_
              | refine run_ret ?_
              | refine fin_seq ?_
              | refine fin_seq_e ?_
              | refine fin_seq_r ?_
              | refine fin_blk ?_
              | refine fin_blk_e ?_
              | refine fin_blk_x rfl ?_
              | refine fin_blk_r ?_
              | refine fin_loop_e ?_
              | refine fin_loop_r ?_
              | refine run_cond_t rfl (by first | with_reducible rfl | assumption | decide) ?_
              | refine run_cond_f rfl (by first | with_reducible rfl | assumption | decide) ?_)
            refine fin_loop (run_weak (weak_S ?_ ?_) (ihk (k + 1) hlk (by omega)))
            · exact ⟨rfl, rfl, rfl, rfl, rfl, rfl, rfl, rfl, rfl, tb rfl hE, rfl, trivial⟩
            · exact ⟨rfl, rfl, rfl, rfl, trivial⟩
          | true =>
            have hE : false = (vB u && !(x.us.take (k + 1)).any (twQ u)) := by rw [htk, twQ, hb1, hb2]; simp
            repeat (first
              | refine r_aad rfl rfl rfl (by omega) ?_
              | refine r_loadO rfl rfl hvn ?_
              | refine r_loadO rfl rfl hvf ?_
              | refine r_mv_p rfl ?_
              | refine r_do rfl (by first | with_reducible rfl | assumption | decide) ?_
              | refine r_skip rfl (by first | with_reducible rfl | assumption | decide) ?_
              | refine r_skipU rfl ?_
              | refine r_fad rfl rfl ?_
              | refine r_add rfl rfl (by omega) ?_
              | refine r_sub rfl rfl (by omega) ?_
              | refine r_loadAll rfl (by first | rfl | assumption) ?_
              | refine r_loadAllB rfl rfl (by first | rfl | assumption) ?_
              | refine r_pick_t rfl (by first | with_reducible rfl | assumption | decide) rfl rfl ?_
              | refine r_pick_f rfl (by first | with_reducible rfl | assumption | decide) rfl rfl ?_
              | refine r_sem rfl rfl rfl rfl ?_
              | refine r_nil ?_
              | refine r_iad rfl rfl (by omega) (by assumption) (by first | rfl | assumption | omega | (simp; done) | (simp; omega)) ?_
              | refine r_storeAll rfl rfl rfl rfl rfl rfl ?_
              | refine r_store rfl rfl rfl rfl (by decide) ?_
              | refine r_store rfl rfl rfl rfl (And.intro rfl (Nat.le_of_ble_eq_true rfl)) ?_
              | refine r_alloc rfl ?_
              | refine r_box rfl rfl rfl ?_
              | refine r_bsl rfl rfl rfl rfl rfl rfl ?_
              | refine r_bsl1 rfl (by assumption) rfl ?_
              | refine r_mkmap rfl ?_
              | refine r_mv_nil rfl ?_
              | refine r_mv_own rfl rfl ?_
              | refine r_mv_mp rfl rfl ?_
              | refine r_mv_row rfl rfl (by first | rfl | assumption | omega | (simp; done) | (simp; omega)) ?_
              | refine r_mv_rp rfl rfl (by first | rfl | assumption | omega | (simp; done) | (simp; omega)) ?_
              | refine r_fad_rp rfl rfl (by first | rfl | assumption | omega | (simp; done) | (simp; omega)) ?_
              | refine r_iad_row rfl rfl (by first | rfl | assumption | omega | (simp; done) | (simp; omega)) rfl (by first | rfl | assumption | omega | (simp; done) | (simp; omega)) ?_
              | refine r_skip0 rfl (by first | with_reducible rfl | assumption | decide) ?_
              | refine r_skipU0 rfl ?_
              | refine r_semF rfl rfl rfl rfl ?_
              | refine r_load_rp rfl rfl (by assumption) rfl ?_
              | refine r_len_row rfl rfl (by first | rfl | assumption | omega | (simp; done) | (simp; omega)) ?_
              | refine run_seq ?_
              | refine run_reg ?_
              | refine run_regd rfl ?_
              | refine run_block ?_
              | refine run_skip ?_
              | refine run_exit ?_
              | refine run_ret ?_
              | refine fin_seq ?_
              | refine fin_seq_e ?_
              | refine fin_seq_r ?_
              | refine fin_blk ?_
              | refine fin_blk_e ?_
              | refine fin_blk_x rfl ?_
              | refine fin_blk_r ?_
              | refine fin_loop_e ?_
              | refine fin_loop_r ?_
              | refine run_cond_t rfl (by first | with_reducible rfl | assumption | decide) ?_
              | refine run_cond_f rfl (by first | with_reducible rfl | assumption | decide) ?_)
            refine fin_loop (run_weak (weak_S ?_ ?_) (ihk (k + 1) hlk (by omega)))
            · exact ⟨rfl, rfl, rfl, rfl, rfl, rfl, rfl, rfl, rfl, tb rfl hE, rfl, trivial⟩
            · exact ⟨rfl, rfl, rfl, rfl, trivial⟩
      · have hki : k = i := by simp at h3; omega
        clear ihk
        subst hki
        obtain ⟨c, hc⟩ : ∃ c, c = (vB u && !(x.us.take k).any (twQ u)) := ⟨_, rfl⟩
        have hcnt : cnt x.us k = c := by simp [cnt, hget, hc]
        rw [← hc]
        obtain ⟨ub, hub⟩ : ∃ ub, used[k]? = some ub := ⟨used[k]'(by omega), List.getElem?_eq_getElem (by omega)⟩
        have hcand : cand x.us used k = (c && !ub) := by simp [cand, hcnt, List.getD, hub]
        have hfu : facAt x.us k = u.f := by simp [facAt, hget]
        have hus' : ldv (used.map bv) (0 + ((k : Nat) : Int).toNat * 1) 1 false = some (.v (.bool ub)) := by simp [ldv, hub, bv]
        rcases hsp with ⟨hp1, hp2⟩ | ⟨a, hp1, ha1, ha2, ha3, ha4⟩
        · rw [hp1]
          cases c with
          | false =>
            repeat (first
              | refine r_aad rfl rfl rfl (by omega) ?_
              | refine r_loadO rfl rfl hus' ?_
              | refine r_mv_p rfl ?_
              | refine r_do rfl (by first | with_reducible rfl | assumption | decide) ?_
              | refine r_skip rfl (by first | with_reducible rfl | assumption | decide) ?_
              | refine r_skipU rfl ?_
              | refine r_fad rfl rfl ?_
              | refine r_add rfl rfl (by omega) ?_
              | refine r_sub rfl rfl (by omega) ?_
              | refine r_loadAll rfl (by first | rfl | assumption) ?_
              | refine r_loadAllB rfl rfl (by first | rfl | assumption) ?_
              | refine r_pick_t rfl (by first | with_reducible rfl | assumption | decide) rfl rfl ?_
              | refine r_pick_f rfl (by first | with_reducible rfl | assumption | decide) rfl rfl ?_
              | refine r_sem rfl rfl rfl rfl ?_
              | refine r_nil ?_
              | refine r_iad rfl rfl (by omega) (by assumption) (by first | rfl | assumption | omega | (simp; done) | (simp; omega)) ?_
              | refine r_storeAll rfl rfl rfl rfl rfl rfl ?_
              | refine r_store rfl rfl rfl rfl (by decide) ?_
              | refine r_store rfl rfl rfl rfl (And.intro rfl (Nat.le_of_ble_eq_true rfl)) ?_
              | refine r_alloc rfl ?_
              | refine r_box rfl rfl rfl ?_
              | refine r_bsl rfl rfl rfl rfl rfl rfl ?_
              | refine r_bsl1 rfl (by assumption) rfl ?_
              | refine r_mkmap rfl ?_
              | refine r_mv_nil rfl ?_
              | refine r_mv_own rfl rfl ?_
              | refine r_mv_mp rfl rfl ?_
              | refine r_mv_row rfl rfl (by first | rfl | assumption | omega | (simp; done) | (simp; omega)) ?_
              | refine r_mv_rp rfl rfl (by first | rfl | assumption | omega | (simp; done) | (simp; omega)) ?_
              | refine r_fad_rp rfl rfl (by first | rfl | assumption | omega | (simp; done) | (simp; omega)) ?_
              | refine r_iad_row rfl rfl (by first | rfl | assumption | omega | (simp; done) | (simp; omega)) rfl (by first | rfl | assumption | omega | (simp; done) | (simp; omega)) ?_
              | refine r_skip0 rfl (by first | with_reducible rfl | assumption | decide) ?_
              | refine r_skipU0 rfl ?_
              | refine r_semF rfl rfl rfl rfl ?_
              | refine r_load_rp rfl rfl (by assumption) rfl ?_
              | refine r_len_row rfl rfl (by first | rfl | assumption | omega | (simp; done) | (simp; omega)) ?_
              | refine run_seq ?_
              | refine run_reg ?_
              | refine run_regd rfl ?_
              | refine run_block ?_
              | refine run_skip ?_
              | refine run_exit ?_
              | refine run_ret ?_
              | refine fin_seq ?_
              | refine fin_seq_e ?_
              | refine fin_seq_r ?_
              | refine fin_blk ?_
              | refine fin_blk_e ?_
              | refine fin_blk_x rfl ?_
              | refine fin_blk_r ?_
              | refine fin_loop_e ?_
              | refine fin_loop_r ?_
              | refine run_cond_t rfl (by first | with_reducible rfl | assumption | decide) ?_
              | refine run_cond_f rfl (by first | with_reducible rfl | assumption | decide) ?_)
            refine fin_loop (run_weak (weak_S ?_ ?_) (ihi (k + 1) hlt (by omega)))
            · exact ⟨rfl, rfl, rfl, rfl, rfl, rfl, ti rfl (by simp [pickA, hcand, hp1]), rfl, trivial⟩
            · exact ⟨rfl, rfl, rfl, trivial⟩
          | true =>
            cases ub with
            | true =>
              repeat (first
                | refine r_aad rfl rfl rfl (by omega) ?_
                | refine r_loadO rfl rfl hus' ?_
                | refine r_mv_p rfl ?_
                | refine r_do rfl (by first | with_reducible rfl | assumption | decide) ?_
                | refine r_skip rfl (by first | with_reducible rfl | assumption | decide) ?_
                | refine r_skipU rfl ?_
                | refine r_fad rfl rfl ?_
                | refine r_add rfl rfl (by omega) ?_
                | refine r_sub rfl rfl (by omega) ?_
                | refine r_loadAll rfl (by first | rfl | assumption) ?_
                | refine r_loadAllB rfl rfl (by first | rfl | assumption) ?_
                | refine r_pick_t rfl (by first | with_reducible rfl | assumption | decide) rfl rfl ?_
                | refine r_pick_f rfl (by first | with_reducible rfl | assumption | decide) rfl rfl ?_
                | refine r_sem rfl rfl rfl rfl ?_
                | refine r_nil ?_
                | refine r_iad rfl rfl (by omega) (by assumption) (by first | rfl | assumption | omega | (simp; done) | (simp; omega)) ?_
                | refine r_storeAll rfl rfl rfl rfl rfl rfl ?_
                | refine r_store rfl rfl rfl rfl (by decide) ?_
                | refine r_store rfl rfl rfl rfl (And.intro rfl (Nat.le_of_ble_eq_true rfl)) ?_
                | refine r_alloc rfl ?_
                | refine r_box rfl rfl rfl ?_
                | refine r_bsl rfl rfl rfl rfl rfl rfl ?_
                | refine r_bsl1 rfl (by assumption) rfl ?_
                | refine r_mkmap rfl ?_
                | refine r_mv_nil rfl ?_
                | refine r_mv_own rfl rfl ?_
                | refine r_mv_mp rfl rfl ?_
                | refine r_mv_row rfl rfl (by first | rfl | assumption | omega | (simp; done) | (simp; omega)) ?_
                | refine r_mv_rp rfl rfl (by first | rfl | assumption | omega | (simp; done) | (simp; omega)) ?_
                | refine r_fad_rp rfl rfl (by first | rfl | assumption | omega | (simp; done) | (simp; omega)) ?_
                | refine r_iad_row rfl rfl (by first | rfl | assumption | omega | (simp; done) | (simp; omega)) rfl (by first | rfl | assumption | omega | (simp; done) | (simp; omega)) ?_
                | refine r_skip0 rfl (by first | with_reducible rfl | assumption | decide) ?_
                | refine r_skipU0 rfl ?_
                | refine r_semF rfl rfl rfl rfl ?_
                | refine r_load_rp rfl rfl (by assumption) rfl ?_
                | refine r_len_row rfl rfl (by first | rfl | assumption | omega | (simp; done) | (simp; omega)) ?_
                | refine run_seq ?_
                | refine run_reg ?_
                | refine run_regd rfl ?_
                | refine run_block ?_
                | refine run_skip ?_
                | refine run_exit ?_
                | refine run_ret ?_
                | refine fin_seq ?_
                | refine fin_seq_e ?_
                | refine fin_seq_r ?_
                | refine fin_blk ?_
                | refine fin_blk_e ?_
                | refine fin_blk_x rfl ?_
                | refine fin_blk_r ?_
                | refine fin_loop_e ?_
                | refine fin_loop_r ?_
                | refine run_cond_t rfl (by first | with_reducible rfl | assumption | decide) ?_
                | refine run_cond_f rfl (by first | with_reducible rfl | assumption | decide) ?_)
              refine fin_loop (run_weak (weak_S ?_ ?_) (ihi (k + 1) hlt (by omega)))
              · exact ⟨rfl, rfl, rfl, rfl, rfl, rfl, ti rfl (by simp [pickA, hcand, hp1]), rfl, trivial⟩
              · exact ⟨rfl, rfl, rfl, trivial⟩
            | false =>
              repeat (first
                | refine r_aad rfl rfl rfl (by omega) ?_
                | refine r_loadO rfl rfl hus' ?_
                | refine r_mv_p rfl ?_
                | refine r_do rfl (by first | with_reducible rfl | assumption | decide) ?_
                | refine r_skip rfl (by first | with_reducible rfl | assumption | decide) ?_
                | refine r_skipU rfl ?_
                | refine r_fad rfl rfl ?_
                | refine r_add rfl rfl (by omega) ?_
                | refine r_sub rfl rfl (by omega) ?_
                | refine r_loadAll rfl (by first | rfl | assumption) ?_
                | refine r_loadAllB rfl rfl (by first | rfl | assumption) ?_
                | refine r_pick_t rfl (by first | with_reducible rfl | assumption | decide) rfl rfl ?_
                | refine r_pick_f rfl (by first | with_reducible rfl | assumption | decide) rfl rfl ?_
                | refine r_sem rfl rfl rfl rfl ?_
                | refine r_nil ?_
                | refine r_iad rfl rfl (by omega) (by assumption) (by first | rfl | assumption | omega | (simp; done) | (simp; omega)) ?_
                | refine r_storeAll rfl rfl rfl rfl rfl rfl ?_
                | refine r_store rfl rfl rfl rfl (by decide) ?_
                | refine r_store rfl rfl rfl rfl (And.intro rfl (Nat.le_of_ble_eq_true rfl)) ?_
                | refine r_alloc rfl ?_
                | refine r_box rfl rfl rfl ?_
                | refine r_bsl rfl rfl rfl rfl rfl rfl ?_
                | refine r_bsl1 rfl (by assumption) rfl ?_
                | refine r_mkmap rfl ?_
                | refine r_mv_nil rfl ?_
                | refine r_mv_own rfl rfl ?_
                | refine r_mv_mp rfl rfl ?_
                | refine r_mv_row rfl rfl (by first | rfl | assumption | omega | (simp; done) | (simp; omega)) ?_
                | refine r_mv_rp rfl rfl (by first | rfl | assumption | omega | (simp; done) | (simp; omega)) ?_
                | refine r_fad_rp rfl rfl (by first | rfl | assumption | omega | (simp; done) | (simp; omega)) ?_
                | refine r_iad_row rfl rfl (by first | rfl | assumption | omega | (simp; done) | (simp; omega)) rfl (by first | rfl | assumption | omega | (simp; done) | (simp; omega)) ?_
                | refine r_skip0 rfl (by first | with_reducible rfl | assumption | decide) ?_
                | refine r_skipU0 rfl ?_
                | refine r_semF rfl rfl rfl rfl ?_
                | refine r_load_rp rfl rfl (by assumption) rfl ?_
                | refine r_len_row rfl rfl (by first | rfl | assumption | omega | (simp; done) | (simp; omega)) ?_
                | refine run_seq ?_
                | refine run_reg ?_
                | refine run_regd rfl ?_
                | refine run_block ?_
                | refine run_skip ?_
                | refine run_exit ?_
                | refine run_ret ?_
                | refine fin_seq ?_
                | refine fin_seq_e ?_
                | refine fin_seq_r ?_
                | refine fin_blk ?_
                | refine fin_blk_e ?_
                | refine fin_blk_x rfl ?_
                | refine fin_blk_r ?_
                | refine fin_loop_e ?_
                | refine fin_loop_r ?_
                | refine run_cond_t rfl (by first | with_reducible rfl | assumption | decide) ?_
                | refine run_cond_f rfl (by first | with_reducible rfl | assumption | decide) ?_)
              refine fin_loop (run_weak (weak_S ?_ ?_) (ihi (k + 1) hlt (by omega)))
              · exact ⟨rfl, rfl, rfl, rfl, rfl, rfl, ti rfl (by simp [pickA, hcand, hp1]), rfl, trivial⟩
              · exact ⟨rfl, rfl, rfl, trivial⟩
        · rw [hp1]
          have hd : decide ((a : Int) < 0) = false := decide_eq_false (by omega)
          have hfa : ldv x.enc (0 + 1 + ((a : Nat) : Int).toNat * 2 + 1) 1 false = some (.v (.int .i64 (facAt x.us a))) := by
            have : a = 0 ∨ a = 1 ∨ a = 2 := by omega
            rcases this with rfl | rfl | rfl <;> rfl
          cases c with
          | false =>
            repeat (first
              | refine r_aad rfl rfl rfl (by omega) ?_
              | refine r_loadO rfl rfl hus' ?_
              | refine r_loadO rfl rfl hfa ?_
              | refine r_mv_p rfl ?_
              | refine r_do rfl (by first | with_reducible rfl | assumption | decide) ?_
              | refine r_skip rfl (by first | with_reducible rfl | assumption | decide) ?_
              | refine r_skipU rfl ?_
              | refine r_fad rfl rfl ?_
              | refine r_add rfl rfl (by omega) ?_
              | refine r_sub rfl rfl (by omega) ?_
              | refine r_loadAll rfl (by first | rfl | assumption) ?_
              | refine r_loadAllB rfl rfl (by first | rfl | assumption) ?_
              | refine r_pick_t rfl (by first | with_reducible rfl | assumption | decide) rfl rfl ?_
              | refine r_pick_f rfl (by first | with_reducible rfl | assumption | decide) rfl rfl ?_
              | refine r_sem rfl rfl rfl rfl ?_
              | refine r_nil ?_
              | refine r_iad rfl rfl (by omega) (by assumption) (by first | rfl | assumption | omega | (simp; done) | (simp; omega)) ?_
              | refine r_storeAll rfl rfl rfl rfl rfl rfl ?_
              | refine r_store rfl rfl rfl rfl (by decide) ?_
              | refine r_store rfl rfl rfl rfl (And.intro rfl (Nat.le_of_ble_eq_true rfl)) ?_
              | refine r_alloc rfl ?_
              | refine r_box rfl rfl rfl ?_
              | refine r_bsl rfl rfl rfl rfl rfl rfl ?_
              | refine r_bsl1 rfl (by assumption) rfl ?_
              | refine r_mkmap rfl ?_
              | refine r_mv_nil rfl ?_
              | refine r_mv_own rfl rfl ?_
              | refine r_mv_mp rfl rfl ?_
              | refine r_mv_row rfl rfl (by first | rfl | assumption | omega | (simp; done) | (simp; omega)) ?_
              | refine r_mv_rp rfl rfl (by first | rfl | assumption | omega | (simp; done) | (simp; omega)) ?_
              | refine r_fad_rp rfl rfl (by first | rfl | assumption | omega | (simp; done) | (simp; omega)) ?_
              | refine r_iad_row rfl rfl (by first | rfl | assumption | omega | (simp; done) | (simp; omega)) rfl (by first | rfl | assumption | omega | (simp; done) | (simp; omega)) ?_
              | refine r_skip0 rfl (by first | with_reducible rfl | assumption | decide) ?_
              | refine r_skipU0 rfl ?_
              | refine r_semF rfl rfl rfl rfl ?_
              | refine r_load_rp rfl rfl (by assumption) rfl ?_
              | refine r_len_row rfl rfl (by first | rfl | assumption | omega | (simp; done) | (simp; omega)) ?_
              | refine run_seq ?_
              | refine run_reg ?_
              | refine run_regd rfl ?_
              | refine run_block ?_
              | refine run_skip ?_
              | refine run_exit ?_
              | refine run_ret ?_
              | refine fin_seq ?_
              | refine fin_seq_e ?_
              | refine fin_seq_r ?_
              | refine fin_blk ?_
              | refine fin_blk_e ?_
              | refine fin_blk_x rfl ?_
              | refine fin_blk_r ?_
              | refine fin_loop_e ?_
              | refine fin_loop_r ?_
              | refine run_cond_t rfl (by first | with_reducible rfl | assumption | decide) ?_
              | refine run_cond_f rfl (by first | with_reducible rfl | assumption | decide) ?_)
            refine fin_loop (run_weak (weak_S ?_ ?_) (ihi (k + 1) hlt (by omega)))
            · exact ⟨rfl, rfl, rfl, rfl, rfl, rfl, ti rfl (by simp [pickA, hcand, hp1]), rfl, trivial⟩
            · exact ⟨rfl, rfl, rfl, trivial⟩
          | true =>
            cases ub with
            | true =>
              repeat (first
                | refine r_aad rfl rfl rfl (by omega) ?_
                | refine r_loadO rfl rfl hus' ?_
                | refine r_loadO rfl rfl hfa ?_
                | refine r_mv_p rfl ?_
                | refine r_do rfl (by first | with_reducible rfl | assumption | decide) ?_
                | refine r_skip rfl (by first | with_reducible rfl | assumption | decide) ?_
                | refine r_skipU rfl ?_
                | refine r_fad rfl rfl ?_
                | refine r_add rfl rfl (by omega) ?_
                | refine r_sub rfl rfl (by omega) ?_
                | refine r_loadAll rfl (by first | rfl | assumption) ?_
                | refine r_loadAllB rfl rfl (by first | rfl | assumption) ?_
                | refine r_pick_t rfl (by first | with_reducible rfl | assumption | decide) rfl rfl ?_
                | refine r_pick_f rfl (by first | with_reducible rfl | assumption | decide) rfl rfl ?_
                | refine r_sem rfl rfl rfl rfl ?_
                | refine r_nil ?_
                | refine r_iad rfl rfl (by omega) (by assumption) (by first | rfl | assumption | omega | (simp; done) | (simp; omega)) ?_
                | refine r_storeAll rfl rfl rfl rfl rfl rfl ?_
                | refine r_store rfl rfl rfl rfl (by decide) ?_
                | refine r_store rfl rfl rfl rfl (And.intro rfl (Nat.le_of_ble_eq_true rfl)) ?_
                | refine r_alloc rfl ?_
                | refine r_box rfl rfl rfl ?_
                | refine r_bsl rfl rfl rfl rfl rfl rfl ?_
                | refine r_bsl1 rfl (by assumption) rfl ?_
                | refine r_mkmap rfl ?_
                | refine r_mv_nil rfl ?_
                | refine r_mv_own rfl rfl ?_
                | refine r_mv_mp rfl rfl ?_
                | refine r_mv_row rfl rfl (by first | rfl | assumption | omega | (simp; done) | (simp; omega)) ?_
                | refine r_mv_rp rfl rfl (by first | rfl | assumption | omega | (simp; done) | (simp; omega)) ?_
                | refine r_fad_rp rfl rfl (by first | rfl | assumption | omega | (simp; done) | (simp; omega)) ?_
                | refine r_iad_row rfl rfl (by first | rfl | assumption | omega | (simp; done) | (simp; omega)) rfl (by first | rfl | assumption | omega | (simp; done) | (simp; omega)) ?_
                | refine r_skip0 rfl (by first | with_reducible rfl | assumption | decide) ?_
                | refine r_skipU0 rfl ?_
                | refine r_semF rfl rfl rfl rfl ?_
                | refine r_load_rp rfl rfl (by assumption) rfl ?_
                | refine r_len_row rfl rfl (by first | rfl | assumption | omega | (simp; done) | (simp; omega)) ?_
                | refine run_seq ?_
                | refine run_reg ?_
                | refine run_regd rfl ?_
                | refine run_block ?_
                | refine run_skip ?_
                | refine run_exit ?_
                | refine run_ret ?_
                | refine fin_seq ?_
                | refine fin_seq_e ?_
                | refine fin_seq_r ?_
                | refine fin_blk ?_
                | refine fin_blk_e ?_
                | refine fin_blk_x rfl ?_
                | refine fin_blk_r ?_
                | refine fin_loop_e ?_
                | refine fin_loop_r ?_
                | refine run_cond_t rfl (by first | with_reducible rfl | assumption | decide) ?_
                | refine run_cond_f rfl (by first | with_reducible rfl | assumption | decide) ?_)
              refine fin_loop (run_weak (weak_S ?_ ?_) (ihi (k + 1) hlt (by omega)))
              · exact ⟨rfl, rfl, rfl, rfl, rfl, rfl, ti rfl (by simp [pickA, hcand, hp1]), rfl, trivial⟩
              · exact ⟨rfl, rfl, rfl, trivial⟩
            | false =>
              cases hg : decide (facAt x.us a < u.f) with
              | true =>
                repeat (first
                  | refine r_aad rfl rfl rfl (by omega) ?_
                  | refine r_loadO rfl rfl hus' ?_
                  | refine r_loadO rfl rfl hfa ?_
                  | refine r_mv_p rfl ?_
                  | refine r_do rfl (by first | with_reducible rfl | assumption | decide) ?_
                  | refine r_skip rfl (by first | with_reducible rfl | assumption | decide) ?_
                  | refine r_skipU rfl ?_
                  | refine r_fad rfl rfl ?_
                  | refine r_add rfl rfl (by omega) ?_
                  | refine r_sub rfl rfl (by omega) ?_
                  | refine r_loadAll rfl (by first | rfl | assumption) ?_
                  | refine r_loadAllB rfl rfl (by first | rfl | assumption) ?_
                  | refine r_pick_t rfl (by first | with_reducible rfl | assumption | decide) rfl rfl ?_
                  | refine r_pick_f rfl (by first | with_reducible rfl | assumption | decide) rfl rfl ?_
                  | refine r_sem rfl rfl rfl rfl ?_
                  | refine r_nil ?_
                  | refine r_iad rfl rfl (by omega) (by assumption) (by first | rfl | assumption | omega | (simp; done) | (simp; omega)) ?_
                  | refine r_storeAll rfl rfl rfl rfl rfl rfl ?_
                  | refine r_store rfl rfl rfl rfl (by decide) ?_
                  | refine r_store rfl rfl rfl rfl (And.intro rfl (Nat.le_of_ble_eq_true rfl)) ?_
                  | refine r_alloc rfl ?_
                  | refine r_box rfl rfl rfl ?_
                  | refine r_bsl rfl rfl rfl rfl rfl rfl ?_
                  | refine r_bsl1 rfl (by assumption) rfl ?_
                  | refine r_mkmap rfl ?_
                  | refine r_mv_nil rfl ?_
                  | refine r_mv_own rfl rfl ?_
                  | refine r_mv_mp rfl rfl ?_
                  | refine r_mv_row rfl rfl (by first | rfl | assumption | omega | (simp; done) | (simp; omega)) ?_
                  | refine r_mv_rp rfl rfl (by first | rfl | assumption | omega | (simp; done) | (simp; omega)) ?_
                  | refine r_fad_rp rfl rfl (by first | rfl | assumption | omega | (simp; done) | (simp; omega)) ?_
                  | refine r_iad_row rfl rfl (by first | rfl | assumption | omega | (simp; done) | (simp; omega)) rfl (by first | rfl | assumption | omega | (simp; done) | (simp; omega)) ?_
                  | refine r_skip0 rfl (by first | with_reducible rfl | assumption | decide) ?_
                  | refine r_skipU0 rfl ?_
                  | refine r_semF rfl rfl rfl rfl ?_
                  | refine r_load_rp rfl rfl (by assumption) rfl ?_
                  | refine r_len_row rfl rfl (by first | rfl | assumption | omega | (simp; done) | (simp; omega)) ?_
                  | refine run_seq ?_
                  | refine run_reg ?_
                  | refine run_regd rfl ?_
                  | refine run_block ?_
                  | refine run_skip ?_
                  | refine run_exit ?_
                  | refine run_ret ?_
                  | refine fin_seq ?_
                  | refine fin_seq_e ?_
                  | refine fin_seq_r ?_
                  | refine fin_blk ?_
                  | refine fin_blk_e ?_
                  | refine fin_blk_x rfl ?_
                  | refine fin_blk_r ?_
                  | refine fin_loop_e ?_
                  | refine fin_loop_r ?_
                  | refine run_cond_t rfl (by first | with_reducible rfl | assumption | decide) ?_
                  | refine run_cond_f rfl (by first | with_reducible rfl | assumption | decide) ?_)
                refine fin_loop (run_weak (weak_S ?_ ?_) (ihi (k + 1) hlt (by omega)))
                · exact ⟨rfl, rfl, rfl, rfl, rfl, rfl, ti rfl (by simp [pickA, hcand, hp1, hfu, of_decide_eq_true hg]), rfl, trivial⟩
                · exact ⟨rfl, rfl, rfl, trivial⟩
              | false =>
                repeat (first
                  | refine r_aad rfl rfl rfl (by omega) ?_
                  | refine r_loadO rfl rfl hus' ?_
                  | refine r_loadO rfl rfl hfa ?_
                  | refine r_mv_p rfl ?_
                  | refine r_do rfl (by first | with_reducible rfl | assumption | decide) ?_
                  | refine r_skip rfl (by first | with_reducible rfl | assumption | decide) ?_
                  | refine r_skipU rfl ?_
                  | refine r_fad rfl rfl ?_
                  | refine r_add rfl rfl (by omega) ?_
                  | refine r_sub rfl rfl (by omega) ?_
                  | refine r_loadAll rfl (by first | rfl | assumption) ?_
                  | refine r_loadAllB rfl rfl (by first | rfl | assumption) ?_
                  | refine r_pick_t rfl (by first | with_reducible rfl | assumption | decide) rfl rfl ?_
                  | refine r_pick_f rfl (by first | with_reducible rfl | assumption | decide) rfl rfl ?_
                  | refine r_sem rfl rfl rfl rfl ?_
                  | refine r_nil ?_
                  | refine r_iad rfl rfl (by omega) (by assumption) (by first | rfl | assumption | omega | (simp; done) | (simp; omega)) ?_
                  | refine r_storeAll rfl rfl rfl rfl rfl rfl ?_
                  | refine r_store rfl rfl rfl rfl (by decide) ?_
                  | refine r_store rfl rfl rfl rfl (And.intro rfl (Nat.le_of_ble_eq_true rfl)) ?_
                  | refine r_alloc rfl ?_
                  | refine r_box rfl rfl rfl ?_
                  | refine r_bsl rfl rfl rfl rfl rfl rfl ?_
                  | refine r_bsl1 rfl (by assumption) rfl ?_
                  | refine r_mkmap rfl ?_
                  | refine r_mv_nil rfl ?_
                  | refine r_mv_own rfl rfl ?_
                  | refine r_mv_mp rfl rfl ?_
                  | refine r_mv_row rfl rfl (by first | rfl | assumption | omega | (simp; done) | (simp; omega)) ?_
                  | refine r_mv_rp rfl rfl (by first | rfl | assumption | omega | (simp; done) | (simp; omega)) ?_
                  | refine r_fad_rp rfl rfl (by first | rfl | assumption | omega | (simp; done) | (simp; omega)) ?_
                  | refine r_iad_row rfl rfl (by first | rfl | assumption | omega | (simp; done) | (simp; omega)) rfl (by first | rfl | assumption | omega | (simp; done) | (simp; omega)) ?_
                  | refine r_skip0 rfl (by first | with_reducible rfl | assumption | decide) ?_
                  | refine r_skipU0 rfl ?_
                  | refine r_semF rfl rfl rfl rfl ?_
                  | refine r_load_rp rfl rfl (by assumption) rfl ?_
                  | refine r_len_row rfl rfl (by first | rfl | assumption | omega | (simp; done) | (simp; omega)) ?_
                  | refine run_seq ?_
                  | refine run_reg ?_
                  | refine run_regd rfl ?_
                  | refine run_block ?_
                  | refine run_skip ?_
                  | refine run_exit ?_
                  | refine run_ret ?_
                  | refine fin_seq ?_
                  | refine fin_seq_e ?_
                  | refine fin_seq_r ?_
                  | refine fin_blk ?_
                  | refine fin_blk_e ?_
                  | refine fin_blk_x rfl ?_
                  | refine fin_blk_r ?_
                  | refine fin_loop_e ?_
                  | refine fin_loop_r ?_
                  | refine run_cond_t rfl (by first | with_reducible rfl | assumption | decide) ?_
                  | refine run_cond_f rfl (by first | with_reducible rfl | assumption | decide) ?_)
                refine fin_loop (run_weak (weak_S ?_ ?_) (ihi (k + 1) hlt (by omega)))
                · exact ⟨rfl, rfl, rfl, rfl, rfl, rfl, ti rfl (by simp only [pickA, hcand, hp1, hfu, Int.toNat_natCast, hd, hg]; rfl), rfl, trivial⟩
                · exact ⟨rfl, rfl, rfl, trivial⟩
    · have hi4 : i = 4 := by simp at h2; omega
      subst hi4
      clear ihi
      rcases hsp with ⟨hp1, hp2⟩ | ⟨a, hp1, ha1, ha2, ha3, ha4⟩
      · rw [hp1]
        have hT : U.tgt x base = (out, b) := htl (rem_none (by rw [hus]; exact hp2))
        rw [hT]
        cases hbp : decide ((0 : Int) < b) with
        | true =>
          have hbp' := of_decide_eq_true hbp
          have hR : refOut (out, b) = out ++ [⟨eachB, b⟩] := by simp only [refOut]; rw [if_pos (by omega)]
          rw [hR, List.map_append]
          repeat (first
            | refine r_appRow (fs := [120]) rfl rfl rfl rfl rfl rfl (he b eachB) (hl b eachB) (by decide) (Or.inr rfl) ?_
            | refine r_mv_p rfl ?_
            | refine r_do rfl (by first | with_reducible rfl | assumption | decide) ?_
            | refine r_skip rfl (by first | with_reducible rfl | assumption | decide) ?_
            | refine r_skipU rfl ?_
            | refine r_fad rfl rfl ?_
            | refine r_add rfl rfl (by omega) ?_
            | refine r_sub rfl rfl (by omega) ?_
            | refine r_loadAll rfl (by first | rfl | assumption) ?_
            | refine r_loadAllB rfl rfl (by first | rfl | assumption) ?_
            | refine r_pick_t rfl (by first | with_reducible rfl | assumption | decide) rfl rfl ?_
            | refine r_pick_f rfl (by first | with_reducible rfl | assumption | decide) rfl rfl ?_
            | refine r_sem rfl rfl rfl rfl ?_
            | refine r_nil ?_
            | refine r_iad rfl rfl (by omega) (by assumption) (by first | rfl | assumption | omega | (simp; done) | (simp; omega)) ?_
            | refine r_storeAll rfl rfl rfl rfl rfl rfl ?_
            | refine r_store rfl rfl rfl rfl (by decide) ?_
            | refine r_store rfl rfl rfl rfl (And.intro rfl (Nat.le_of_ble_eq_true rfl)) ?_
            | refine r_alloc rfl ?_
            | refine r_box rfl rfl rfl ?_
            | refine r_bsl rfl rfl rfl rfl rfl rfl ?_
            | refine r_bsl1 rfl (by assumption) rfl ?_
            | refine r_mkmap rfl ?_
            | refine r_mv_nil rfl ?_
            | refine r_mv_own rfl rfl ?_
            | refine r_mv_mp rfl rfl ?_
            | refine r_mv_row rfl rfl (by first | rfl | assumption | omega | (simp; done) | (simp; omega)) ?_
            | refine r_mv_rp rfl rfl (by first | rfl | assumption | omega | (simp; done) | (simp; omega)) ?_
            | refine r_fad_rp rfl rfl (by first | rfl | assumption | omega | (simp; done) | (simp; omega)) ?_
            | refine r_iad_row rfl rfl (by first | rfl | assumption | omega | (simp; done) | (simp; omega)) rfl (by first | rfl | assumption | omega | (simp; done) | (simp; omega)) ?_
            | refine r_skip0 rfl (by first | with_reducible rfl | assumption | decide) ?_
            | refine r_skipU0 rfl ?_
            | refine r_semF rfl rfl rfl rfl ?_
            | refine r_load_rp rfl rfl (by assumption) rfl ?_
            | refine r_len_row rfl rfl (by first | rfl | assumption | omega | (simp; done) | (simp; omega)) ?_
            | refine run_seq ?_
            | refine run_reg ?_
            | refine run_regd rfl ?_
            | refine run_block ?_
            | refine run_skip ?_
            | refine run_exit ?_
            | refine run_ret ?_
            | refine fin_seq ?_
            | refine fin_seq_e ?_
            | refine fin_seq_r ?_
            | refine fin_blk ?_
            | refine fin_blk_e ?_
            | refine fin_blk_x rfl ?_
            | refine fin_blk_r ?_
            | refine fin_loop_e ?_
            | refine fin_loop_r ?_
            | refine run_cond_t rfl (by first | with_reducible rfl | assumption | decide) ?_
            | refine run_cond_f rfl (by first | with_reducible rfl | assumption | decide) ?_)
          exact fin_row rfl List.length_append.symm rfl rfl
        | false =>
          have hbp' := of_decide_eq_false hbp
          have hR : refOut (out, b) = out := by simp only [refOut]; rw [if_neg (by omega)]
          rw [hR]
          repeat (first
            | refine r_mv_p rfl ?_
            | refine r_do rfl (by first | with_reducible rfl | assumption | decide) ?_
            | refine r_skip rfl (by first | with_reducible rfl | assumption | decide) ?_
            | refine r_skipU rfl ?_
            | refine r_fad rfl rfl ?_
            | refine r_add rfl rfl (by omega) ?_
            | refine r_sub rfl rfl (by omega) ?_
            | refine r_loadAll rfl (by first | rfl | assumption) ?_
            | refine r_loadAllB rfl rfl (by first | rfl | assumption) ?_
            | refine r_pick_t rfl (by first | with_reducible rfl | assumption | decide) rfl rfl ?_
            | refine r_pick_f rfl (by first | with_reducible rfl | assumption | decide) rfl rfl ?_
            | refine r_sem rfl rfl rfl rfl ?_
            | refine r_nil ?_
            | refine r_iad rfl rfl (by omega) (by assumption) (by first | rfl | assumption | omega | (simp; done) | (simp; omega)) ?_
            | refine r_storeAll rfl rfl rfl rfl rfl rfl ?_
            | refine r_store rfl rfl rfl rfl (by decide) ?_
            | refine r_store rfl rfl rfl rfl (And.intro rfl (Nat.le_of_ble_eq_true rfl)) ?_
            | refine r_alloc rfl ?_
            | refine r_box rfl rfl rfl ?_
            | refine r_bsl rfl rfl rfl rfl rfl rfl ?_
            | refine r_bsl1 rfl (by assumption) rfl ?_
            | refine r_mkmap rfl ?_
            | refine r_mv_nil rfl ?_
            | refine r_mv_own rfl rfl ?_
            | refine r_mv_mp rfl rfl ?_
            | refine r_mv_row rfl rfl (by first | rfl | assumption | omega | (simp; done) | (simp; omega)) ?_
            | refine r_mv_rp rfl rfl (by first | rfl | assumption | omega | (simp; done) | (simp; omega)) ?_
            | refine r_fad_rp rfl rfl (by first | rfl | assumption | omega | (simp; done) | (simp; omega)) ?_
            | refine r_iad_row rfl rfl (by first | rfl | assumption | omega | (simp; done) | (simp; omega)) rfl (by first | rfl | assumption | omega | (simp; done) | (simp; omega)) ?_
            | refine r_skip0 rfl (by first | with_reducible rfl | assumption | decide) ?_
            | refine r_skipU0 rfl ?_
            | refine r_semF rfl rfl rfl rfl ?_
            | refine r_load_rp rfl rfl (by assumption) rfl ?_
            | refine r_len_row rfl rfl (by first | rfl | assumption | omega | (simp; done) | (simp; omega)) ?_
            | refine run_seq ?_
            | refine run_reg ?_
            | refine run_regd rfl ?_
            | refine run_block ?_
            | refine run_skip ?_
            | refine run_exit ?_
            | refine run_ret ?_
            | refine fin_seq ?_
            | refine fin_seq_e ?_
            | refine fin_seq_r ?_
            | refine fin_blk ?_
            | refine fin_blk_e ?_
            | refine fin_blk_x rfl ?_
            | refine fin_blk_r ?_
            | refine fin_loop_e ?_
            | refine fin_loop_r ?_
            | refine run_cond_t rfl (by first | with_reducible rfl | assumption | decide) ?_
            | refine run_cond_f rfl (by first | with_reducible rfl | assumption | decide) ?_)
          exact fin_row rfl rfl rfl rfl
      · rw [hp1]
        have hal : a < x.us.length := by omega
        obtain ⟨u, hu⟩ : ∃ u, u = x.us[a] := ⟨_, rfl⟩
        have hget : x.us[a]? = some u := by rw [hu]; exact List.getElem?_eq_getElem hal
        have hd : decide ((a : Int) < 0) = false := decide_eq_false (by omega)
        have hvn : ldv x.enc (0 + 1 + ((a : Nat) : Int).toNat * 2 + 0) 1 false = some (.v (.string u.name)) := by
          rw [hu]
          have : a = 0 ∨ a = 1 ∨ a = 2 ∨ a = 3 := by omega
          rcases this with rfl | rfl | rfl | rfl <;> rfl
        have hvf : ldv x.enc (0 + 1 + ((a : Nat) : Int).toNat * 2 + 1) 1 false = some (.v (.int .i64 u.f)) := by
          rw [hu]
          have : a = 0 ∨ a = 1 ∨ a = 2 ∨ a = 3 := by omega
          rcases this with rfl | rfl | rfl | rfl <;> rfl
        obtain ⟨hs1, hs2⟩ := rem_take (us := x.us) (used := used) hal (by omega) hget ha2 ha3 (by rw [hus]; exact ha4)
        have hf2 : 2 ≤ u.f := by
          have : cnt x.us a = true := by simp only [cand, Bool.and_eq_true] at ha2; exact ha2.1
          simp only [cnt, hget, vB, Bool.and_eq_true, decide_eq_true_eq] at this
          exact this.1.2
        have hset : splice (used.map bv) (0 + ((a : Nat) : Int).toNat * 1) [bv true] = (used.set a true).map bv := by
          rw [show 0 + ((a : Nat) : Int).toNat * 1 = a by omega]; exact splice_set used a (by omega)
        have hoff : 0 + ((a : Nat) : Int).toNat * 1 + 1 ≤ (used.map bv).length := by rw [List.length_map]; omega
        have hm0 : 0 ≤ max b 0 := by omega
        have hq : IntKind.i64.wrap ((max b 0).tdiv u.f) = max b 0 / u.f := wrap_quo ⟨hm0, by omega⟩ (by omega)
        have hstep : (srt (rem x.us (used.set a true))).foldl sstep (sstep (out, b) u) = U.tgt x base := by rw [← htgt, hs1]; rfl
        rw [← rstep_eq (out, b) hf2] at hstep
        have hqn : 0 ≤ max b 0 / u.f := Int.ediv_nonneg hm0 (by omega)
        have hdm := Int.ediv_mul_add_emod (max b 0) u.f
        have hmn := Int.emod_nonneg (max b 0) (show u.f ≠ 0 by omega)
        have hnf : 0 ≤ max b 0 / u.f * u.f := Int.mul_nonneg hqn (by omega)
        obtain ⟨n, hn⟩ : ∃ n, n = max b 0 / u.f := ⟨_, rfl⟩
        rw [← hn] at hq hqn hdm hnf
        simp only [rstep, ← hn] at hstep
        have hmw : IntKind.i64.wrap (n * u.f) = n * u.f := wrap_id ⟨by omega, by omega⟩
        cases hpos : decide ((0 : Int) < n) with
        | true =>
          have hpos' := of_decide_eq_true hpos
          rw [if_pos hpos'] at hstep
          have hb1 : b = max b 0 := by
            rcases Int.le_total b 0 with h' | h'
            · have : max b 0 = 0 := by omega
              rw [this, Int.zero_ediv] at hn; omega
            · omega
          repeat (first
            | refine r_aad rfl rfl rfl (by omega) ?_
            | refine r_loadO rfl rfl hvf ?_
            | refine r_loadO rfl rfl hvn ?_
            | refine r_store rfl rfl rfl rfl (And.intro rfl hoff) ?_
            | refine r_max rfl rfl ?_
            | refine r_quo2 rfl rfl (by omega) hq ?_
            | refine r_mul2 rfl rfl hmw ?_
            | refine r_appRow (fs := [104]) rfl rfl rfl rfl rfl rfl (he n u.name) (hl n u.name) (by decide) (Or.inl rfl) ?_
            | refine r_mv_p rfl ?_
            | refine r_do rfl (by first | with_reducible rfl | assumption | decide) ?_
            | refine r_skip rfl (by first | with_reducible rfl | assumption | decide) ?_
            | refine r_skipU rfl ?_
            | refine r_fad rfl rfl ?_
            | refine r_add rfl rfl (by omega) ?_
            | refine r_sub rfl rfl (by omega) ?_
            | refine r_loadAll rfl (by first | rfl | assumption) ?_
            | refine r_loadAllB rfl rfl (by first | rfl | assumption) ?_
            | refine r_pick_t rfl (by first | with_reducible rfl | assumption | decide) rfl rfl ?_
            | refine r_pick_f rfl (by first | with_reducible rfl | assumption | decide) rfl rfl ?_
            | refine r_sem rfl rfl rfl rfl ?_
            | refine r_nil ?_
            | refine r_iad rfl rfl (by omega) (by assumption) (by first | rfl | assumption | omega | (simp; done) | (simp; omega)) ?_
            | refine r_storeAll rfl rfl rfl rfl rfl rfl ?_
            | refine r_store rfl rfl rfl rfl (by decide) ?_
            | refine r_store rfl rfl rfl rfl (And.intro rfl (Nat.le_of_ble_eq_true rfl)) ?_
            | refine r_alloc rfl ?_
            | refine r_box rfl rfl rfl ?_
            | refine r_bsl rfl rfl rfl rfl rfl rfl ?_
            | refine r_bsl1 rfl (by assumption) rfl ?_
            | refine r_mkmap rfl ?_
            | refine r_mv_nil rfl ?_
            | refine r_mv_own rfl rfl ?_
            | refine r_mv_mp rfl rfl ?_
            | refine r_mv_row rfl rfl (by first | rfl | assumption | omega | (simp; done) | (simp; omega)) ?_
            | refine r_mv_rp rfl rfl (by first | rfl | assumption | omega | (simp; done) | (simp; omega)) ?_
            | refine r_fad_rp rfl rfl (by first | rfl | assumption | omega | (simp; done) | (simp; omega)) ?_
            | refine r_iad_row rfl rfl (by first | rfl | assumption | omega | (simp; done) | (simp; omega)) rfl (by first | rfl | assumption | omega | (simp; done) | (simp; omega)) ?_
            | refine r_skip0 rfl (by first | with_reducible rfl | assumption | decide) ?_
            | refine r_skipU0 rfl ?_
            | refine r_semF rfl rfl rfl rfl ?_
            | refine r_load_rp rfl rfl (by assumption) rfl ?_
            | refine r_len_row rfl rfl (by first | rfl | assumption | omega | (simp; done) | (simp; omega)) ?_
            | refine run_seq ?_
            | refine run_reg ?_
            | refine run_regd rfl ?_
            | refine run_block ?_
            | refine run_skip ?_
            | refine run_exit ?_
            | refine run_ret ?_
            | refine fin_seq ?_
            | refine fin_seq_e ?_
            | refine fin_seq_r ?_
            | refine fin_blk ?_
            | refine fin_blk_e ?_
            | refine fin_blk_x rfl ?_
            | refine fin_blk_r ?_
            | refine fin_loop_e ?_
            | refine fin_loop_r ?_
            | refine run_cond_t rfl (by first | with_reducible rfl | assumption | decide) ?_
            | refine run_cond_f rfl (by first | with_reducible rfl | assumption | decide) ?_)
          refine fin_loop (run_weak (weak_S ?_ ?_) (ih (r + 1, used.set a true, out ++ [⟨u.name, n⟩], b - n * u.f) ⟨hr4, by simp [hul], by simp only; omega, hstep, by simp only [List.length_append, List.length_cons, List.length_nil]; omega, by simp only; omega⟩ (by simp only; omega)))
          · exact ⟨rfl, rfl, rfl, by simp only [List.map_append, List.length_append]; rfl, rfl, rfl, trivial⟩
          · exact ⟨rfl, congrArg (fun z => some (Own.box z false)) hset, by simp only [List.map_append]; rfl, trivial⟩
        | false =>
          have hpos' := of_decide_eq_false hpos
          rw [if_neg hpos'] at hstep
          repeat (first
            | refine r_aad rfl rfl rfl (by omega) ?_
            | refine r_loadO rfl rfl hvf ?_
            | refine r_loadO rfl rfl hvn ?_
            | refine r_store rfl rfl rfl rfl (And.intro rfl hoff) ?_
            | refine r_max rfl rfl ?_
            | refine r_quo2 rfl rfl (by omega) hq ?_
            | refine r_mv_p rfl ?_
            | refine r_do rfl (by first | with_reducible rfl | assumption | decide) ?_
            | refine r_skip rfl (by first | with_reducible rfl | assumption | decide) ?_
            | refine r_skipU rfl ?_
            | refine r_fad rfl rfl ?_
            | refine r_add rfl rfl (by omega) ?_
            | refine r_sub rfl rfl (by omega) ?_
            | refine r_loadAll rfl (by first | rfl | assumption) ?_
            | refine r_loadAllB rfl rfl (by first | rfl | assumption) ?_
            | refine r_pick_t rfl (by first | with_reducible rfl | assumption | decide) rfl rfl ?_
            | refine r_pick_f rfl (by first | with_reducible rfl | assumption | decide) rfl rfl ?_
            | refine r_sem rfl rfl rfl rfl ?_
            | refine r_nil ?_
            | refine r_iad rfl rfl (by omega) (by assumption) (by first | rfl | assumption | omega | (simp; done) | (simp; omega)) ?_
            | refine r_storeAll rfl rfl rfl rfl rfl rfl ?_
            | refine r_store rfl rfl rfl rfl (by decide) ?_
            | refine r_store rfl rfl rfl rfl (And.intro rfl (Nat.le_of_ble_eq_true rfl)) ?_
            | refine r_alloc rfl ?_
            | refine r_box rfl rfl rfl ?_
            | refine r_bsl rfl rfl rfl rfl rfl rfl ?_
            | refine r_bsl1 rfl (by assumption) rfl ?_
            | refine r_mkmap rfl ?_
            | refine r_mv_nil rfl ?_
            | refine r_mv_own rfl rfl ?_
            | refine r_mv_mp rfl rfl ?_
            | refine r_mv_row rfl rfl (by first | rfl | assumption | omega | (simp; done) | (simp; omega)) ?_
            | refine r_mv_rp rfl rfl (by first | rfl | assumption | omega | (simp; done) | (simp; omega)) ?_
            | refine r_fad_rp rfl rfl (by first | rfl | assumption | omega | (simp; done) | (simp; omega)) ?_
            | refine r_iad_row rfl rfl (by first | rfl | assumption | omega | (simp; done) | (simp; omega)) rfl (by first | rfl | assumption | omega | (simp; done) | (simp; omega)) ?_
            | refine r_skip0 rfl (by first | with_reducible rfl | assumption | decide) ?_
            | refine r_skipU0 rfl ?_
            | refine r_semF rfl rfl rfl rfl ?_
            | refine r_load_rp rfl rfl (by assumption) rfl ?_
            | refine r_len_row rfl rfl (by first | rfl | assumption | omega | (simp; done) | (simp; omega)) ?_
            | refine run_seq ?_
            | refine run_reg ?_
            | refine run_regd rfl ?_
            | refine run_block ?_
            | refine run_skip ?_
            | refine run_exit ?_
            | refine run_ret ?_
            | refine fin_seq ?_
            | refine fin_seq_e ?_
            | refine fin_seq_r ?_
            | refine fin_blk ?_
            | refine fin_blk_e ?_
            | refine fin_blk_x rfl ?_
            | refine fin_blk_r ?_
            | refine fin_loop_e ?_
            | refine fin_loop_r ?_
            | refine run_cond_t rfl (by first | with_reducible rfl | assumption | decide) ?_
            | refine run_cond_f rfl (by first | with_reducible rfl | assumption | decide) ?_)
          refine fin_loop (run_weak (weak_S ?_ ?_) (ih (r + 1, used.set a true, out, b) ⟨hr4, by simp [hul], by simp only; omega, hstep, by simp only; omega, hb⟩ (by simp only; omega)))
          · exact ⟨rfl, rfl, rfl, rfl, rfl, rfl, trivial⟩
          · exact ⟨rfl, congrArg (fun z => some (Own.box z false)) hset, rfl, trivial⟩
  · have hr4 : r = 4 := by simp at h; omega
    clear ih
    have hr0 : rem x.us used = [] := by
      have : remI x.us used = [] := List.eq_nil_of_length_eq_zero (by omega)
      rw [rem, this]; rfl
    have hT : U.tgt x base = (out, b) := htl hr0
    rw [hT]
    cases hbp : decide ((0 : Int) < b) with
    | true =>
      have hbp' := of_decide_eq_true hbp
      have hR : refOut (out, b) = out ++ [⟨eachB, b⟩] := by simp only [refOut]; rw [if_pos (by omega)]
      rw [hR, List.map_append]
      repeat (first
        | refine r_appRow (fs := [120]) rfl rfl rfl rfl rfl rfl (he b eachB) (hl b eachB) (by decide) (Or.inr rfl) ?_
        | refine r_mv_p rfl ?_
        | refine r_do rfl (by first | with_reducible rfl | assumption | decide) ?_
        | refine r_skip rfl (by first | with_reducible rfl | assumption | decide) ?_
        | refine r_skipU rfl ?_
        | refine r_fad rfl rfl ?_
        | refine r_add rfl rfl (by omega) ?_
        | refine r_sub rfl rfl (by omega) ?_
        | refine r_loadAll rfl (by first | rfl | assumption) ?_
        | refine r_loadAllB rfl rfl (by first | rfl | assumption) ?_
        | refine r_pick_t rfl (by first | with_reducible rfl | assumption | decide) rfl rfl ?_
        | refine r_pick_f rfl (by first | with_reducible rfl | assumption | decide) rfl rfl ?_
        | refine r_sem rfl rfl rfl rfl ?_
        | refine r_nil ?_
        | refine r_iad rfl rfl (by omega) (by assumption) (by first | rfl | assumption | omega | (simp; done) | (simp; omega)) ?_
        | refine r_storeAll rfl rfl rfl rfl rfl rfl ?_
        | refine r_store rfl rfl rfl rfl (by decide) ?_
        | refine r_store rfl rfl rfl rfl (And.intro rfl (Nat.le_of_ble_eq_true rfl)) ?_
        | refine r_alloc rfl ?_
        | refine r_box rfl rfl rfl ?_
        | refine r_bsl rfl rfl rfl rfl rfl rfl ?_
        | refine r_bsl1 rfl (by assumption) rfl ?_
        | refine r_mkmap rfl ?_
        | refine r_mv_nil rfl ?_
        | refine r_mv_own rfl rfl ?_
        | refine r_mv_mp rfl rfl ?_
        | refine r_mv_row rfl rfl (by first | rfl | assumption | omega | (simp; done) | (simp; omega)) ?_
        | refine r_mv_rp rfl rfl (by first | rfl | assumption | omega | (simp; done) | (simp; omega)) ?_
        | refine r_fad_rp rfl rfl (by first | rfl | assumption | omega | (simp; done) | (simp; omega)) ?_
        | refine r_iad_row rfl rfl (by first | rfl | assumption | omega | (simp; done) | (simp; omega)) rfl (by first | rfl | assumption | omega | (simp; done) | (simp; omega)) ?_
        | refine r_skip0 rfl (by first | with_reducible rfl | assumption | decide) ?_
        | refine r_skipU0 rfl ?_
        | refine r_semF rfl rfl rfl rfl ?_
        | refine r_load_rp rfl rfl (by assumption) rfl ?_
        | refine r_len_row rfl rfl (by first | rfl | assumption | omega | (simp; done) | (simp; omega)) ?_
        | refine run_seq ?_
        | refine run_reg ?_
        | refine run_regd rfl ?_
        | refine run_block ?_
        | refine run_skip ?_
        | refine run_exit ?_
        | refine run_ret ?_
        | refine fin_seq ?_
        | refine fin_seq_e ?_
        | refine fin_seq_r ?_
        | refine fin_blk ?_
        | refine fin_blk_e ?_
        | refine fin_blk_x rfl ?_
        | refine fin_blk_r ?_
        | refine fin_loop_e ?_
        | refine fin_loop_r ?_
        | refine run_cond_t rfl (by first | with_reducible rfl | assumption | decide) ?_
        | refine run_cond_f rfl (by first | with_reducible rfl | assumption | decide) ?_)
      exact fin_row rfl List.length_append.symm rfl rfl
    | false =>
      have hbp' := of_decide_eq_false hbp
      have hR : refOut (out, b) = out := by simp only [refOut]; rw [if_neg (by omega)]
      rw [hR]
      repeat (first
        | refine r_mv_p rfl ?_
        | refine r_do rfl (by first | with_reducible rfl | assumption | decide) ?_
        | refine r_skip rfl (by first | with_reducible rfl | assumption | decide) ?_
        | refine r_skipU rfl ?_
        | refine r_fad rfl rfl ?_
        | refine r_add rfl rfl (by omega) ?_
        | refine r_sub rfl rfl (by omega) ?_
        | refine r_loadAll rfl (by first | rfl | assumption) ?_
        | refine r_loadAllB rfl rfl (by first | rfl | assumption) ?_
        | refine r_pick_t rfl (by first | with_reducible rfl | assumption | decide) rfl rfl ?_
        | refine r_pick_f rfl (by first | with_reducible rfl | assumption | decide) rfl rfl ?_
        | refine r_sem rfl rfl rfl rfl ?_
        | refine r_nil ?_
        | refine r_iad rfl rfl (by omega) (by assumption) (by first | rfl | assumption | omega | (simp; done) | (simp; omega)) ?_
        | refine r_storeAll rfl rfl rfl rfl rfl rfl ?_
        | refine r_store rfl rfl rfl rfl (by decide) ?_
        | refine r_store rfl rfl rfl rfl (And.intro rfl (Nat.le_of_ble_eq_true rfl)) ?_
        | refine r_alloc rfl ?_
        | refine r_box rfl rfl rfl ?_
        | refine r_bsl rfl rfl rfl rfl rfl rfl ?_
        | refine r_bsl1 rfl (by assumption) rfl ?_
        | refine r_mkmap rfl ?_
        | refine r_mv_nil rfl ?_
        | refine r_mv_own rfl rfl ?_
        | refine r_mv_mp rfl rfl ?_
        | refine r_mv_row rfl rfl (by first | rfl | assumption | omega | (simp; done) | (simp; omega)) ?_
        | refine r_mv_rp rfl rfl (by first | rfl | assumption | omega | (simp; done) | (simp; omega)) ?_
        | refine r_fad_rp rfl rfl (by first | rfl | assumption | omega | (simp; done) | (simp; omega)) ?_
        | refine r_iad_row rfl rfl (by first | rfl | assumption | omega | (simp; done) | (simp; omega)) rfl (by first | rfl | assumption | omega | (simp; done) | (simp; omega)) ?_
        | refine r_skip0 rfl (by first | with_reducible rfl | assumption | decide) ?_
        | refine r_skipU0 rfl ?_
        | refine r_semF rfl rfl rfl rfl ?_
        | refine r_load_rp rfl rfl (by assumption) rfl ?_
        | refine r_len_row rfl rfl (by first | rfl | assumption | omega | (simp; done) | (simp; omega)) ?_
        | refine run_seq ?_
        | refine run_reg ?_
        | refine run_regd rfl ?_
        | refine run_block ?_
        | refine run_skip ?_
        | refine run_exit ?_
        | refine run_ret ?_
        | refine fin_seq ?_
        | refine fin_seq_e ?_
        | refine fin_seq_r ?_
        | refine fin_blk ?_
        | refine fin_blk_e ?_
        | refine fin_blk_x rfl ?_
        | refine fin_blk_r ?_
        | refine fin_loop_e ?_
        | refine fin_loop_r ?_
        | refine run_cond_t rfl (by first | with_reducible rfl | assumption | decide) ?_
        | refine run_cond_f rfl (by first | with_reducible rfl | assumption | decide) ?_)
      exact fin_row rfl rfl rfl rfl

/-! ### The laws -/
theorem split_ref (x : It) (b : Int) (hf : Fits x.us) : split x b = refOut (U.tgt x b) := split_srt hf
theorem law_UnitsSplits (x : It) (n : Int) (hf : Fits x.us) (hn : n ≤ 9223372036854775807) : Ret Try.prog 7 [.agg x.enc, .v (.int .i64 n)] (.v (.bool true)) := by
  refine ret7 rfl fun hbd => ?_
  have h1 := (split11 x n hn).ret
  have h2 := (refSplit12 x n hn).ret
  rw [split_ref x n hf] at h1
  unfold c7
  repeat (first
    | refine r_call rfl (h1) ?_
    | refine r_call rfl (h2) ?_
    | refine r_call rfl (pairs10 (refOut (U.tgt x n)) (refOut (U.tgt x n)) [] [] rfl) ?_
    | refine r_call rfl (awake13) ?_
    | refine r_mv_p rfl ?_
    | refine r_do rfl (by first | with_reducible rfl | assumption | decide) ?_
    | refine r_skip rfl (by first | with_reducible rfl | assumption | decide) ?_
    | refine r_skipU rfl ?_
    | refine r_fad rfl rfl ?_
    | refine r_add rfl rfl (by omega) ?_
    | refine r_sub rfl rfl (by omega) ?_
    | refine r_loadAll rfl (by first | rfl | assumption) ?_
    | refine r_loadAllB rfl rfl (by first | rfl | assumption) ?_
    | refine r_pick_t rfl (by first | with_reducible rfl | assumption | decide) rfl rfl ?_
    | refine r_pick_f rfl (by first | with_reducible rfl | assumption | decide) rfl rfl ?_
    | refine r_sem rfl rfl rfl rfl ?_
    | refine r_nil ?_
    | refine r_iad rfl rfl (by omega) (by assumption) (by first | rfl | assumption | omega | (simp; done) | (simp; omega)) ?_
    | refine r_storeAll rfl rfl rfl rfl rfl rfl ?_
    | refine r_store rfl rfl rfl rfl (by decide) ?_
    | refine r_store rfl rfl rfl rfl (And.intro rfl (Nat.le_of_ble_eq_true rfl)) ?_
    | refine r_alloc rfl ?_
    | refine r_box rfl rfl rfl ?_
    | refine r_bsl rfl rfl rfl rfl rfl rfl ?_
    | refine r_bsl1 rfl (by assumption) rfl ?_
    | refine r_mkmap rfl ?_
    | refine r_mv_nil rfl ?_
    | refine r_mv_own rfl rfl ?_
    | refine r_mv_mp rfl rfl ?_
    | refine r_mv_row rfl rfl (by first | rfl | assumption | omega | (simp; done) | (simp; omega)) ?_
    | refine r_mv_rp rfl rfl (by first | rfl | assumption | omega | (simp; done) | (simp; omega)) ?_
    | refine r_fad_rp rfl rfl (by first | rfl | assumption | omega | (simp; done) | (simp; omega)) ?_
    | refine r_iad_row rfl rfl (by first | rfl | assumption | omega | (simp; done) | (simp; omega)) rfl (by first | rfl | assumption | omega | (simp; done) | (simp; omega)) ?_
    | refine r_skip0 rfl (by first | with_reducible rfl | assumption | decide) ?_
    | refine r_skipU0 rfl ?_
    | refine r_semF rfl rfl rfl rfl ?_
    | refine r_load_rp rfl rfl (by assumption) rfl ?_
    | refine r_len_row rfl rfl (by first | rfl | assumption | omega | (simp; done) | (simp; omega)) ?_
    | refine run_seq ?_
    | refine run_reg ?_
    | refine run_regd rfl ?_
    | refine run_block ?_
    | refine run_skip ?_
    | refine run_exit ?_
    | refine run_ret ?_
    | refine fin_seq ?_
    | refine fin_seq_e ?_
    | refine fin_seq_r ?_
    | refine fin_blk ?_
    | refine fin_blk_e ?_
    | refine fin_blk_x rfl ?_
    | refine fin_blk_r ?_
    | refine fin_loop_e ?_
    | refine fin_loop_r ?_
    | refine run_cond_t rfl (by first | with_reducible rfl | assumption | decide) ?_
    | refine run_cond_f rfl (by first | with_reducible rfl | assumption | decide) ?_)
  exact fin_out rfl rfl
theorem law_UnitsTurns (x : It) (unit : Str) (n : Int) (hf : Fits x.us) (hn : n ≤ 9223372036854775807) : Ret Try.prog 3 [.agg x.enc, .v (.string unit), .v (.int .i64 n)] (.v (.bool true)) := by
  refine ret3 rfl fun hbd => ?_
  have h1 := (split11 x n hn).ret
  have h2 := (refSplit12 x n hn).ret
  rw [split_ref x n hf] at h1
  have h9 := refBase9 x unit n
  rw [baseF_ref] at h9
  obtain ⟨⟨a, e⟩, hp⟩ : ∃ p, p = baseF (known x.us) unit n := ⟨_, rfl⟩
  have h8 := base8 x unit n
  rw [← hp] at h8 h9
  replace h8 : Ret Try.prog 8 [.agg x.enc, .v (.string unit), .v (.int .i64 n)] (.tup [.v (.int .i64 a), .v (.int .i64 e)]) := h8
  replace h9 : Ret Try.prog 9 [.agg x.enc, .v (.string unit), .v (.int .i64 n)] (.tup [.v (.int .i64 a), .v (.int .i64 e)]) := h9
  have hd1 : decide (a = a) = true := by simp
  have hd2 : decide (e = e) = true := by simp
  unfold c3
  repeat (first
    | refine r_call rfl (h8) ?_
    | refine r_call rfl (h9) ?_
    | refine r_call rfl (h1) ?_
    | refine r_call rfl (h2) ?_
    | refine r_call rfl (pairs10 (refOut (U.tgt x n)) (refOut (U.tgt x n)) [] [] rfl) ?_
    | refine r_call rfl (awake13) ?_
    | refine r_mv_p rfl ?_
    | refine r_do rfl (by first | with_reducible rfl | assumption | decide) ?_
    | refine r_skip rfl (by first | with_reducible rfl | assumption | decide) ?_
    | refine r_skipU rfl ?_
    | refine r_fad rfl rfl ?_
    | refine r_add rfl rfl (by omega) ?_
    | refine r_sub rfl rfl (by omega) ?_
    | refine r_loadAll rfl (by first | rfl | assumption) ?_
    | refine r_loadAllB rfl rfl (by first | rfl | assumption) ?_
    | refine r_pick_t rfl (by first | with_reducible rfl | assumption | decide) rfl rfl ?_
    | refine r_pick_f rfl (by first | with_reducible rfl | assumption | decide) rfl rfl ?_
    | refine r_sem rfl rfl rfl rfl ?_
    | refine r_nil ?_
    | refine r_iad rfl rfl (by omega) (by assumption) (by first | rfl | assumption | omega | (simp; done) | (simp; omega)) ?_
    | refine r_storeAll rfl rfl rfl rfl rfl rfl ?_
    | refine r_store rfl rfl rfl rfl (by decide) ?_
    | refine r_store rfl rfl rfl rfl (And.intro rfl (Nat.le_of_ble_eq_true rfl)) ?_
    | refine r_alloc rfl ?_
    | refine r_box rfl rfl rfl ?_
    | refine r_bsl rfl rfl rfl rfl rfl rfl ?_
    | refine r_bsl1 rfl (by assumption) rfl ?_
    | refine r_mkmap rfl ?_
    | refine r_mv_nil rfl ?_
    | refine r_mv_own rfl rfl ?_
    | refine r_mv_mp rfl rfl ?_
    | refine r_mv_row rfl rfl (by first | rfl | assumption | omega | (simp; done) | (simp; omega)) ?_
    | refine r_mv_rp rfl rfl (by first | rfl | assumption | omega | (simp; done) | (simp; omega)) ?_
    | refine r_fad_rp rfl rfl (by first | rfl | assumption | omega | (simp; done) | (simp; omega)) ?_
    | refine r_iad_row rfl rfl (by first | rfl | assumption | omega | (simp; done) | (simp; omega)) rfl (by first | rfl | assumption | omega | (simp; done) | (simp; omega)) ?_
    | refine r_skip0 rfl (by first | with_reducible rfl | assumption | decide) ?_
    | refine r_skipU0 rfl ?_
    | refine r_semF rfl rfl rfl rfl ?_
    | refine r_load_rp rfl rfl (by assumption) rfl ?_
    | refine r_len_row rfl rfl (by first | rfl | assumption | omega | (simp; done) | (simp; omega)) ?_
    | refine run_seq ?_
    | refine run_reg ?_
    | refine run_regd rfl ?_
    | refine run_block ?_
    | refine run_skip ?_
    | refine run_exit ?_
    | refine run_ret ?_
    | refine fin_seq ?_
    | refine fin_seq_e ?_
    | refine fin_seq_r ?_
    | refine fin_blk ?_
    | refine fin_blk_e ?_
    | refine fin_blk_x rfl ?_
    | refine fin_blk_r ?_
    | refine fin_loop_e ?_
    | refine fin_loop_r ?_
    | refine run_cond_t rfl (by first | with_reducible rfl | assumption | decide) ?_
    | refine run_cond_f rfl (by first | with_reducible rfl | assumption | decide) ?_)
  exact fin_out rfl rfl
end Go.Fw
