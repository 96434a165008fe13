/-
  The law RoomAdds.
-/
import Derived.Test.YtdmackpiohkanaaHRa
import Derived.Test.YtdmackpiohkanaaIrI
set_option linter.unusedVariables false
set_option linter.unusedSimpArgs false
set_option maxRecDepth 10000
namespace Go.Fw
open Go.Proofs

theorem bd_bins16 {h : House} (hbd : (PV.agg h.enc).bd) : h.bins.xs.length ≤ 9223372036854775807 := by
  have := hbd (h.bins.pv Bin.enc) (by simp [House.enc])
  simp only [Ls.pv, PV.bd1, List.length_append, List.length_map, maxLen] at this
  omega
def Alone (xs : List Bin) (n : Nat) : Prop := ∀ (i k : Nat) (x y : Bin), i < n → xs[i]? = some x → k < i → xs[k]? = some y → y.code ≠ x.code
theorem Alone.succ {xs : List Bin} {n : Nat} {x : Bin} (h : Alone xs n) (hx : xs[n]? = some x) (hn : ∀ k y, k < n → xs[k]? = some y → y.code ≠ x.code) : Alone xs (n + 1) := fun i k x' y' hi hx' hk hy' => by
  rcases Nat.lt_or_ge i n with h' | h'
  · exact h i k x' y' h' hx' hk hy'
  · obtain rfl : i = n := by omega
    rw [hx] at hx'; cases hx'
    exact hn k y' hk hy'
theorem Alone.nodup {xs : List Bin} (h : Alone xs xs.length) : (xs.map Bin.code).Nodup := by
  rw [List.Nodup, List.pairwise_map, List.pairwise_iff_getElem]
  intro i j hi hj hij e
  exact h j i xs[j] xs[i] hj (by simp [hj]) hij (by simp [hi]) e
/-- The house with the quant that is asked for. -/
def q16 (x : Ask) : Quant := ⟨x.bin, x.item, ⟨#[109, 111, 114, 101]⟩, 1, x.qty, 0⟩
def House.g16 (h : House) (x : Ask) : House := { h with quants := ⟨h.quants.xs ++ [q16 x], []⟩ }
theorem any_take_succ' {α : Type} (q : α → Bool) (xs : List α) (k : Nat) (hk : k < xs.length) : (xs.take (k + 1)).any q = ((xs.take k).any q || q xs[k]) := by
  have : xs.take (k + 1) = xs.take k ++ [xs[k]] := by simp
  rw [this, List.any_append]
  simp
theorem res_row16 {l : List (Nat × T)} {m : List (Nat × Option Own)} {n len ty es : Nat} {xs : List (List PV)} {fz : Bool} {x : Opd} (hx : (S l m).ev x = .row n len) (ho : ol m n = some (.row ty es xs fz)) (hle : len ≤ xs.length) : (S l m).res x = some (.row n len es xs) := by
  simp only [St.res, hx, lookT]
  rw [ho]; simp [hle]
theorem row_pv {n len es : Nat} {xs : List (List PV)} (h : len = xs.length) : (RA.row n len es xs).pv = some (.sl xs []) := by
  subst h
  simp only [RA.pv, List.take_length, List.drop_length]
theorem g16_enc (h : House) (x : Ask) : (h.g16 x).enc = splice h.enc 4 [.sl (h.quants.xs.map Quant.enc ++ [(q16 x).enc]) []] := by
  simp [House.g16, House.enc, Ls.pv, splice, List.map_append]
set_option maxHeartbeats 16000000 in
theorem law_RoomAdds (h : House) (x : Ask) : Ret Try.prog 16 [.agg h.enc, .agg x.enc] (.v (.bool true)) := by
  refine ret16 rfl fun hbd => ?_
  clear hbd
  have csm := small_ok h
  unfold c16
  cases hs : h.small with
  | false =>
    rw [hs] at csm
    repeat (first
      | refine r_call rfl (csm) ?_ | refine r_call rfl (awake46) ?_ | refine r_mv_p rfl ?_ | refine r_loadB rfl rfl ?_ | refine r_sem rfl rfl rfl rfl ?_ | refine r_nil ?_
      | refine r_box rfl rfl rfl ?_ | refine run_seq ?_ | refine run_reg ?_ | refine run_ret ?_ | refine fin_seq ?_ | refine fin_seq_r ?_ | refine run_condT rfl ?_)
    exact fin_out rfl rfl
  | true =>
  rw [hs] at csm
  obtain ⟨l0, l1, l2, l3, l4, -⟩ := small_lens hs
  clear l0 l1 l2
  repeat (first
    | refine r_call rfl (csm) ?_ | refine r_mv_p rfl ?_ | refine r_loadB rfl rfl ?_ | refine r_sem rfl rfl rfl rfl ?_ | refine r_nil ?_ | refine r_box rfl rfl rfl ?_ | refine run_seq ?_
    | refine run_reg ?_ | refine run_block ?_ | refine run_skip ?_ | refine fin_seq ?_ | refine run_condF rfl ?_)
  refine run_weak (weak_S ?_ ?_) (run_inv (fun i : Nat => S [(2, .own 2 0), (3, .own 3 0), (5, .p (.v (.int .i64 (i : Nat))))] [(2, some (.box h.enc false)), (3, some (.box x.enc false))])
    (fun i => i ≤ h.bins.xs.length ∧ Alone h.bins.xs i) (fun i => h.bins.xs.length - i) ?_ 0 ⟨Nat.zero_le _, fun i k x y hi => by omega⟩)
  · exact ⟨rfl, rfl, rfl, trivial⟩
  · exact ⟨rfl, rfl, trivial⟩
  clear csm
  rintro i ⟨hi, ha⟩ ih
  repeat (first
    | refine r_mv_p rfl ?_ | refine r_fad rfl rfl ?_ | refine r_sem rfl rfl rfl rfl ?_ | refine r_nil ?_ | refine run_seq ?_ | refine run_reg ?_ | refine fin_seq ?_)
  refine run_cond rfl (fun h1 => ?_) (fun h1 => ?_)
  · have hlt : i < h.bins.xs.length := by simpa using h1
    have hx : (h.bins.xs.map Bin.enc)[i]? = some h.bins.xs[i].enc := by simp [hlt]
    have hxi : h.bins.xs[i]? = some h.bins.xs[i] := by simp [hlt]
    obtain ⟨b, hb⟩ : ∃ b, b = h.bins.xs[i] := ⟨_, rfl⟩
    rw [← hb] at hx hxi
    have hnextA := fun hno => ih (i + 1) ⟨hlt, ha.succ hxi hno⟩ (by omega)
    clear ih ha
    repeat (first
      | refine r_mv_p rfl ?_ | refine r_nil ?_ | refine run_seq ?_ | refine run_reg ?_ | refine run_block ?_ | refine run_skip ?_ | refine fin_seq ?_)
    refine run_weak (weak_S ?_ ?_) (run_inv (fun k : Nat => S [(2, .own 2 0), (3, .own 3 0), (5, .p (.v (.int .i64 (i : Nat)))), (6, .p (.v (.int .i64 (k : Nat))))] [(2, some (.box h.enc false)), (3, some (.box x.enc false))])
      (fun k => k ≤ i ∧ ∀ k' y, k' < k → h.bins.xs[k']? = some y → y.code ≠ b.code) (fun k => i - k) ?_ 0 ⟨Nat.zero_le _, fun k' y hk => by omega⟩)
    · exact ⟨rfl, rfl, rfl, rfl, trivial⟩
    · exact ⟨rfl, rfl, trivial⟩
    rintro k ⟨hk, hno⟩ ihk
    repeat (first
      | refine r_mv_p rfl ?_ | refine r_sem rfl rfl rfl rfl ?_ | refine r_nil ?_ | refine run_seq ?_ | refine run_reg ?_ | refine fin_seq ?_)
    refine run_cond rfl (fun h2 => ?_) (fun h2 => ?_)
    · have hki : k < i := by simpa using h2
      have hkl : k < h.bins.xs.length := by omega
      have hy : (h.bins.xs.map Bin.enc)[k]? = some h.bins.xs[k].enc := by simp [hkl]
      have hyk : h.bins.xs[k]? = some h.bins.xs[k] := by simp [hkl]
      obtain ⟨y, hye⟩ : ∃ y, y = h.bins.xs[k] := ⟨_, rfl⟩
      rw [← hye] at hy hyk
      cases hd : decide (y.code = b.code) with
      | true =>
        clear ihk hnextA
        repeat (first
          | refine r_call rfl (awake46) ?_ | refine r_mv_p rfl ?_ | refine r_fad rfl rfl ?_ | refine r_sem rfl rfl rfl rfl ?_ | refine r_nil ?_ | refine r_iadA rfl rfl ?_ | refine run_seq ?_
          | refine run_reg ?_ | refine run_regd rfl ?_ | refine run_block ?_ | refine run_skip ?_ | refine run_ret ?_ | refine fin_seq ?_ | refine fin_seq_r ?_ | refine fin_blk_r ?_
          | refine fin_loop_r ?_ | refine run_condT rfl ?_)
        exact fin_out rfl rfl
      | false =>
        have hnext := ihk (k + 1) ⟨hki, fun k' y' hk' hy' => by
          rcases Nat.lt_or_ge k' k with h' | h'
          · exact hno k' y' h' hy'
          · obtain rfl : k' = k := by omega
            rw [hyk] at hy'; cases hy'
            exact of_decide_eq_false hd⟩ (by omega)
        clear ihk hnextA
        repeat (first
          | refine r_mv_p rfl ?_ | refine r_fad rfl rfl ?_ | refine r_addA rfl rfl ?_ | refine r_sem rfl rfl rfl rfl ?_ | refine r_nil ?_ | refine r_iadA rfl rfl ?_ | refine run_seq ?_
          | refine run_reg ?_ | refine run_regd rfl ?_ | refine run_block ?_ | refine run_skip ?_ | refine fin_seq ?_ | refine fin_blk ?_ | refine run_condF rfl ?_)
        refine fin_loop (run_weak (weak_S ?_ ?_) hnext)
        · exact ⟨rfl, rfl, rfl, rfl, trivial⟩
        · exact ⟨rfl, rfl, trivial⟩
    · have hki : k = i := by simp at h2; omega
      have hnext := hnextA fun k' y hk' hy => hno k' y (by omega) hy
      clear ihk hnextA
      repeat (first
        | refine r_mv_p rfl ?_ | refine r_addA rfl rfl ?_ | refine r_nil ?_ | refine run_reg ?_ | refine run_exit ?_ | refine fin_seq ?_ | refine fin_seq_e ?_ | refine fin_blk ?_
        | refine fin_blk_e ?_ | refine fin_loop_e ?_)
      refine fin_loop (run_weak (weak_S ?_ ?_) hnext)
      · exact ⟨rfl, rfl, rfl, trivial⟩
      · exact ⟨rfl, rfl, trivial⟩
  have hil : i = h.bins.xs.length := by simp at h1; omega
  rw [hil] at ha
  have hu := ha.nodup
  clear ih h1 ha hi hil
  have cf := fits49 h x.bin x.item x.qty
  have co := over52 (h.g16 x) (show h.bins.xs.length * 16 ≤ 140737488355328 by omega)
  rw [g16_enc] at co
  have hcases : h.room x.bin x.item x.qty = 12 ∨ (h.room x.bin x.item x.qty = 26 ∧ x.bin ∈ (h.g16 x).over) ∨ (h.room x.bin x.item x.qty = 0 ∧ x.bin ∉ (h.g16 x).over) := by
    by_cases e : h.room x.bin x.item x.qty = 12
    · exact .inl e
    · exact .inr (room_adds (q := q16 x) (sp := []) hu rfl rfl rfl e)
  have hol : (h.g16 x).over.length ≤ 80 := by
    unfold House.over
    rw [List.length_map]
    exact Nat.le_trans (List.length_filter_le _ _) l3
  generalize h.room x.bin x.item x.qty = r at *
  generalize (h.g16 x).over = ov at *
  have he : ∀ z ∈ h.quants.xs.map Quant.enc, z.length = 6 := by intro z hz; obtain ⟨y, _, rfl⟩ := List.mem_map.1 hz; rfl
  have he2 : ∀ z ∈ [(q16 x).enc], z.length = 6 := by intro z hz; simp at hz; subst hz; rfl
  have hlm : (h.quants.xs.map Quant.enc).length = h.quants.xs.length := List.length_map ..
  have hl0 : (([] : List (List PV)).length + (h.quants.xs.map Quant.enc).length) * 72 ≤ 140737488355328 := by rw [hlm, List.length_nil]; omega
  have hl1 : ((([] : List (List PV)) ++ h.quants.xs.map Quant.enc).length + [(q16 x).enc].length) * 72 ≤ 140737488355328 := by rw [List.nil_append, hlm, List.length_cons, List.length_nil]; omega
  have hj2 : ∀ (A C : List (List PV)), A.length + C.length ≤ (A ++ C).length := fun A C => by rw [List.length_append]; exact Nat.le_refl _
  repeat (first
    | refine r_call rfl (cf) ?_ | refine r_call rfl (co) ?_ | refine r_appRow (fs := []) rfl rfl rfl rfl rfl rfl he hl0 (by decide) (Or.inr rfl) ?_
    | refine r_appRow (fs := [63]) rfl rfl List.length_append.symm rfl rfl rfl he2 hl1 (by decide) (Or.inr rfl) ?_
    | refine r_storeF (fs := [64]) rfl rfl (res_row16 rfl rfl (hj2 _ _)) (row_pv List.length_append.symm) rfl rfl (And.intro rfl (Nat.le_of_ble_eq_true rfl)) (by decide) ?_
    | refine r_mv_p rfl ?_ | refine r_fad rfl rfl ?_ | refine r_loadB rfl rfl ?_ | refine r_sem rfl rfl rfl rfl ?_ | refine r_nil ?_ | refine r_storeAll rfl rfl rfl rfl rfl rfl ?_
    | refine r_alloc rfl ?_ | refine r_bsl rfl rfl rfl rfl rfl rfl ?_ | refine run_seq ?_ | refine run_reg ?_ | refine run_regs rfl ?_ | refine fin_far rfl ?_ | refine run_block ?_
    | refine run_exit ?_ | refine fin_seq ?_ | refine fin_seq_e ?_ | refine fin_blk_e ?_ | refine fin_loop_e ?_)
  refine run_weak (weak_S ?_ ?_) (run_inv (fun p : Nat × Bool => S [(3, .own 3 0), (7, .p (.v (.int .i64 r))), (9, .p (.sl (ov.map one) [])), (10, .p (.v (.bool p.2))), (11, .p (.v (.int .i64 (p.1 : Nat))))] [(3, some (.box x.enc false))])
    (fun p => p.1 ≤ ov.length ∧ p.2 = (ov.take p.1).any fun s => decide (s = x.bin)) (fun p => ov.length - p.1) ?_ (0, false) ⟨Nat.zero_le _, rfl⟩)
  · exact ⟨rfl, rfl, rfl, rfl, rfl, trivial⟩
  · exact ⟨rfl, trivial⟩
  clear cf co he he2 hl0 hl1 hj2
  rintro ⟨i, d⟩ ⟨hi, hd⟩ ih
  simp only at hi hd
  repeat (first
    | refine r_mv_p rfl ?_ | refine r_sem rfl rfl rfl rfl ?_ | refine r_nil ?_ | refine run_seq ?_ | refine run_reg ?_ | refine fin_seq ?_)
  refine run_cond rfl (fun h1 => ?_) (fun h1 => ?_)
  · have hlt : i < ov.length := by simpa using h1
    have hx : (ov.map one)[i]? = some (one ov[i]) := by simp [hlt]
    have hsu := any_take_succ' (fun s => decide (s = x.bin)) ov i hlt
    rw [← hd] at hsu
    have hstep : ∀ d', d' = (d || decide (ov[i] = x.bin)) → _ := fun d' e => ih (i + 1, d') ⟨hlt, e.trans hsu.symm⟩ (by simp only; omega)
    clear ih hsu hd
    cases d with
    | true =>
      have hs1 : ((i, true) : Nat × Bool).snd = true := rfl
      have hn := hstep true rfl
      clear hstep
      repeat (first
        | refine r_mv_p rfl ?_ | refine r_skipA rfl ?_ | refine r_addA rfl rfl ?_ | refine r_pickT rfl rfl rfl ?_ | refine r_nil ?_ | refine run_seq ?_ | refine run_reg ?_
        | refine run_regd rfl ?_ | refine run_block ?_ | refine run_skip ?_ | refine fin_seq ?_ | refine fin_blk ?_)
      refine fin_loop (run_weak (weak_S ?_ ?_) hn)
      · exact ⟨rfl, rfl, rfl, rfl, rfl, trivial⟩
      · exact ⟨rfl, trivial⟩
    | false =>
      have hs1 : ((i, false) : Nat × Bool).snd = false := rfl
      have hn := hstep (decide (ov[i] = x.bin)) (Bool.false_or _).symm
      clear hstep
      repeat (first
        | refine r_mv_p rfl ?_ | refine r_doA rfl ?_ | refine r_fad rfl rfl ?_ | refine r_addA rfl rfl ?_ | refine r_pickF rfl rfl rfl ?_ | refine r_sem rfl rfl rfl rfl ?_ | refine r_nil ?_
        | refine r_iadA rfl rfl ?_ | refine run_seq ?_ | refine run_reg ?_ | refine run_regd rfl ?_ | refine run_block ?_ | refine run_skip ?_ | refine fin_seq ?_ | refine fin_blk ?_)
      refine fin_loop (run_weak (weak_S ?_ ?_) hn)
      · exact ⟨rfl, rfl, rfl, rfl, rfl, trivial⟩
      · exact ⟨rfl, trivial⟩
  have hil : i = ov.length := by simp at h1; omega
  rw [hil, List.take_length] at hd
  clear ih h1 hi
  rcases hcases with rfl | ⟨rfl, hm⟩ | ⟨rfl, hm⟩
  · repeat (first
      | refine r_call rfl (awake46) ?_ | refine r_mv_p rfl ?_ | refine r_sem rfl rfl rfl rfl ?_ | refine r_nil ?_ | refine run_seq ?_ | refine run_reg ?_ | refine run_exit ?_
      | refine run_ret ?_ | refine fin_seq ?_ | refine fin_seq_e ?_ | refine fin_seq_r ?_ | refine fin_blk_e ?_ | refine fin_loop_e ?_ | refine run_condT rfl ?_)
    exact fin_out rfl rfl
  · have hdt : d = true := by rw [hd]; exact List.any_eq_true.2 ⟨x.bin, hm, by simp⟩
    subst hdt
    have hz : (false != decide (decide ((26 : Int) = 26) = ((i, true) : Nat × Bool).snd)) = true := rfl
    have hz2 : ((i, true) : Nat × Bool).snd = true := rfl
    repeat (first
      | refine r_call rfl (awake46) ?_ | refine r_mv_p rfl ?_ | refine r_doA rfl ?_ | refine r_pickT rfl rfl rfl ?_ | refine r_pickF rfl rfl rfl ?_ | refine r_sem rfl rfl rfl rfl ?_
      | refine r_nil ?_ | refine run_seq ?_ | refine run_reg ?_ | refine run_skip ?_ | refine run_exit ?_ | refine run_ret ?_ | refine fin_seq ?_ | refine fin_seq_e ?_ | refine fin_blk_e ?_
      | refine fin_loop_e ?_ | refine run_condF rfl ?_)
    exact fin_out rfl rfl
  · have hdf : d = false := by
      rw [hd]
      exact List.any_eq_false.2 fun s hs e => hm (by rw [← of_decide_eq_true e]; exact hs)
    subst hdf
    have hz : (false != decide (decide ((0 : Int) = 26) = ((i, false) : Nat × Bool).snd)) = true := rfl
    have hz2 : ((i, false) : Nat × Bool).snd = false := rfl
    repeat (first
      | refine r_call rfl (awake46) ?_ | refine r_mv_p rfl ?_ | refine r_doA rfl ?_ | refine r_skipA rfl ?_ | refine r_pickT rfl rfl rfl ?_ | refine r_sem rfl rfl rfl rfl ?_
      | refine r_nil ?_ | refine run_seq ?_ | refine run_reg ?_ | refine run_skip ?_ | refine run_exit ?_ | refine run_ret ?_ | refine fin_seq ?_ | refine fin_seq_e ?_ | refine fin_blk_e ?_
      | refine fin_loop_e ?_ | refine run_condF rfl ?_)
    exact fin_out rfl rfl
end Go.Fw
