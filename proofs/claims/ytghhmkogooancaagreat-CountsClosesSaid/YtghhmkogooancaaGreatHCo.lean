/-
  Counts: what is kept, frozen, noted; by the program and by the document.
-/
import Derived.Test.YtghhmkogooancaaGreatHY
import Derived.Test.YtghhmkogooancaaGreatHZ
import Derived.Test.YtghhmkogooancaaGreatHN
import Derived.Test.YtghhmkogooancaaGreatIrG
set_option linter.unusedVariables false
set_option linter.unusedSimpArgs false
set_option maxRecDepth 10000
namespace Go.Fw
open Go.Proofs

def inBin (c : Str) (x : Counted) : Bool := decide (x.bin = c)
def notIn (c : Str) (x : Counted) : Bool := !decide (x.bin = c)
def House.without (h : House) (c : Str) : House := { h with counted := ⟨h.counted.xs.filter (notIn c), []⟩ }
def House.count (h : House) (c : Str) (on : Bool) : House × Int := if (h.freeze c on).2 = 0 then ((h.freeze c on).1.without c, 0) else (House.zero, (h.freeze c on).2)
def House.frozenE (h : House) (c : Str) : Int := match h.bin? c with
  | none => 12
  | some b => if b.frozen = true then 0 else 13
def badLot (lots there : Bool) (c : Str) : Bool := (lots && !there) || (!lots && !decide (c = ⟨#[]⟩))
def House.lotE (h : House) (i c : Str) : Int := match h.item? i with
  | none => 12
  | some x => if badLot x.lots (h.lot? i c).isSome c = true then 21 else 0
def House.recordE (h : House) (k : Key) (n : Int) : Int :=
  if h.frozenE k.bin ≠ 0 then h.frozenE k.bin
  else if h.lotE k.item k.lot ≠ 0 then h.lotE k.item k.lot
  else if (decide (k.status < 1) || decide (3 < k.status)) = true then 31
  else if (decide (n < 0) || decide (1000000000 < n)) = true then 10
  else if (!(h.counted.xs.any fun y => decide (y.key = k)) && decide (64 ≤ h.counted.xs.length)) = true then 14
  else 0
def Counted.of (k : Key) (n : Int) : Counted := ⟨k.bin, k.item, k.lot, k.status, n⟩
def House.record (h : House) (k : Key) (n : Int) : House × Int := if h.recordE k n = 0 then (h.withCounted (Counted.of k n), 0) else (House.zero, h.recordE k n)

/-! ### What is kept -/
theorem closure70 (c : Str) (x : Counted) : Ret Tryz.prog 70 [.agg x.enc, .ref [.v (.string c)] 0] (.v (.bool (inBin c x))) := by
  refine ret70 rfl fun hbd => ?_
  unfold c70
  repeat (first
    | refine r_mv_p rfl ?_ | refine r_fad rfl rfl ?_ | refine r_sem rfl rfl rfl rfl ?_ | refine r_nil ?_ | refine r_box rfl rfl rfl ?_ | refine run_seq ?_ | refine run_reg ?_
    | refine run_ret ?_ | refine fin_seq ?_)
  exact fin_out rfl rfl
theorem closure88 (c : Str) (x : Counted) : Ret Tryz.prog 88 [.agg x.enc, .ref [.v (.string c)] 0] (.v (.bool (notIn c x))) := by
  refine ret88 rfl fun hbd => ?_
  unfold c88
  repeat (first
    | refine r_mv_p rfl ?_ | refine r_fad rfl rfl ?_ | refine r_sem rfl rfl rfl rfl ?_ | refine r_nil ?_ | refine r_box rfl rfl rfl ?_ | refine run_seq ?_ | refine run_reg ?_
    | refine run_ret ?_ | refine fin_seq ?_)
  exact fin_out rfl rfl
theorem filter_take_succ {α : Type} (q : α → Bool) (xs : List α) (i : Nat) (hi : i < xs.length) : (xs.take (i + 1)).filter q = (xs.take i).filter q ++ (if q xs[i] = true then [xs[i]] else []) := by
  rw [← List.take_append_getElem hi, List.filter_append]
  congr 1
  split
  · rename_i h; simp [h]
  · rename_i h; simp [h]
theorem filter_take_len {α : Type} (q : α → Bool) (xs : List α) (i : Nat) : ((xs.take i).filter q).length ≤ i := Nat.le_trans (List.length_filter_le _ _) (by simp; omega)
set_option maxHeartbeats 4000000 in
theorem keep69 (f : FuncId) (caps : List PV) (q : Counted → Bool) (xs : List Counted) (sp : List (List PV)) (hbig : (xs.length + 1) * 64 ≤ 140737488355328) (hq : ∀ x ∈ xs, Ret Tryz.prog f (.agg x.enc :: caps) (.v (.bool (q x)))) :
    Ret Tryz.prog 69 [.sl (xs.map Counted.enc) sp, .clo f caps] (.sl ((xs.filter q).map Counted.enc) []) := by
  refine RetN.ret (ty := 41) (es := 5) ?_
  refine row69 rfl fun hbd => ?_
  unfold c69
  repeat (first
    | refine r_mv_p rfl ?_ | refine r_sem rfl rfl rfl rfl ?_ | refine r_nil ?_ | refine r_mv_nil rfl ?_ | refine run_seq ?_ | refine run_reg ?_ | refine run_block ?_ | refine fin_seq ?_)
  refine run_weak (weak_nilRow 5 20 41 5 rfl rfl) (run_weak (weak_S ?_ ?_) (run_inv (fun i : Nat => S [(1, .p (.clo f caps)), (5, .row 20 (((xs.take i).filter q).map Counted.enc).length), (8, .p (.sl (xs.map Counted.enc) sp)), (9, .p (.v (.int .i64 ((xs.map Counted.enc).length : Nat)))), (10, .p (.v (.int .i64 (i : Nat))))] [(20, some (.row 41 5 (((xs.take i).filter q).map Counted.enc) false))])
    (fun i => i ≤ xs.length) (fun i => xs.length - i) ?_ 0 (Nat.zero_le _)))
  · exact ⟨rfl, rfl, rfl, rfl, rfl, trivial⟩
  · exact ⟨rfl, trivial⟩
  intro i hi ih
  repeat (first
    | refine r_sem rfl rfl rfl rfl ?_ | refine r_nil ?_ | refine run_seq ?_ | refine run_reg ?_ | refine fin_seq ?_)
  refine run_cond rfl (fun h1 => ?_) (fun h1 => ?_)
  · have hlt : i < xs.length := by simpa using h1
    have hx : (xs.map Counted.enc)[i]? = some xs[i].enc := by simp [hlt]
    have hs := filter_take_succ q xs i hlt
    have hqi := hq xs[i] (List.getElem_mem hlt)
    obtain ⟨x, hxe⟩ : ∃ x, x = xs[i] := ⟨_, rfl⟩
    rw [← hxe] at hx hs hqi
    have hol := filter_take_len q xs i
    obtain ⟨o, ho⟩ : ∃ o, o = (xs.take i).filter q := ⟨_, rfl⟩
    rw [← ho] at hs hol ⊢
    cases hf : q x with
    | true =>
      rw [hf] at hqi
      have hE : (xs.take (i + 1)).filter q = o ++ [x] := by rw [hs, if_pos hf]
      have he : ∀ z ∈ [x.enc], z.length = 5 := by intro z hz; simp at hz; subst hz; rfl
      have hl : ((o.map Counted.enc).length + [x.enc].length) * 64 ≤ 140737488355328 := by
        simp only [List.length_map, List.length_cons, List.length_nil]; omega
      repeat (first
        | refine r_callv rfl (hqi) ?_ | refine r_appRow (fs := [19]) rfl rfl rfl rfl rfl rfl he hl (by decide) (Or.inl rfl) ?_ | refine r_mv_p rfl ?_ | refine r_addA rfl rfl ?_
        | refine r_loadA rfl ?_ | refine r_loadB rfl rfl ?_ | refine r_nil ?_ | refine r_iadA rfl rfl ?_ | refine r_storeAll rfl rfl rfl rfl rfl rfl ?_ | refine r_alloc rfl ?_
        | refine r_bsl rfl rfl rfl rfl rfl rfl ?_ | refine r_mv_rowA rfl rfl ?_ | refine run_seq ?_ | refine run_reg ?_ | refine run_block ?_ | refine run_skip ?_ | refine fin_seq ?_
        | refine fin_blk ?_ | refine run_condT rfl ?_)
      refine fin_loop (run_weak (weak_S ?_ ?_) (ih (i + 1) hlt (by omega)))
      · exact ⟨rfl, by rw [hE, List.map_append, List.length_append]; rfl, rfl, rfl, rfl, trivial⟩
      · exact ⟨by rw [hE, List.map_append]; rfl, trivial⟩
    | false =>
      rw [hf] at hqi
      have hE : (xs.take (i + 1)).filter q = o := by rw [hs, if_neg (by rw [hf]; exact Bool.false_ne_true), List.append_nil]
      repeat (first
        | refine r_callv rfl (hqi) ?_ | refine r_mv_p rfl ?_ | refine r_addA rfl rfl ?_ | refine r_loadA rfl ?_ | refine r_loadB rfl rfl ?_ | refine r_nil ?_ | refine r_iadA rfl rfl ?_
        | refine r_storeAll rfl rfl rfl rfl rfl rfl ?_ | refine r_alloc rfl ?_ | refine run_seq ?_ | refine run_reg ?_ | refine run_block ?_ | refine run_skip ?_ | refine fin_seq ?_
        | refine fin_blk ?_ | refine run_condF rfl ?_)
      refine fin_loop (run_weak (weak_S ?_ ?_) (ih (i + 1) hlt (by omega)))
      · exact ⟨rfl, by rw [hE]; rfl, rfl, rfl, rfl, trivial⟩
      · exact ⟨by rw [hE]; rfl, trivial⟩
  · have hlt : i = xs.length := by simp at h1; omega
    have hE : (xs.take i).filter q = xs.filter q := by rw [hlt, List.take_length]
    rw [hE]
    repeat (first
      | refine r_nil ?_ | refine r_mv_rowA rfl rfl ?_ | refine run_seq ?_ | refine run_reg ?_ | refine run_exit ?_ | refine run_ret ?_ | refine fin_seq ?_ | refine fin_seq_e ?_
      | refine fin_blk_e ?_ | refine fin_loop_e ?_)
    exact fin_row rfl rfl rfl rfl
set_option maxHeartbeats 4000000 in
theorem without45 (h : House) (c : Str) (hbig : (h.counted.xs.length + 1) * 64 ≤ 140737488355328) : Ret Tryz.prog 45 [.agg h.enc, .v (.string c)] (.agg (h.without c).enc) := by
  refine ret45 rfl fun hbd => ?_
  have hb := bd_counted (hbd _ (List.mem_cons_self))
  unfold c45
  repeat (first
    | refine r_mv_p rfl ?_ | refine r_nil ?_ | refine r_alloc rfl ?_ | refine r_box rfl rfl rfl ?_ | refine r_mv_nil rfl ?_ | refine run_seq ?_ | refine run_reg ?_ | refine run_block ?_
    | refine fin_seq ?_)
  refine run_weak (weak_nilRow 5 30 41 5 rfl rfl) (run_weak (weak_S ?_ ?_) (run_inv (fun i : Nat => S [(1, .p (.v (.string c))), (2, .own 2 0), (4, .own 4 0), (5, .row 30 (((h.counted.xs.take i).filter (notIn c)).map Counted.enc).length), (6, .p (.v (.int .i64 (i : Nat))))] [(2, some (.box h.enc false)), (4, some (.box House.zero.enc false)), (30, some (.row 41 5 (((h.counted.xs.take i).filter (notIn c)).map Counted.enc) false))])
    (fun i => i ≤ h.counted.xs.length) (fun i => h.counted.xs.length - i) ?_ 0 (Nat.zero_le _)))
  · exact ⟨rfl, rfl, rfl, rfl, rfl, trivial⟩
  · exact ⟨rfl, rfl, rfl, trivial⟩
  intro i hi ih
  repeat (first
    | refine r_mv_p rfl ?_ | refine r_fad rfl rfl ?_ | refine r_sem rfl rfl rfl rfl ?_ | refine r_nil ?_ | refine run_seq ?_ | refine run_reg ?_ | refine fin_seq ?_)
  refine run_cond rfl (fun h1 => ?_) (fun h1 => ?_)
  · have hlt : i < h.counted.xs.length := by simpa using h1
    have hx : (h.counted.xs.map Counted.enc)[i]? = some h.counted.xs[i].enc := by simp [hlt]
    have hs := filter_take_succ (notIn c) h.counted.xs i hlt
    obtain ⟨x, hxe⟩ : ∃ x, x = h.counted.xs[i] := ⟨_, rfl⟩
    rw [← hxe] at hx hs
    have hol := filter_take_len (notIn c) h.counted.xs i
    obtain ⟨o, ho⟩ : ∃ o, o = (h.counted.xs.take i).filter (notIn c) := ⟨_, rfl⟩
    rw [← ho] at hs hol ⊢
    cases hf : (!decide (x.bin = c)) with
    | true =>
      have hE : (h.counted.xs.take (i + 1)).filter (notIn c) = o ++ [x] := by rw [hs, if_pos (show notIn c x = true from hf)]
      have he : ∀ z ∈ [x.enc], z.length = 5 := by intro z hz; simp at hz; subst hz; rfl
      have hl : ((o.map Counted.enc).length + [x.enc].length) * 64 ≤ 140737488355328 := by
        simp only [List.length_map, List.length_cons, List.length_nil]; omega
      repeat (first
        | refine r_appRow (fs := [29]) rfl rfl rfl rfl rfl rfl he hl (by decide) (Or.inl rfl) ?_ | refine r_mv_p rfl ?_ | refine r_fad rfl rfl ?_ | refine r_addA rfl rfl ?_
        | refine r_loadA rfl ?_ | refine r_sem rfl rfl rfl rfl ?_ | refine r_nil ?_ | refine r_iadA rfl rfl ?_ | refine r_bsl rfl rfl rfl rfl rfl rfl ?_ | refine r_mv_rowA rfl rfl ?_
        | refine run_seq ?_ | refine run_reg ?_ | refine run_block ?_ | refine run_skip ?_ | refine fin_seq ?_ | refine fin_blk ?_ | refine run_condT rfl ?_)
      refine fin_loop (run_weak (weak_S ?_ ?_) (ih (i + 1) hlt (by omega)))
      · exact ⟨rfl, rfl, rfl, by rw [hE, List.map_append, List.length_append]; rfl, rfl, trivial⟩
      · exact ⟨rfl, rfl, by rw [hE, List.map_append]; rfl, trivial⟩
    | false =>
      have hE : (h.counted.xs.take (i + 1)).filter (notIn c) = o := by rw [hs, if_neg (by rw [notIn, hf]; exact Bool.false_ne_true), List.append_nil]
      repeat (first
        | refine r_mv_p rfl ?_ | refine r_fad rfl rfl ?_ | refine r_addA rfl rfl ?_ | refine r_sem rfl rfl rfl rfl ?_ | refine r_nil ?_ | refine r_iadA rfl rfl ?_ | refine run_seq ?_
        | refine run_reg ?_ | refine run_block ?_ | refine run_skip ?_ | refine fin_seq ?_ | refine fin_blk ?_ | refine run_condF rfl ?_)
      refine fin_loop (run_weak (weak_S ?_ ?_) (ih (i + 1) hlt (by omega)))
      · exact ⟨rfl, rfl, rfl, by rw [hE]; rfl, rfl, trivial⟩
      · exact ⟨rfl, rfl, by rw [hE]; rfl, trivial⟩
  · have hlt : i = h.counted.xs.length := by simp at h1; omega
    have hE : (h.counted.xs.take i).filter (notIn c) = h.counted.xs.filter (notIn c) := by rw [hlt, List.take_length]
    rw [hE]
    have hpv : (RA.row 30 ((h.counted.xs.filter (notIn c)).map Counted.enc).length 5 ((h.counted.xs.filter (notIn c)).map Counted.enc)).pv = some (.sl ((h.counted.xs.filter (notIn c)).map Counted.enc) []) := by
      simp only [RA.pv, List.take_length, List.drop_length]
    have hres : lookT (ol [(2, some (Own.box h.enc false)), (4, some (Own.box House.zero.enc false)), (30, some (Own.row 41 5 ((h.counted.xs.filter (notIn c)).map Counted.enc) false))]) (.row 30 ((h.counted.xs.filter (notIn c)).map Counted.enc).length) = some (.row 30 ((h.counted.xs.filter (notIn c)).map Counted.enc).length 5 ((h.counted.xs.filter (notIn c)).map Counted.enc)) := by
      simp only [lookT, ol]
      simp
    clear ih
    repeat (first
      | refine r_storeF (fs := [30]) rfl rfl hres hpv rfl rfl (And.intro rfl (Nat.le_of_ble_eq_true rfl)) (by decide) ?_ | refine r_fad rfl rfl ?_ | refine r_loadB rfl rfl ?_
      | refine r_nil ?_ | refine r_storeAll rfl rfl rfl rfl rfl rfl ?_ | refine r_mv_rowA rfl rfl ?_ | refine run_seq ?_ | refine run_reg ?_ | refine run_exit ?_ | refine run_ret ?_
      | refine fin_seq ?_ | refine fin_seq_e ?_ | refine fin_blk_e ?_ | refine fin_loop_e ?_)
    exact fin_out rfl rfl
end Go.Fw
