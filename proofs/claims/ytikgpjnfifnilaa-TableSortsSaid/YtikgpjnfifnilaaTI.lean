/-
  The law TableRises: what is put and dropped keeps a list rising, and what a map beside it says.
-/
import Derived.Test.YtikgpjnfifnilaaTH
import Derived.Test.YtikgpjnfifnilaaIrV
set_option linter.unusedVariables false
set_option linter.unusedSimpArgs false
set_option maxRecDepth 10000
namespace Go.Fw
open Go.Proofs

/-- A nil slice may be told as a frozen one, of no element. -/
theorem weak_nilP {l : List (Nat × T)} {m : List (Nat × Option Own)} (k : Nat) (hk : tl l k = .nil) : Weak (S l m) (S ((k, .p (.sl [] [])) :: l) m) := by
  rintro B w0 F0 nt a w ⟨F, mp, hi⟩
  refine ⟨F, mp, hi.defers, hi.size, hi.below, hi.base, hi.on, hi.fin, fun j hj => ?_, hi.own, hi.inj⟩
  simp only [S, tl]
  split
  · rename_i e; subst e
    have := hi.tmps j hj
    simp only [S, hk, RepT] at this
    rw [this]
    exact Rep.sl [] [] 0 0 0 0 none [] (by simp) (by simp) (by simp [maxLen]) (by simp) (by simp) (by simp) (by simp) (by simp)
  · exact hi.tmps j hj
theorem r_look_some {P : Program} {Q : Ex → St → Prop} {ks : List Kf} {rs : List RG} {l : List (Nat × T)} {m : List (Nat × Option Own)} {d kt et : Nat} {z q : PV} {x y : Opd} {n : Nat} {k : ByteArray} {es : List (ByteArray × PV)} (hx : (S l m).ev x = .mp n) (ho : ol m n = some (.mp kt et es)) (hy : (S l m).ev y = .p (.v (.string k))) (hf : mfind k es = some q)
    (h : RunR P Q ks rs (S ((d, .p (.tup [q, .v (.bool true)])) :: l) m)) : RunR P Q ks (⟨some d, .look kt z true, [x, y], none⟩ :: rs) (S l m) := r_look (kt' := kt) hx ho hy (by rw [hf]) h
theorem fy (x : Pair) (xs : List Pair) (sp : List (List PV)) (k : Nat) (hk : findI (eqQ pairCmp x) xs = k) (h : findB (eqQ pairCmp x) xs = true) : Ret Try.prog 10 [.agg [.clo 22 []], .sl (xs.map Pair.enc) sp, .agg x.enc] (.tup [.v (.int .i64 (k : Nat)), .v (.bool true)]) := by
  have := find10 Pair.enc (fun _ => rfl) 22 pairCmp order22 x xs sp
  rwa [h, hk] at this
theorem le200 {n i : Nat} (h : n ≤ i) (hi : (i : Int) < 200) : (n + 1) * 24 ≤ 140737488355328 := by
  have : n + 1 ≤ 200 := by omega
  exact Nat.le_trans (Nat.mul_le_mul_right 24 this) (by decide)

def sR (l : List Pair) (sp : List (List PV)) (q : Nat × List Pair × List (ByteArray × PV)) : St :=
  S [(0, .p (.sl (l.map Pair.enc) sp)), (2, .p (.v (.bool false))), (3, .p (.sl (q.2.1.map Pair.enc) [])), (4, .mp 11), (5, .p (.v (.int .i64 (q.1 : Nat))))] [(11, some (.mp 9 3 q.2.2))]
def sT (all : List Pair) (es : List (ByteArray × PV)) (j : Nat) : St :=
  S [(2, .p (.v (.bool false))), (3, .p (.sl (all.map Pair.enc) [])), (4, .mp 11), (8, .p (.v (.int .i64 (j : Nat))))] [(11, some (.mp 9 3 es))]

set_option maxHeartbeats 2000000 in
theorem law_TableRises (l : List Pair) (sp : List (List PV)) : Ret Try.prog 4 [.sl (l.map Pair.enc) sp] (.v (.bool true)) := by
  refine ret4 rfl fun hbd => ?_
  have hb : l.length ≤ 9223372036854775807 := by
    have := hbd _ (List.mem_cons_self)
    simp only [PV.bd, PV.bd1, List.length_append, List.length_map, maxLen] at this
    omega
  unfold c4
  repeat (first
    | refine r_mv_p rfl ?_
    | refine r_do rfl (by first | with_reducible rfl | assumption | decide) ?_
    | refine r_skip rfl (by first | with_reducible rfl | assumption | decide) ?_
    | refine r_skipU rfl ?_
    | refine r_fad rfl rfl ?_
    | refine r_add rfl rfl (by omega) ?_
    | refine r_sub rfl rfl (by omega) ?_
    | refine r_loadAll rfl (by first | rfl | assumption) ?_
    | refine r_loadAllB rfl rfl (by first | rfl | assumption) ?_
    | refine r_pick_t rfl (by first | with_reducible rfl | assumption | decide) rfl rfl ?_
    | refine r_pick_f rfl (by first | with_reducible rfl | assumption | decide) rfl rfl ?_
    | refine r_sem rfl rfl rfl rfl ?_
    | refine r_nil ?_
    | refine r_iad rfl rfl (by omega) (by assumption) (by first | rfl | assumption | omega | (simp; done) | (simp; omega)) ?_
    | refine r_storeAll rfl rfl rfl rfl rfl rfl ?_
    | refine r_store rfl rfl rfl rfl (by decide) ?_
    | refine r_alloc rfl ?_
    | refine r_box rfl rfl rfl ?_
    | refine r_bsl rfl rfl rfl rfl rfl rfl ?_
    | refine r_bsl1 rfl (by assumption) rfl ?_
    | refine r_mkmap rfl ?_
    | refine r_mv_nil rfl ?_
    | refine r_mv_own rfl rfl ?_
    | refine r_mv_mp rfl rfl ?_
    | refine r_mv_row rfl rfl (by first | rfl | assumption | omega | (simp; done) | (simp; omega)) ?_
    | refine r_mv_rp rfl rfl (by first | rfl | assumption | omega | (simp; done) | (simp; omega)) ?_
    | refine r_fad_rp rfl rfl (by first | rfl | assumption | omega | (simp; done) | (simp; omega)) ?_
    | refine r_iad_row rfl rfl (by first | rfl | assumption | omega | (simp; done) | (simp; omega)) rfl (by first | rfl | assumption | omega | (simp; done) | (simp; omega)) ?_
    | refine r_skip0 rfl (by first | with_reducible rfl | assumption | decide) ?_
    | refine r_skipU0 rfl ?_
    | refine r_semF rfl rfl rfl rfl ?_
    | refine r_load_rp rfl rfl (by assumption) rfl ?_
    | refine run_seq ?_
    | refine run_reg ?_
    | refine run_regd rfl ?_
    | refine run_block ?_
    | refine run_skip ?_
    | refine run_exit ?_
    | refine run_ret ?_
    | refine fin_seq ?_
    | refine fin_seq_e ?_
    | refine fin_seq_r ?_
    | refine fin_blk ?_
    | refine fin_blk_e ?_
    | refine fin_blk_x rfl ?_
    | refine fin_blk_r ?_
    | refine fin_loop_e ?_
    | refine fin_loop_r ?_
    | refine run_cond_t rfl (by first | with_reducible rfl | assumption | decide) ?_
    | refine run_cond_f rfl (by first | with_reducible rfl | assumption | decide) ?_)
  refine run_weak (weak_nilP 3 rfl) (run_weak (weak_S ?_ ?_) (run_inv (sR l sp) (fun q => q.1 ≤ l.length ∧ q.2.1.length ≤ q.1 ∧ Tells q.2.2 q.2.1) (fun q => l.length - q.1) ?_ (0, [], []) ⟨Nat.zero_le _, Nat.le_refl _, Tells.nil⟩))
  · exact ⟨rfl, rfl, rfl, rfl, rfl, trivial⟩
  · exact ⟨rfl, trivial⟩
  rintro ⟨i, all, es⟩ ⟨hi, hal, ht⟩ ih
  simp only at hi hal ht
  by_cases hgo : i < l.length ∧ (i : Int) < 200
  · obtain ⟨hlt, h200⟩ := hgo
    have g1 : decide ((i : Int) < ((l.map Pair.enc).length : Nat)) = true := by simpa using hlt
    have g2 : decide ((i : Int) < 200) = true := by simpa using h200
    have hx : (l.map Pair.enc)[i]? = some l[i].enc := by simp [hlt]
    unfold sR
    repeat (first
      | refine r_mv_p rfl ?_
      | refine r_do rfl (by first | with_reducible rfl | assumption | decide) ?_
      | refine r_skip rfl (by first | with_reducible rfl | assumption | decide) ?_
      | refine r_skipU rfl ?_
      | refine r_fad rfl rfl ?_
      | refine r_add rfl rfl (by omega) ?_
      | refine r_sub rfl rfl (by omega) ?_
      | refine r_loadAll rfl (by first | rfl | assumption) ?_
      | refine r_loadAllB rfl rfl (by first | rfl | assumption) ?_
      | refine r_pick_t rfl (by first | with_reducible rfl | assumption | decide) rfl rfl ?_
      | refine r_pick_f rfl (by first | with_reducible rfl | assumption | decide) rfl rfl ?_
      | refine r_sem rfl rfl rfl rfl ?_
      | refine r_nil ?_
      | refine r_iad rfl rfl (by omega) (by assumption) (by first | rfl | assumption | omega | (simp; done) | (simp; omega)) ?_
      | refine r_storeAll rfl rfl rfl rfl rfl rfl ?_
      | refine r_store rfl rfl rfl rfl (by decide) ?_
      | refine r_alloc rfl ?_
      | refine r_box rfl rfl rfl ?_
      | refine r_bsl rfl rfl rfl rfl rfl rfl ?_
      | refine r_bsl1 rfl (by assumption) rfl ?_
      | refine r_mkmap rfl ?_
      | refine r_mv_nil rfl ?_
      | refine r_mv_own rfl rfl ?_
      | refine r_mv_mp rfl rfl ?_
      | refine r_mv_row rfl rfl (by first | rfl | assumption | omega | (simp; done) | (simp; omega)) ?_
      | refine r_mv_rp rfl rfl (by first | rfl | assumption | omega | (simp; done) | (simp; omega)) ?_
      | refine r_fad_rp rfl rfl (by first | rfl | assumption | omega | (simp; done) | (simp; omega)) ?_
      | refine r_iad_row rfl rfl (by first | rfl | assumption | omega | (simp; done) | (simp; omega)) rfl (by first | rfl | assumption | omega | (simp; done) | (simp; omega)) ?_
      | refine r_skip0 rfl (by first | with_reducible rfl | assumption | decide) ?_
      | refine r_skipU0 rfl ?_
      | refine r_semF rfl rfl rfl rfl ?_
      | refine r_load_rp rfl rfl (by assumption) rfl ?_
      | refine run_seq ?_
      | refine run_reg ?_
      | refine run_regd rfl ?_
      | refine run_block ?_
      | refine run_skip ?_
      | refine run_exit ?_
      | refine run_ret ?_
      | refine fin_seq ?_
      | refine fin_seq_e ?_
      | refine fin_seq_r ?_
      | refine fin_blk ?_
      | refine fin_blk_e ?_
      | refine fin_blk_x rfl ?_
      | refine fin_blk_r ?_
      | refine fin_loop_e ?_
      | refine fin_loop_r ?_
      | refine run_cond_t rfl (by first | with_reducible rfl | assumption | decide) ?_
      | refine run_cond_f rfl (by first | with_reducible rfl | assumption | decide) ?_)
    refine run_cond rfl (fun hneg => ?_) (fun hneg => ?_)
    · have ht' := ht.drop l[i]
      have hf : findB (eqQ pairCmp l[i]) (dropL pairCmp l[i] all) = false := findB_none.2 fun y hy => by
        have := ((drop_mem ht.up y).1 hy).2
        cases he : eqQ pairCmp l[i] y with
        | false => rfl
        | true => exact absurd (eqQ_iff.1 he) this
      have hlen : (!decide ((((dropL pairCmp l[i] all).map Pair.enc).length : Int) = ((mcut l[i].name es).length : Nat))) = false := by simp [ht'.len]
      have hge : (true != decide (false = decide (0 ≤ l[i].n))) = false := by simp at hneg; simp [Int.not_le.2 hneg]
      repeat (first
        | refine r_call rfl (pairs9) ?_
        | refine r_call rfl (dropR14 Pair.enc (fun _ => rfl) 22 pairCmp order22 l[i] all [] (Nat.le_trans (Nat.mul_le_mul_right 24 (Nat.le_succ _)) (le200 hal h200))) ?_
        | refine r_mdel rfl rfl rfl ?_
        | refine r_call rfl (rs (dropL pairCmp l[i] all) [] (up_rises ht'.up)) ?_
        | refine r_call rfl (fn l[i] (dropL pairCmp l[i] all) [] hf) ?_
        | refine r_mv_p rfl ?_
        | refine r_do rfl (by first | with_reducible rfl | assumption | decide) ?_
        | refine r_skip rfl (by first | with_reducible rfl | assumption | decide) ?_
        | refine r_skipU rfl ?_
        | refine r_fad rfl rfl ?_
        | refine r_add rfl rfl (by omega) ?_
        | refine r_sub rfl rfl (by omega) ?_
        | refine r_loadAll rfl (by first | rfl | assumption) ?_
        | refine r_loadAllB rfl rfl (by first | rfl | assumption) ?_
        | refine r_pick_t rfl (by first | with_reducible rfl | assumption | decide) rfl rfl ?_
        | refine r_pick_f rfl (by first | with_reducible rfl | assumption | decide) rfl rfl ?_
        | refine r_sem rfl rfl rfl rfl ?_
        | refine r_nil ?_
        | refine r_iad rfl rfl (by omega) (by assumption) (by first | rfl | assumption | omega | (simp; done) | (simp; omega)) ?_
        | refine r_storeAll rfl rfl rfl rfl rfl rfl ?_
        | refine r_store rfl rfl rfl rfl (by decide) ?_
        | refine r_alloc rfl ?_
        | refine r_box rfl rfl rfl ?_
        | refine r_bsl rfl rfl rfl rfl rfl rfl ?_
        | refine r_bsl1 rfl (by assumption) rfl ?_
        | refine r_mkmap rfl ?_
        | refine r_mv_nil rfl ?_
        | refine r_mv_own rfl rfl ?_
        | refine r_mv_mp rfl rfl ?_
        | refine r_mv_row rfl rfl (by first | rfl | assumption | omega | (simp; done) | (simp; omega)) ?_
        | refine r_mv_rp rfl rfl (by first | rfl | assumption | omega | (simp; done) | (simp; omega)) ?_
        | refine r_fad_rp rfl rfl (by first | rfl | assumption | omega | (simp; done) | (simp; omega)) ?_
        | refine r_iad_row rfl rfl (by first | rfl | assumption | omega | (simp; done) | (simp; omega)) rfl (by first | rfl | assumption | omega | (simp; done) | (simp; omega)) ?_
        | refine r_skip0 rfl (by first | with_reducible rfl | assumption | decide) ?_
        | refine r_skipU0 rfl ?_
        | refine r_semF rfl rfl rfl rfl ?_
        | refine r_load_rp rfl rfl (by assumption) rfl ?_
        | refine run_seq ?_
        | refine run_reg ?_
        | refine run_regd rfl ?_
        | refine run_block ?_
        | refine run_skip ?_
        | refine run_exit ?_
        | refine run_ret ?_
        | refine fin_seq ?_
        | refine fin_seq_e ?_
        | refine fin_seq_r ?_
        | refine fin_blk ?_
        | refine fin_blk_e ?_
        | refine fin_blk_x rfl ?_
        | refine fin_blk_r ?_
        | refine fin_loop_e ?_
        | refine fin_loop_r ?_
        | refine run_cond_t rfl (by first | with_reducible rfl | assumption | decide) ?_
        | refine run_cond_f rfl (by first | with_reducible rfl | assumption | decide) ?_)
      refine fin_loop (run_weak (weak_S ?_ ?_) (ih (i + 1, dropL pairCmp l[i] all, mcut l[i].name es) ⟨hlt, Nat.le_trans (dropL_length _ _ _) (Nat.le_succ_of_le hal), ht'⟩ (by show l.length - (i + 1) < l.length - i; omega)))
      · exact ⟨rfl, rfl, rfl, rfl, rfl, trivial⟩
      · exact ⟨rfl, trivial⟩
    · have ht' := ht.put l[i]
      obtain ⟨k, z, hk, hz, hq⟩ : ∃ (k : Nat) (y : Pair), findI (eqQ pairCmp l[i]) (putL pairCmp l[i] all) = k ∧ (putL pairCmp l[i] all)[k]? = some y ∧ eqQ pairCmp l[i] y = true := by
        cases hf : findB (eqQ pairCmp l[i]) (putL pairCmp l[i] all) with
        | true => exact findB_spec hf
        | false =>
          have := findB_none.1 hf l[i] ((put_mem ht.up _).2 (.inl rfl))
          rw [eqQ_iff.2 rfl] at this; cases this
      have hf : findB (eqQ pairCmp l[i]) (putL pairCmp l[i] all) = true := by
        cases hf : findB (eqQ pairCmp l[i]) (putL pairCmp l[i] all) with
        | true => rfl
        | false => have := findB_none.1 hf z (List.mem_of_getElem? hz); rw [hq] at this; cases this
      obtain rfl : z = l[i] := up_name ht'.up (List.mem_of_getElem? hz) ((put_mem ht.up _).2 (.inl rfl)) (eqQ_iff.1 hq)
      have hlk : k < (putL pairCmp l[i] all).length := (List.getElem?_eq_some_iff.1 hz).1
      have hlk2 : k < ((putL pairCmp l[i] all).map Pair.enc).length := by simpa using hlk
      have hzk : ((putL pairCmp l[i] all).map Pair.enc)[k]? = some l[i].enc := by rw [List.getElem?_map, hz]; rfl
      have hlen : (!decide ((((putL pairCmp l[i] all).map Pair.enc).length : Int) = ((mput l[i].name (.v (.int .i64 l[i].n)) es).length : Nat))) = false := by simp [ht'.len]
      have hge : (true != decide (true = decide (0 ≤ l[i].n))) = false := by simp at hneg; simp [hneg]
      have hk0 : decide ((k : Int) < 0) = false := by simp
      have hkl : decide ((((putL pairCmp l[i] all).map Pair.enc).length : Int) ≤ (k : Int)) = false := by simp; omega
      have heq : (true != (decide (l[i].name = l[i].name) && (decide (l[i].n = l[i].n) && true))) = false := by simp
      have hup := put_len (x := l[i]) (xs := all)
      repeat (first
        | refine r_call rfl (pairs9) ?_
        | refine r_call rfl (putR12 Pair.enc (fun _ => rfl) 22 pairCmp order22 l[i] all [] (le200 hal h200)) ?_
        | refine r_mset rfl rfl rfl rfl ?_
        | refine r_call rfl (rs (putL pairCmp l[i] all) [] (up_rises ht'.up)) ?_
        | refine r_call rfl (fy l[i] (putL pairCmp l[i] all) [] k hk hf) ?_
        | refine r_mv_p rfl ?_
        | refine r_do rfl (by first | with_reducible rfl | assumption | decide) ?_
        | refine r_skip rfl (by first | with_reducible rfl | assumption | decide) ?_
        | refine r_skipU rfl ?_
        | refine r_fad rfl rfl ?_
        | refine r_add rfl rfl (by omega) ?_
        | refine r_sub rfl rfl (by omega) ?_
        | refine r_loadAll rfl (by first | rfl | assumption) ?_
        | refine r_loadAllB rfl rfl (by first | rfl | assumption) ?_
        | refine r_pick_t rfl (by first | with_reducible rfl | assumption | decide) rfl rfl ?_
        | refine r_pick_f rfl (by first | with_reducible rfl | assumption | decide) rfl rfl ?_
        | refine r_sem rfl rfl rfl rfl ?_
        | refine r_nil ?_
        | refine r_iad rfl rfl (by omega) (by assumption) (by first | rfl | assumption | omega | (simp; done) | (simp; omega)) ?_
        | refine r_storeAll rfl rfl rfl rfl rfl rfl ?_
        | refine r_store rfl rfl rfl rfl (by decide) ?_
        | refine r_alloc rfl ?_
        | refine r_box rfl rfl rfl ?_
        | refine r_bsl rfl rfl rfl rfl rfl rfl ?_
        | refine r_bsl1 rfl (by assumption) rfl ?_
        | refine r_mkmap rfl ?_
        | refine r_mv_nil rfl ?_
        | refine r_mv_own rfl rfl ?_
        | refine r_mv_mp rfl rfl ?_
        | refine r_mv_row rfl rfl (by first | rfl | assumption | omega | (simp; done) | (simp; omega)) ?_
        | refine r_mv_rp rfl rfl (by first | rfl | assumption | omega | (simp; done) | (simp; omega)) ?_
        | refine r_fad_rp rfl rfl (by first | rfl | assumption | omega | (simp; done) | (simp; omega)) ?_
        | refine r_iad_row rfl rfl (by first | rfl | assumption | omega | (simp; done) | (simp; omega)) rfl (by first | rfl | assumption | omega | (simp; done) | (simp; omega)) ?_
        | refine r_skip0 rfl (by first | with_reducible rfl | assumption | decide) ?_
        | refine r_skipU0 rfl ?_
        | refine r_semF rfl rfl rfl rfl ?_
        | refine r_load_rp rfl rfl (by assumption) rfl ?_
        | refine run_seq ?_
        | refine run_reg ?_
        | refine run_regd rfl ?_
        | refine run_block ?_
        | refine run_skip ?_
        | refine run_exit ?_
        | refine run_ret ?_
        | refine fin_seq ?_
        | refine fin_seq_e ?_
        | refine fin_seq_r ?_
        | refine fin_blk ?_
        | refine fin_blk_e ?_
        | refine fin_blk_x rfl ?_
        | refine fin_blk_r ?_
        | refine fin_loop_e ?_
        | refine fin_loop_r ?_
        | refine run_cond_t rfl (by first | with_reducible rfl | assumption | decide) ?_
        | refine run_cond_f rfl (by first | with_reducible rfl | assumption | decide) ?_)
      refine fin_loop (run_weak (weak_S ?_ ?_) (ih (i + 1, putL pairCmp l[i] all, mput l[i].name (.v (.int .i64 l[i].n)) es) ⟨hlt, Nat.le_trans (putL_length _ _ _).2 (Nat.succ_le_succ hal), ht'⟩ (by show l.length - (i + 1) < l.length - i; omega)))
      · exact ⟨rfl, rfl, rfl, rfl, rfl, trivial⟩
      · exact ⟨rfl, trivial⟩
  unfold sR
  rcases Nat.lt_or_ge i l.length with hlt | hge
  · have g1 : decide ((i : Int) < ((l.map Pair.enc).length : Nat)) = true := by simpa using hlt
    have g2 : decide ((i : Int) < 200) = false := by simp; omega
    repeat (first
      | refine r_mv_p rfl ?_
      | refine r_do rfl (by first | with_reducible rfl | assumption | decide) ?_
      | refine r_skip rfl (by first | with_reducible rfl | assumption | decide) ?_
      | refine r_skipU rfl ?_
      | refine r_fad rfl rfl ?_
      | refine r_add rfl rfl (by omega) ?_
      | refine r_sub rfl rfl (by omega) ?_
      | refine r_loadAll rfl (by first | rfl | assumption) ?_
      | refine r_loadAllB rfl rfl (by first | rfl | assumption) ?_
      | refine r_pick_t rfl (by first | with_reducible rfl | assumption | decide) rfl rfl ?_
      | refine r_pick_f rfl (by first | with_reducible rfl | assumption | decide) rfl rfl ?_
      | refine r_sem rfl rfl rfl rfl ?_
      | refine r_nil ?_
      | refine r_iad rfl rfl (by omega) (by assumption) (by first | rfl | assumption | omega | (simp; done) | (simp; omega)) ?_
      | refine r_storeAll rfl rfl rfl rfl rfl rfl ?_
      | refine r_store rfl rfl rfl rfl (by decide) ?_
      | refine r_alloc rfl ?_
      | refine r_box rfl rfl rfl ?_
      | refine r_bsl rfl rfl rfl rfl rfl rfl ?_
      | refine r_bsl1 rfl (by assumption) rfl ?_
      | refine r_mkmap rfl ?_
      | refine r_mv_nil rfl ?_
      | refine r_mv_own rfl rfl ?_
      | refine r_mv_mp rfl rfl ?_
      | refine r_mv_row rfl rfl (by first | rfl | assumption | omega | (simp; done) | (simp; omega)) ?_
      | refine r_mv_rp rfl rfl (by first | rfl | assumption | omega | (simp; done) | (simp; omega)) ?_
      | refine r_fad_rp rfl rfl (by first | rfl | assumption | omega | (simp; done) | (simp; omega)) ?_
      | refine r_iad_row rfl rfl (by first | rfl | assumption | omega | (simp; done) | (simp; omega)) rfl (by first | rfl | assumption | omega | (simp; done) | (simp; omega)) ?_
      | refine r_skip0 rfl (by first | with_reducible rfl | assumption | decide) ?_
      | refine r_skipU0 rfl ?_
      | refine r_semF rfl rfl rfl rfl ?_
      | refine r_load_rp rfl rfl (by assumption) rfl ?_
      | refine run_seq ?_
      | refine run_reg ?_
      | refine run_regd rfl ?_
      | refine run_block ?_
      | refine run_skip ?_
      | refine run_exit ?_
      | refine run_ret ?_
      | refine fin_seq ?_
      | refine fin_seq_e ?_
      | refine fin_seq_r ?_
      | refine fin_blk ?_
      | refine fin_blk_e ?_
      | refine fin_blk_x rfl ?_
      | refine fin_blk_r ?_
      | refine fin_loop_e ?_
      | refine fin_loop_r ?_
      | refine run_cond_t rfl (by first | with_reducible rfl | assumption | decide) ?_
      | refine run_cond_f rfl (by first | with_reducible rfl | assumption | decide) ?_)
    refine run_weak (weak_S ?_ ?_) (run_inv (sT all es) (fun j => j ≤ all.length) (fun j => all.length - j) ?_ 0 (Nat.zero_le _))
    · exact ⟨rfl, rfl, rfl, rfl, trivial⟩
    · exact ⟨rfl, trivial⟩
    intro j hj ihj
    unfold sT
    repeat (first
      | refine r_mv_p rfl ?_
      | refine r_do rfl (by first | with_reducible rfl | assumption | decide) ?_
      | refine r_skip rfl (by first | with_reducible rfl | assumption | decide) ?_
      | refine r_skipU rfl ?_
      | refine r_fad rfl rfl ?_
      | refine r_add rfl rfl (by omega) ?_
      | refine r_sub rfl rfl (by omega) ?_
      | refine r_loadAll rfl (by first | rfl | assumption) ?_
      | refine r_loadAllB rfl rfl (by first | rfl | assumption) ?_
      | refine r_pick_t rfl (by first | with_reducible rfl | assumption | decide) rfl rfl ?_
      | refine r_pick_f rfl (by first | with_reducible rfl | assumption | decide) rfl rfl ?_
      | refine r_sem rfl rfl rfl rfl ?_
      | refine r_nil ?_
      | refine r_iad rfl rfl (by omega) (by assumption) (by first | rfl | assumption | omega | (simp; done) | (simp; omega)) ?_
      | refine r_storeAll rfl rfl rfl rfl rfl rfl ?_
      | refine r_store rfl rfl rfl rfl (by decide) ?_
      | refine r_alloc rfl ?_
      | refine r_box rfl rfl rfl ?_
      | refine r_bsl rfl rfl rfl rfl rfl rfl ?_
      | refine r_bsl1 rfl (by assumption) rfl ?_
      | refine r_mkmap rfl ?_
      | refine r_mv_nil rfl ?_
      | refine r_mv_own rfl rfl ?_
      | refine r_mv_mp rfl rfl ?_
      | refine r_mv_row rfl rfl (by first | rfl | assumption | omega | (simp; done) | (simp; omega)) ?_
      | refine r_mv_rp rfl rfl (by first | rfl | assumption | omega | (simp; done) | (simp; omega)) ?_
      | refine r_fad_rp rfl rfl (by first | rfl | assumption | omega | (simp; done) | (simp; omega)) ?_
      | refine r_iad_row rfl rfl (by first | rfl | assumption | omega | (simp; done) | (simp; omega)) rfl (by first | rfl | assumption | omega | (simp; done) | (simp; omega)) ?_
      | refine r_skip0 rfl (by first | with_reducible rfl | assumption | decide) ?_
      | refine r_skipU0 rfl ?_
      | refine r_semF rfl rfl rfl rfl ?_
      | refine r_load_rp rfl rfl (by assumption) rfl ?_
      | refine run_seq ?_
      | refine run_reg ?_
      | refine run_regd rfl ?_
      | refine run_block ?_
      | refine run_skip ?_
      | refine run_exit ?_
      | refine run_ret ?_
      | refine fin_seq ?_
      | refine fin_seq_e ?_
      | refine fin_seq_r ?_
      | refine fin_blk ?_
      | refine fin_blk_e ?_
      | refine fin_blk_x rfl ?_
      | refine fin_blk_r ?_
      | refine fin_loop_e ?_
      | refine fin_loop_r ?_
      | refine run_cond_t rfl (by first | with_reducible rfl | assumption | decide) ?_
      | refine run_cond_f rfl (by first | with_reducible rfl | assumption | decide) ?_)
    refine run_cond rfl (fun h2 => ?_) (fun h2 => ?_)
    · have hlt : j < all.length := by simpa using h2
      have hx : (all.map Pair.enc)[j]? = some all[j].enc := by simp [hlt]
      have hfind := ht.has _ (List.getElem_mem hlt)
      have hq : (!decide (all[j].n = all[j].n)) = false := by simp
      repeat (first
        | refine r_look_some rfl rfl rfl hfind ?_
        | refine r_mv_p rfl ?_
        | refine r_do rfl (by first | with_reducible rfl | assumption | decide) ?_
        | refine r_skip rfl (by first | with_reducible rfl | assumption | decide) ?_
        | refine r_skipU rfl ?_
        | refine r_fad rfl rfl ?_
        | refine r_add rfl rfl (by omega) ?_
        | refine r_sub rfl rfl (by omega) ?_
        | refine r_loadAll rfl (by first | rfl | assumption) ?_
        | refine r_loadAllB rfl rfl (by first | rfl | assumption) ?_
        | refine r_pick_t rfl (by first | with_reducible rfl | assumption | decide) rfl rfl ?_
        | refine r_pick_f rfl (by first | with_reducible rfl | assumption | decide) rfl rfl ?_
        | refine r_sem rfl rfl rfl rfl ?_
        | refine r_nil ?_
        | refine r_iad rfl rfl (by omega) (by assumption) (by first | rfl | assumption | omega | (simp; done) | (simp; omega)) ?_
        | refine r_storeAll rfl rfl rfl rfl rfl rfl ?_
        | refine r_store rfl rfl rfl rfl (by decide) ?_
        | refine r_alloc rfl ?_
        | refine r_box rfl rfl rfl ?_
        | refine r_bsl rfl rfl rfl rfl rfl rfl ?_
        | refine r_bsl1 rfl (by assumption) rfl ?_
        | refine r_mkmap rfl ?_
        | refine r_mv_nil rfl ?_
        | refine r_mv_own rfl rfl ?_
        | refine r_mv_mp rfl rfl ?_
        | refine r_mv_row rfl rfl (by first | rfl | assumption | omega | (simp; done) | (simp; omega)) ?_
        | refine r_mv_rp rfl rfl (by first | rfl | assumption | omega | (simp; done) | (simp; omega)) ?_
        | refine r_fad_rp rfl rfl (by first | rfl | assumption | omega | (simp; done) | (simp; omega)) ?_
        | refine r_iad_row rfl rfl (by first | rfl | assumption | omega | (simp; done) | (simp; omega)) rfl (by first | rfl | assumption | omega | (simp; done) | (simp; omega)) ?_
        | refine r_skip0 rfl (by first | with_reducible rfl | assumption | decide) ?_
        | refine r_skipU0 rfl ?_
        | refine r_semF rfl rfl rfl rfl ?_
        | refine r_load_rp rfl rfl (by assumption) rfl ?_
        | refine run_seq ?_
        | refine run_reg ?_
        | refine run_regd rfl ?_
        | refine run_block ?_
        | refine run_skip ?_
        | refine run_exit ?_
        | refine run_ret ?_
        | refine fin_seq ?_
        | refine fin_seq_e ?_
        | refine fin_seq_r ?_
        | refine fin_blk ?_
        | refine fin_blk_e ?_
        | refine fin_blk_x rfl ?_
        | refine fin_blk_r ?_
        | refine fin_loop_e ?_
        | refine fin_loop_r ?_
        | refine run_cond_t rfl (by first | with_reducible rfl | assumption | decide) ?_
        | refine run_cond_f rfl (by first | with_reducible rfl | assumption | decide) ?_)
      refine fin_loop (run_weak (weak_S ?_ ?_) (ihj (j + 1) hlt (by omega)))
      · exact ⟨rfl, rfl, rfl, rfl, trivial⟩
      · exact ⟨rfl, trivial⟩
    · repeat (first
        | refine r_call rfl (awake21) ?_
        | refine r_mv_p rfl ?_
        | refine r_do rfl (by first | with_reducible rfl | assumption | decide) ?_
        | refine r_skip rfl (by first | with_reducible rfl | assumption | decide) ?_
        | refine r_skipU rfl ?_
        | refine r_fad rfl rfl ?_
        | refine r_add rfl rfl (by omega) ?_
        | refine r_sub rfl rfl (by omega) ?_
        | refine r_loadAll rfl (by first | rfl | assumption) ?_
        | refine r_loadAllB rfl rfl (by first | rfl | assumption) ?_
        | refine r_pick_t rfl (by first | with_reducible rfl | assumption | decide) rfl rfl ?_
        | refine r_pick_f rfl (by first | with_reducible rfl | assumption | decide) rfl rfl ?_
        | refine r_sem rfl rfl rfl rfl ?_
        | refine r_nil ?_
        | refine r_iad rfl rfl (by omega) (by assumption) (by first | rfl | assumption | omega | (simp; done) | (simp; omega)) ?_
        | refine r_storeAll rfl rfl rfl rfl rfl rfl ?_
        | refine r_store rfl rfl rfl rfl (by decide) ?_
        | refine r_alloc rfl ?_
        | refine r_box rfl rfl rfl ?_
        | refine r_bsl rfl rfl rfl rfl rfl rfl ?_
        | refine r_bsl1 rfl (by assumption) rfl ?_
        | refine r_mkmap rfl ?_
        | refine r_mv_nil rfl ?_
        | refine r_mv_own rfl rfl ?_
        | refine r_mv_mp rfl rfl ?_
        | refine r_mv_row rfl rfl (by first | rfl | assumption | omega | (simp; done) | (simp; omega)) ?_
        | refine r_mv_rp rfl rfl (by first | rfl | assumption | omega | (simp; done) | (simp; omega)) ?_
        | refine r_fad_rp rfl rfl (by first | rfl | assumption | omega | (simp; done) | (simp; omega)) ?_
        | refine r_iad_row rfl rfl (by first | rfl | assumption | omega | (simp; done) | (simp; omega)) rfl (by first | rfl | assumption | omega | (simp; done) | (simp; omega)) ?_
        | refine r_skip0 rfl (by first | with_reducible rfl | assumption | decide) ?_
        | refine r_skipU0 rfl ?_
        | refine r_semF rfl rfl rfl rfl ?_
        | refine r_load_rp rfl rfl (by assumption) rfl ?_
        | refine run_seq ?_
        | refine run_reg ?_
        | refine run_regd rfl ?_
        | refine run_block ?_
        | refine run_skip ?_
        | refine run_exit ?_
        | refine run_ret ?_
        | refine fin_seq ?_
        | refine fin_seq_e ?_
        | refine fin_seq_r ?_
        | refine fin_blk ?_
        | refine fin_blk_e ?_
        | refine fin_blk_x rfl ?_
        | refine fin_blk_r ?_
        | refine fin_loop_e ?_
        | refine fin_loop_r ?_
        | refine run_cond_t rfl (by first | with_reducible rfl | assumption | decide) ?_
        | refine run_cond_f rfl (by first | with_reducible rfl | assumption | decide) ?_)
      exact fin_out rfl rfl
  · have g1 : decide ((i : Int) < ((l.map Pair.enc).length : Nat)) = false := by simp; omega
    repeat (first
      | refine r_mv_p rfl ?_
      | refine r_do rfl (by first | with_reducible rfl | assumption | decide) ?_
      | refine r_skip rfl (by first | with_reducible rfl | assumption | decide) ?_
      | refine r_skipU rfl ?_
      | refine r_fad rfl rfl ?_
      | refine r_add rfl rfl (by omega) ?_
      | refine r_sub rfl rfl (by omega) ?_
      | refine r_loadAll rfl (by first | rfl | assumption) ?_
      | refine r_loadAllB rfl rfl (by first | rfl | assumption) ?_
      | refine r_pick_t rfl (by first | with_reducible rfl | assumption | decide) rfl rfl ?_
      | refine r_pick_f rfl (by first | with_reducible rfl | assumption | decide) rfl rfl ?_
      | refine r_sem rfl rfl rfl rfl ?_
      | refine r_nil ?_
      | refine r_iad rfl rfl (by omega) (by assumption) (by first | rfl | assumption | omega | (simp; done) | (simp; omega)) ?_
      | refine r_storeAll rfl rfl rfl rfl rfl rfl ?_
      | refine r_store rfl rfl rfl rfl (by decide) ?_
      | refine r_alloc rfl ?_
      | refine r_box rfl rfl rfl ?_
      | refine r_bsl rfl rfl rfl rfl rfl rfl ?_
      | refine r_bsl1 rfl (by assumption) rfl ?_
      | refine r_mkmap rfl ?_
      | refine r_mv_nil rfl ?_
      | refine r_mv_own rfl rfl ?_
      | refine r_mv_mp rfl rfl ?_
      | refine r_mv_row rfl rfl (by first | rfl | assumption | omega | (simp; done) | (simp; omega)) ?_
      | refine r_mv_rp rfl rfl (by first | rfl | assumption | omega | (simp; done) | (simp; omega)) ?_
      | refine r_fad_rp rfl rfl (by first | rfl | assumption | omega | (simp; done) | (simp; omega)) ?_
      | refine r_iad_row rfl rfl (by first | rfl | assumption | omega | (simp; done) | (simp; omega)) rfl (by first | rfl | assumption | omega | (simp; done) | (simp; omega)) ?_
      | refine r_skip0 rfl (by first | with_reducible rfl | assumption | decide) ?_
      | refine r_skipU0 rfl ?_
      | refine r_semF rfl rfl rfl rfl ?_
      | refine r_load_rp rfl rfl (by assumption) rfl ?_
      | refine run_seq ?_
      | refine run_reg ?_
      | refine run_regd rfl ?_
      | refine run_block ?_
      | refine run_skip ?_
      | refine run_exit ?_
      | refine run_ret ?_
      | refine fin_seq ?_
      | refine fin_seq_e ?_
      | refine fin_seq_r ?_
      | refine fin_blk ?_
      | refine fin_blk_e ?_
      | refine fin_blk_x rfl ?_
      | refine fin_blk_r ?_
      | refine fin_loop_e ?_
      | refine fin_loop_r ?_
      | refine run_cond_t rfl (by first | with_reducible rfl | assumption | decide) ?_
      | refine run_cond_f rfl (by first | with_reducible rfl | assumption | decide) ?_)
    refine run_weak (weak_S ?_ ?_) (run_inv (sT all es) (fun j => j ≤ all.length) (fun j => all.length - j) ?_ 0 (Nat.zero_le _))
    · exact ⟨rfl, rfl, rfl, rfl, trivial⟩
    · exact ⟨rfl, trivial⟩
    intro j hj ihj
    unfold sT
    repeat (first
      | refine r_mv_p rfl ?_
      | refine r_do rfl (by first | with_reducible rfl | assumption | decide) ?_
      | refine r_skip rfl (by first | with_reducible rfl | assumption | decide) ?_
      | refine r_skipU rfl ?_
      | refine r_fad rfl rfl ?_
      | refine r_add rfl rfl (by omega) ?_
      | refine r_sub rfl rfl (by omega) ?_
      | refine r_loadAll rfl (by first | rfl | assumption) ?_
      | refine r_loadAllB rfl rfl (by first | rfl | assumption) ?_
      | refine r_pick_t rfl (by first | with_reducible rfl | assumption | decide) rfl rfl ?_
      | refine r_pick_f rfl (by first | with_reducible rfl | assumption | decide) rfl rfl ?_
      | refine r_sem rfl rfl rfl rfl ?_
      | refine r_nil ?_
      | refine r_iad rfl rfl (by omega) (by assumption) (by first | rfl | assumption | omega | (simp; done) | (simp; omega)) ?_
      | refine r_storeAll rfl rfl rfl rfl rfl rfl ?_
      | refine r_store rfl rfl rfl rfl (by decide) ?_
      | refine r_alloc rfl ?_
      | refine r_box rfl rfl rfl ?_
      | refine r_bsl rfl rfl rfl rfl rfl rfl ?_
      | refine r_bsl1 rfl (by assumption) rfl ?_
      | refine r_mkmap rfl ?_
      | refine r_mv_nil rfl ?_
      | refine r_mv_own rfl rfl ?_
      | refine r_mv_mp rfl rfl ?_
      | refine r_mv_row rfl rfl (by first | rfl | assumption | omega | (simp; done) | (simp; omega)) ?_
      | refine r_mv_rp rfl rfl (by first | rfl | assumption | omega | (simp; done) | (simp; omega)) ?_
      | refine r_fad_rp rfl rfl (by first | rfl | assumption | omega | (simp; done) | (simp; omega)) ?_
      | refine r_iad_row rfl rfl (by first | rfl | assumption | omega | (simp; done) | (simp; omega)) rfl (by first | rfl | assumption | omega | (simp; done) | (simp; omega)) ?_
      | refine r_skip0 rfl (by first | with_reducible rfl | assumption | decide) ?_
      | refine r_skipU0 rfl ?_
      | refine r_semF rfl rfl rfl rfl ?_
      | refine r_load_rp rfl rfl (by assumption) rfl ?_
      | refine run_seq ?_
      | refine run_reg ?_
      | refine run_regd rfl ?_
      | refine run_block ?_
      | refine run_skip ?_
      | refine run_exit ?_
      | refine run_ret ?_
      | refine fin_seq ?_
      | refine fin_seq_e ?_
      | refine fin_seq_r ?_
      | refine fin_blk ?_
      | refine fin_blk_e ?_
      | refine fin_blk_x rfl ?_
      | refine fin_blk_r ?_
      | refine fin_loop_e ?_
      | refine fin_loop_r ?_
      | refine run_cond_t rfl (by first | with_reducible rfl | assumption | decide) ?_
      | refine run_cond_f rfl (by first | with_reducible rfl | assumption | decide) ?_)
    refine run_cond rfl (fun h2 => ?_) (fun h2 => ?_)
    · have hlt : j < all.length := by simpa using h2
      have hx : (all.map Pair.enc)[j]? = some all[j].enc := by simp [hlt]
      have hfind := ht.has _ (List.getElem_mem hlt)
      have hq : (!decide (all[j].n = all[j].n)) = false := by simp
      repeat (first
        | refine r_look_some rfl rfl rfl hfind ?_
        | refine r_mv_p rfl ?_
        | refine r_do rfl (by first | with_reducible rfl | assumption | decide) ?_
        | refine r_skip rfl (by first | with_reducible rfl | assumption | decide) ?_
        | refine r_skipU rfl ?_
        | refine r_fad rfl rfl ?_
        | refine r_add rfl rfl (by omega) ?_
        | refine r_sub rfl rfl (by omega) ?_
        | refine r_loadAll rfl (by first | rfl | assumption) ?_
        | refine r_loadAllB rfl rfl (by first | rfl | assumption) ?_
        | refine r_pick_t rfl (by first | with_reducible rfl | assumption | decide) rfl rfl ?_
        | refine r_pick_f rfl (by first | with_reducible rfl | assumption | decide) rfl rfl ?_
        | refine r_sem rfl rfl rfl rfl ?_
        | refine r_nil ?_
        | refine r_iad rfl rfl (by omega) (by assumption) (by first | rfl | assumption | omega | (simp; done) | (simp; omega)) ?_
        | refine r_storeAll rfl rfl rfl rfl rfl rfl ?_
        | refine r_store rfl rfl rfl rfl (by decide) ?_
        | refine r_alloc rfl ?_
        | refine r_box rfl rfl rfl ?_
        | refine r_bsl rfl rfl rfl rfl rfl rfl ?_
        | refine r_bsl1 rfl (by assumption) rfl ?_
        | refine r_mkmap rfl ?_
        | refine r_mv_nil rfl ?_
        | refine r_mv_own rfl rfl ?_
        | refine r_mv_mp rfl rfl ?_
        | refine r_mv_row rfl rfl (by first | rfl | assumption | omega | (simp; done) | (simp; omega)) ?_
        | refine r_mv_rp rfl rfl (by first | rfl | assumption | omega | (simp; done) | (simp; omega)) ?_
        | refine r_fad_rp rfl rfl (by first | rfl | assumption | omega | (simp; done) | (simp; omega)) ?_
        | refine r_iad_row rfl rfl (by first | rfl | assumption | omega | (simp; done) | (simp; omega)) rfl (by first | rfl | assumption | omega | (simp; done) | (simp; omega)) ?_
        | refine r_skip0 rfl (by first | with_reducible rfl | assumption | decide) ?_
        | refine r_skipU0 rfl ?_
        | refine r_semF rfl rfl rfl rfl ?_
        | refine r_load_rp rfl rfl (by assumption) rfl ?_
        | refine run_seq ?_
        | refine run_reg ?_
        | refine run_regd rfl ?_
        | refine run_block ?_
        | refine run_skip ?_
        | refine run_exit ?_
        | refine run_ret ?_
        | refine fin_seq ?_
        | refine fin_seq_e ?_
        | refine fin_seq_r ?_
        | refine fin_blk ?_
        | refine fin_blk_e ?_
        | refine fin_blk_x rfl ?_
        | refine fin_blk_r ?_
        | refine fin_loop_e ?_
        | refine fin_loop_r ?_
        | refine run_cond_t rfl (by first | with_reducible rfl | assumption | decide) ?_
        | refine run_cond_f rfl (by first | with_reducible rfl | assumption | decide) ?_)
      refine fin_loop (run_weak (weak_S ?_ ?_) (ihj (j + 1) hlt (by omega)))
      · exact ⟨rfl, rfl, rfl, rfl, trivial⟩
      · exact ⟨rfl, trivial⟩
    · repeat (first
        | refine r_call rfl (awake21) ?_
        | refine r_mv_p rfl ?_
        | refine r_do rfl (by first | with_reducible rfl | assumption | decide) ?_
        | refine r_skip rfl (by first | with_reducible rfl | assumption | decide) ?_
        | refine r_skipU rfl ?_
        | refine r_fad rfl rfl ?_
        | refine r_add rfl rfl (by omega) ?_
        | refine r_sub rfl rfl (by omega) ?_
        | refine r_loadAll rfl (by first | rfl | assumption) ?_
        | refine r_loadAllB rfl rfl (by first | rfl | assumption) ?_
        | refine r_pick_t rfl (by first | with_reducible rfl | assumption | decide) rfl rfl ?_
        | refine r_pick_f rfl (by first | with_reducible rfl | assumption | decide) rfl rfl ?_
        | refine r_sem rfl rfl rfl rfl ?_
        | refine r_nil ?_
        | refine r_iad rfl rfl (by omega) (by assumption) (by first | rfl | assumption | omega | (simp; done) | (simp; omega)) ?_
        | refine r_storeAll rfl rfl rfl rfl rfl rfl ?_
        | refine r_store rfl rfl rfl rfl (by decide) ?_
        | refine r_alloc rfl ?_
        | refine r_box rfl rfl rfl ?_
        | refine r_bsl rfl rfl rfl rfl rfl rfl ?_
        | refine r_bsl1 rfl (by assumption) rfl ?_
        | refine r_mkmap rfl ?_
        | refine r_mv_nil rfl ?_
        | refine r_mv_own rfl rfl ?_
        | refine r_mv_mp rfl rfl ?_
        | refine r_mv_row rfl rfl (by first | rfl | assumption | omega | (simp; done) | (simp; omega)) ?_
        | refine r_mv_rp rfl rfl (by first | rfl | assumption | omega | (simp; done) | (simp; omega)) ?_
        | refine r_fad_rp rfl rfl (by first | rfl | assumption | omega | (simp; done) | (simp; omega)) ?_
        | refine r_iad_row rfl rfl (by first | rfl | assumption | omega | (simp; done) | (simp; omega)) rfl (by first | rfl | assumption | omega | (simp; done) | (simp; omega)) ?_
        | refine r_skip0 rfl (by first | with_reducible rfl | assumption | decide) ?_
        | refine r_skipU0 rfl ?_
        | refine r_semF rfl rfl rfl rfl ?_
        | refine r_load_rp rfl rfl (by assumption) rfl ?_
        | refine run_seq ?_
        | refine run_reg ?_
        | refine run_regd rfl ?_
        | refine run_block ?_
        | refine run_skip ?_
        | refine run_exit ?_
        | refine run_ret ?_
        | refine fin_seq ?_
        | refine fin_seq_e ?_
        | refine fin_seq_r ?_
        | refine fin_blk ?_
        | refine fin_blk_e ?_
        | refine fin_blk_x rfl ?_
        | refine fin_blk_r ?_
        | refine fin_loop_e ?_
        | refine fin_loop_r ?_
        | refine run_cond_t rfl (by first | with_reducible rfl | assumption | decide) ?_
        | refine run_cond_f rfl (by first | with_reducible rfl | assumption | decide) ?_)
      exact fin_out rfl rfl
end Go.Fw
