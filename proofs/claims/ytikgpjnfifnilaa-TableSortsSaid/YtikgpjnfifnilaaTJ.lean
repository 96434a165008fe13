/-
  The law TableSorts: the order in which unlike names are put makes no difference.
-/
import Derived.Test.YtikgpjnfifnilaaTI
set_option linter.unusedVariables false
set_option linter.unusedSimpArgs false
set_option maxRecDepth 10000
namespace Go.Fw
open Go.Proofs

theorem r_rem2 {P : Program} {Q : Ex → St → Prop} {ks : List Kf} {rs : List RG} {l : List (Nat × T)} {m : List (Nat × Option Own)} {d : Nat} {x y : Opd} {a b : Int} (hx : (S l m).ev x = .p (.v (.int .i64 a))) (hy : (S l m).ev y = .p (.v (.int .i64 b))) (hb : b ≠ 0)
    (h : RunR P Q ks rs (S ((d, .p (.v (.int .i64 (a.tmod b)))) :: l) m)) : RunR P Q ks (⟨some d, .bin .rem, [x, y], none⟩ :: rs) (S l m) := r_arith hx hy (by simp only [binV, if_true, if_neg hb]) h

theorem r_len_row {P : Program} {Q : Ex → St → Prop} {ks : List Kf} {rs : List RG} {l : List (Nat × T)} {m : List (Nat × Option Own)} {d n len ty es : Nat} {x : Opd} {xs : List (List PV)} {fz : Bool} (hx : (S l m).ev x = .row n len) (ho : ol m n = some (.row ty es xs fz)) (hle : len ≤ xs.length)
    (h : RunR P Q ks rs (S ((d, .p (.v (.int .i64 (len : Nat)))) :: l) m)) : RunR P Q ks (⟨some d, .len 0, [x], none⟩ :: rs) (S l m) :=
  r_sem rfl (show (S l m).resL [x] = some [.row n len es xs] by simp only [St.resL, St.res, hx, lookT]; rw [ho]; simp [hle]) rfl rfl h
theorem rem_bd {a : Int} {n : Nat} (h : 0 < n) (ha : 0 ≤ a) : 0 ≤ a.tmod (n : Int) ∧ a.tmod (n : Int) < n := ⟨Int.tmod_nonneg _ ha, Int.tmod_lt_of_pos _ (by omega)⟩
theorem rem_bd2 {a : Int} {n : Nat} (h : 0 < n) : -(n : Int) < a.tmod (n : Int) ∧ a.tmod (n : Int) < n := by
  refine ⟨?_, Int.tmod_lt_of_pos _ (by omega)⟩
  have := Int.lt_tmod_of_pos a (show 0 < (n : Int) by omega)
  exact this

def puts (l : List Pair) : List Pair := l.foldl (fun a x => putL pairCmp x a) []
def uniq (l : List Pair) : Prop := l.Pairwise fun a b => a.name ≠ b.name
theorem uniq_perm {l ms : List Pair} (h : uniq l) (hp : ms.Perm l) : uniq ms := (hp.pairwise_iff (fun {a b} hab => Ne.symm hab)).2 h
theorem puts_succ (l : List Pair) (i : Nat) (hi : i < l.length) : puts (l.take (i + 1)) = putL pairCmp l[i] (puts (l.take i)) := by
  rw [show l.take (i + 1) = l.take i ++ [l[i]] by simp, puts, List.foldl_append]; rfl
structure Put (l : List Pair) (i : Nat) : Prop where
  up : Up (puts (l.take i))
  mem : ∀ y, y ∈ puts (l.take i) ↔ y ∈ l.take i
  len : (puts (l.take i)).length = i
theorem Put.zero (l : List Pair) : Put l 0 := ⟨by simpa [puts] using up_nil, by simp [puts], by simp [puts]⟩
theorem Put.succ {l : List Pair} (hu : uniq l) {i : Nat} (h : Put l i) (hi : i < l.length) : Put l (i + 1) := by
  have hne : ∀ y ∈ l.take i, y.name ≠ l[i].name := fun y hy => by
    obtain ⟨j, hj, rfl⟩ := List.mem_iff_getElem.1 hy
    rw [List.getElem_take]
    have : j < i := by simp at hj; omega
    exact List.pairwise_iff_getElem.1 hu j i (by omega) hi this
  have hf : findB (eqQ pairCmp l[i]) (puts (l.take i)) = false := findB_none.2 fun y hy => by
    cases he : eqQ pairCmp l[i] y with
    | false => rfl
    | true => exact absurd (eqQ_iff.1 he) (hne y ((h.mem y).1 hy))
  refine ⟨?_, fun y => ?_, ?_⟩
  · rw [puts_succ l i hi]; exact put_up h.up
  · rw [puts_succ l i hi, put_mem h.up, h.mem, show l.take (i + 1) = l.take i ++ [l[i]] by simp]
    simp only [List.mem_append, List.mem_singleton]
    constructor
    · rintro (e | ⟨h1, _⟩)
      · exact .inr e
      · exact .inl h1
    · rintro (h1 | e)
      · exact .inr ⟨h1, hne y h1⟩
      · exact .inl e
  · rw [puts_succ l i hi, put_len, hf, h.len]; rfl
theorem puts_perm {l ms : List Pair} (hu : uniq l) (hp : ms.Perm l) (h1 : Put l l.length) (h2 : Put ms l.length) : puts (l.take l.length) = puts (ms.take l.length) := by
  refine up_ext h1.up h2.up fun y => ?_
  rw [h1.mem, h2.mem]
  have hl : ms.length = l.length := hp.length_eq
  rw [List.take_length, ← hl, List.take_length]
  exact hp.mem_iff.symm

def encI (n : Int) : List PV := [.v (.int .i64 n)]
def sA (l : List Pair) (sp : List (List PV)) (os : List Int) (s2 : List (List PV)) (i : Nat) : St :=
  S [(0, .p (.sl (l.map Pair.enc) sp)), (1, .p (.sl (os.map encI) s2)), (4, .p (.v (.bool false))), (5, .p (.v (.int .i64 (i : Nat))))] []
def sB (l : List Pair) (sp : List (List PV)) (os : List Int) (s2 : List (List PV)) (i k : Nat) : St :=
  S [(0, .p (.sl (l.map Pair.enc) sp)), (1, .p (.sl (os.map encI) s2)), (4, .p (.v (.bool false))), (5, .p (.v (.int .i64 (i : Nat)))), (6, .p (.v (.int .i64 (k : Nat))))] []
def sC' (l : List Pair) (sp : List (List PV)) (os : List Int) (s2 : List (List PV)) (a : Nat) (ms : List Pair) : St :=
  S [(0, .p (.sl (l.map Pair.enc) sp)), (1, .p (.sl (os.map encI) s2)), (4, .p (.v (.bool false))), (7, .row 44 (ms.map Pair.enc).length), (8, .p (.v (.int .i64 (a : Nat))))] [(44, some (.row 24 2 (ms.map Pair.enc) false))]
def sC (l : List Pair) (sp : List (List PV)) (os : List Int) (s2 : List (List PV)) (q : Nat × List Pair) : St := sC' l sp os s2 q.1 q.2
def sD (l : List Pair) (sp : List (List PV)) (ms : List Pair) (i : Nat) : St :=
  S [(0, .p (.sl (l.map Pair.enc) sp)), (4, .p (.v (.bool false))), (7, .row 44 (ms.map Pair.enc).length), (12, .p (.sl ((puts (l.take i)).map Pair.enc) [])), (13, .p (.sl ((puts (ms.take i)).map Pair.enc) [])), (14, .p (.v (.int .i64 (i : Nat))))] [(44, some (.row 24 2 (ms.map Pair.enc) false))]

set_option maxHeartbeats 2000000 in
theorem law_TableSorts (l : List Pair) (sp : List (List PV)) (os : List Int) (s2 : List (List PV)) : Ret Try.prog 5 [.sl (l.map Pair.enc) sp, .sl (os.map encI) s2] (.v (.bool true)) := by
  refine ret5 rfl fun hbd => ?_
  have hob : os.length ≤ 9223372036854775807 := by
    have := hbd (.sl (os.map encI) s2) (by simp)
    simp only [PV.bd, PV.bd1, List.length_append, List.length_map, maxLen] at this
    omega
  unfold c5
  repeat (first
    | refine r_mv_p rfl ?_
    | refine r_do rfl (by first | with_reducible rfl | assumption | decide) ?_
    | refine r_skip rfl (by first | with_reducible rfl | assumption | decide) ?_
    | refine r_skipU rfl ?_
    | refine r_fad rfl rfl ?_
    | refine r_add rfl rfl (by omega) ?_
    | refine r_sub rfl rfl (by omega) ?_
    | refine r_loadAll rfl (by first | rfl | assumption) ?_
    | refine r_loadAllB rfl rfl (by first | rfl | assumption) ?_
    | refine r_pick_t rfl (by first | with_reducible rfl | assumption | decide) rfl rfl ?_
    | refine r_pick_f rfl (by first | with_reducible rfl | assumption | decide) rfl rfl ?_
    | refine r_sem rfl rfl rfl rfl ?_
    | refine r_nil ?_
    | refine r_iad rfl rfl (by omega) (by assumption) (by first | rfl | assumption | omega | (simp; done) | (simp; omega)) ?_
    | refine r_storeAll rfl rfl rfl rfl rfl rfl ?_
    | refine r_store rfl rfl rfl rfl (by decide) ?_
    | refine r_alloc rfl ?_
    | refine r_box rfl rfl rfl ?_
    | refine r_bsl rfl rfl rfl rfl rfl rfl ?_
    | refine r_bsl1 rfl (by assumption) rfl ?_
    | refine r_mkmap rfl ?_
    | refine r_mv_nil rfl ?_
    | refine r_mv_own rfl rfl ?_
    | refine r_mv_mp rfl rfl ?_
    | refine r_mv_row rfl rfl (by first | rfl | assumption | omega | (simp; done) | (simp; omega)) ?_
    | refine r_mv_rp rfl rfl (by first | rfl | assumption | omega | (simp; done) | (simp; omega)) ?_
    | refine r_fad_rp rfl rfl (by first | rfl | assumption | omega | (simp; done) | (simp; omega)) ?_
    | refine r_iad_row rfl rfl (by first | rfl | assumption | omega | (simp; done) | (simp; omega)) rfl (by first | rfl | assumption | omega | (simp; done) | (simp; omega)) ?_
    | refine r_skip0 rfl (by first | with_reducible rfl | assumption | decide) ?_
    | refine r_skipU0 rfl ?_
    | refine r_semF rfl rfl rfl rfl ?_
    | refine r_load_rp rfl rfl (by assumption) rfl ?_
    | refine run_seq ?_
    | refine run_reg ?_
    | refine run_regd rfl ?_
    | refine run_block ?_
    | refine run_skip ?_
    | refine run_exit ?_
    | refine run_ret ?_
    | refine fin_seq ?_
    | refine fin_seq_e ?_
    | refine fin_seq_r ?_
    | refine fin_blk ?_
    | refine fin_blk_e ?_
    | refine fin_blk_x rfl ?_
    | refine fin_blk_r ?_
    | refine fin_loop_e ?_
    | refine fin_loop_r ?_
    | refine run_cond_t rfl (by first | with_reducible rfl | assumption | decide) ?_
    | refine run_cond_f rfl (by first | with_reducible rfl | assumption | decide) ?_)
  refine run_cond rfl (fun h => ?_) (fun h => ?_)
  · repeat (first
      | refine r_call rfl (awake21) ?_
      | refine r_mv_p rfl ?_
      | refine r_do rfl (by first | with_reducible rfl | assumption | decide) ?_
      | refine r_skip rfl (by first | with_reducible rfl | assumption | decide) ?_
      | refine r_skipU rfl ?_
      | refine r_fad rfl rfl ?_
      | refine r_add rfl rfl (by omega) ?_
      | refine r_sub rfl rfl (by omega) ?_
      | refine r_loadAll rfl (by first | rfl | assumption) ?_
      | refine r_loadAllB rfl rfl (by first | rfl | assumption) ?_
      | refine r_pick_t rfl (by first | with_reducible rfl | assumption | decide) rfl rfl ?_
      | refine r_pick_f rfl (by first | with_reducible rfl | assumption | decide) rfl rfl ?_
      | refine r_sem rfl rfl rfl rfl ?_
      | refine r_nil ?_
      | refine r_iad rfl rfl (by omega) (by assumption) (by first | rfl | assumption | omega | (simp; done) | (simp; omega)) ?_
      | refine r_storeAll rfl rfl rfl rfl rfl rfl ?_
      | refine r_store rfl rfl rfl rfl (by decide) ?_
      | refine r_alloc rfl ?_
      | refine r_box rfl rfl rfl ?_
      | refine r_bsl rfl rfl rfl rfl rfl rfl ?_
      | refine r_bsl1 rfl (by assumption) rfl ?_
      | refine r_mkmap rfl ?_
      | refine r_mv_nil rfl ?_
      | refine r_mv_own rfl rfl ?_
      | refine r_mv_mp rfl rfl ?_
      | refine r_mv_row rfl rfl (by first | rfl | assumption | omega | (simp; done) | (simp; omega)) ?_
      | refine r_mv_rp rfl rfl (by first | rfl | assumption | omega | (simp; done) | (simp; omega)) ?_
      | refine r_fad_rp rfl rfl (by first | rfl | assumption | omega | (simp; done) | (simp; omega)) ?_
      | refine r_iad_row rfl rfl (by first | rfl | assumption | omega | (simp; done) | (simp; omega)) rfl (by first | rfl | assumption | omega | (simp; done) | (simp; omega)) ?_
      | refine r_skip0 rfl (by first | with_reducible rfl | assumption | decide) ?_
      | refine r_skipU0 rfl ?_
      | refine r_semF rfl rfl rfl rfl ?_
      | refine r_load_rp rfl rfl (by assumption) rfl ?_
      | refine run_seq ?_
      | refine run_reg ?_
      | refine run_regd rfl ?_
      | refine run_block ?_
      | refine run_skip ?_
      | refine run_exit ?_
      | refine run_ret ?_
      | refine fin_seq ?_
      | refine fin_seq_e ?_
      | refine fin_seq_r ?_
      | refine fin_blk ?_
      | refine fin_blk_e ?_
      | refine fin_blk_x rfl ?_
      | refine fin_blk_r ?_
      | refine fin_loop_e ?_
      | refine fin_loop_r ?_
      | refine run_cond_t rfl (by first | with_reducible rfl | assumption | decide) ?_
      | refine run_cond_f rfl (by first | with_reducible rfl | assumption | decide) ?_)
    exact fin_out rfl rfl
  have h100 : l.length ≤ 100 := by simp at h; omega
  have hbig : (l.length + 1) * 24 ≤ 140737488355328 := Nat.le_trans (Nat.mul_le_mul_right 24 (Nat.succ_le_succ h100)) (by decide)
  clear h
  repeat (first
    | refine r_mv_p rfl ?_
    | refine r_do rfl (by first | with_reducible rfl | assumption | decide) ?_
    | refine r_skip rfl (by first | with_reducible rfl | assumption | decide) ?_
    | refine r_skipU rfl ?_
    | refine r_fad rfl rfl ?_
    | refine r_add rfl rfl (by omega) ?_
    | refine r_sub rfl rfl (by omega) ?_
    | refine r_loadAll rfl (by first | rfl | assumption) ?_
    | refine r_loadAllB rfl rfl (by first | rfl | assumption) ?_
    | refine r_pick_t rfl (by first | with_reducible rfl | assumption | decide) rfl rfl ?_
    | refine r_pick_f rfl (by first | with_reducible rfl | assumption | decide) rfl rfl ?_
    | refine r_sem rfl rfl rfl rfl ?_
    | refine r_nil ?_
    | refine r_iad rfl rfl (by omega) (by assumption) (by first | rfl | assumption | omega | (simp; done) | (simp; omega)) ?_
    | refine r_storeAll rfl rfl rfl rfl rfl rfl ?_
    | refine r_store rfl rfl rfl rfl (by decide) ?_
    | refine r_alloc rfl ?_
    | refine r_box rfl rfl rfl ?_
    | refine r_bsl rfl rfl rfl rfl rfl rfl ?_
    | refine r_bsl1 rfl (by assumption) rfl ?_
    | refine r_mkmap rfl ?_
    | refine r_mv_nil rfl ?_
    | refine r_mv_own rfl rfl ?_
    | refine r_mv_mp rfl rfl ?_
    | refine r_mv_row rfl rfl (by first | rfl | assumption | omega | (simp; done) | (simp; omega)) ?_
    | refine r_mv_rp rfl rfl (by first | rfl | assumption | omega | (simp; done) | (simp; omega)) ?_
    | refine r_fad_rp rfl rfl (by first | rfl | assumption | omega | (simp; done) | (simp; omega)) ?_
    | refine r_iad_row rfl rfl (by first | rfl | assumption | omega | (simp; done) | (simp; omega)) rfl (by first | rfl | assumption | omega | (simp; done) | (simp; omega)) ?_
    | refine r_skip0 rfl (by first | with_reducible rfl | assumption | decide) ?_
    | refine r_skipU0 rfl ?_
    | refine r_semF rfl rfl rfl rfl ?_
    | refine r_load_rp rfl rfl (by assumption) rfl ?_
    | refine run_seq ?_
    | refine run_reg ?_
    | refine run_regd rfl ?_
    | refine run_block ?_
    | refine run_skip ?_
    | refine run_exit ?_
    | refine run_ret ?_
    | refine fin_seq ?_
    | refine fin_seq_e ?_
    | refine fin_seq_r ?_
    | refine fin_blk ?_
    | refine fin_blk_e ?_
    | refine fin_blk_x rfl ?_
    | refine fin_blk_r ?_
    | refine fin_loop_e ?_
    | refine fin_loop_r ?_
    | refine run_cond_t rfl (by first | with_reducible rfl | assumption | decide) ?_
    | refine run_cond_f rfl (by first | with_reducible rfl | assumption | decide) ?_)
  refine run_weak (weak_S ?_ ?_) (run_inv (sA l sp os s2) (fun i => i ≤ l.length ∧ ∀ a b (ha : a < b) (hb : b < l.length), b < i → l[a].name ≠ l[b].name) (fun i => l.length - i) ?_ 0 ⟨Nat.zero_le _, fun a b _ _ hb => by omega⟩)
  · exact ⟨rfl, rfl, rfl, rfl, trivial⟩
  · trivial
  rintro i ⟨hi, hD⟩ ih
  unfold sA
  repeat (first
    | refine r_mv_p rfl ?_
    | refine r_do rfl (by first | with_reducible rfl | assumption | decide) ?_
    | refine r_skip rfl (by first | with_reducible rfl | assumption | decide) ?_
    | refine r_skipU rfl ?_
    | refine r_fad rfl rfl ?_
    | refine r_add rfl rfl (by omega) ?_
    | refine r_sub rfl rfl (by omega) ?_
    | refine r_loadAll rfl (by first | rfl | assumption) ?_
    | refine r_loadAllB rfl rfl (by first | rfl | assumption) ?_
    | refine r_pick_t rfl (by first | with_reducible rfl | assumption | decide) rfl rfl ?_
    | refine r_pick_f rfl (by first | with_reducible rfl | assumption | decide) rfl rfl ?_
    | refine r_sem rfl rfl rfl rfl ?_
    | refine r_nil ?_
    | refine r_iad rfl rfl (by omega) (by assumption) (by first | rfl | assumption | omega | (simp; done) | (simp; omega)) ?_
    | refine r_storeAll rfl rfl rfl rfl rfl rfl ?_
    | refine r_store rfl rfl rfl rfl (by decide) ?_
    | refine r_alloc rfl ?_
    | refine r_box rfl rfl rfl ?_
    | refine r_bsl rfl rfl rfl rfl rfl rfl ?_
    | refine r_bsl1 rfl (by assumption) rfl ?_
    | refine r_mkmap rfl ?_
    | refine r_mv_nil rfl ?_
    | refine r_mv_own rfl rfl ?_
    | refine r_mv_mp rfl rfl ?_
    | refine r_mv_row rfl rfl (by first | rfl | assumption | omega | (simp; done) | (simp; omega)) ?_
    | refine r_mv_rp rfl rfl (by first | rfl | assumption | omega | (simp; done) | (simp; omega)) ?_
    | refine r_fad_rp rfl rfl (by first | rfl | assumption | omega | (simp; done) | (simp; omega)) ?_
    | refine r_iad_row rfl rfl (by first | rfl | assumption | omega | (simp; done) | (simp; omega)) rfl (by first | rfl | assumption | omega | (simp; done) | (simp; omega)) ?_
    | refine r_skip0 rfl (by first | with_reducible rfl | assumption | decide) ?_
    | refine r_skipU0 rfl ?_
    | refine r_semF rfl rfl rfl rfl ?_
    | refine r_load_rp rfl rfl (by assumption) rfl ?_
    | refine run_seq ?_
    | refine run_reg ?_
    | refine run_regd rfl ?_
    | refine run_block ?_
    | refine run_skip ?_
    | refine run_exit ?_
    | refine run_ret ?_
    | refine fin_seq ?_
    | refine fin_seq_e ?_
    | refine fin_seq_r ?_
    | refine fin_blk ?_
    | refine fin_blk_e ?_
    | refine fin_blk_x rfl ?_
    | refine fin_blk_r ?_
    | refine fin_loop_e ?_
    | refine fin_loop_r ?_
    | refine run_cond_t rfl (by first | with_reducible rfl | assumption | decide) ?_
    | refine run_cond_f rfl (by first | with_reducible rfl | assumption | decide) ?_)
  refine run_cond rfl (fun h => ?_) (fun h => ?_)
  · have hlt : i < l.length := by simpa using h
    have hx : (l.map Pair.enc)[i]? = some l[i].enc := by simp [hlt]
    repeat (first
      | refine r_mv_p rfl ?_
      | refine r_do rfl (by first | with_reducible rfl | assumption | decide) ?_
      | refine r_skip rfl (by first | with_reducible rfl | assumption | decide) ?_
      | refine r_skipU rfl ?_
      | refine r_fad rfl rfl ?_
      | refine r_add rfl rfl (by omega) ?_
      | refine r_sub rfl rfl (by omega) ?_
      | refine r_loadAll rfl (by first | rfl | assumption) ?_
      | refine r_loadAllB rfl rfl (by first | rfl | assumption) ?_
      | refine r_pick_t rfl (by first | with_reducible rfl | assumption | decide) rfl rfl ?_
      | refine r_pick_f rfl (by first | with_reducible rfl | assumption | decide) rfl rfl ?_
      | refine r_sem rfl rfl rfl rfl ?_
      | refine r_nil ?_
      | refine r_iad rfl rfl (by omega) (by assumption) (by first | rfl | assumption | omega | (simp; done) | (simp; omega)) ?_
      | refine r_storeAll rfl rfl rfl rfl rfl rfl ?_
      | refine r_store rfl rfl rfl rfl (by decide) ?_
      | refine r_alloc rfl ?_
      | refine r_box rfl rfl rfl ?_
      | refine r_bsl rfl rfl rfl rfl rfl rfl ?_
      | refine r_bsl1 rfl (by assumption) rfl ?_
      | refine r_mkmap rfl ?_
      | refine r_mv_nil rfl ?_
      | refine r_mv_own rfl rfl ?_
      | refine r_mv_mp rfl rfl ?_
      | refine r_mv_row rfl rfl (by first | rfl | assumption | omega | (simp; done) | (simp; omega)) ?_
      | refine r_mv_rp rfl rfl (by first | rfl | assumption | omega | (simp; done) | (simp; omega)) ?_
      | refine r_fad_rp rfl rfl (by first | rfl | assumption | omega | (simp; done) | (simp; omega)) ?_
      | refine r_iad_row rfl rfl (by first | rfl | assumption | omega | (simp; done) | (simp; omega)) rfl (by first | rfl | assumption | omega | (simp; done) | (simp; omega)) ?_
      | refine r_skip0 rfl (by first | with_reducible rfl | assumption | decide) ?_
      | refine r_skipU0 rfl ?_
      | refine r_semF rfl rfl rfl rfl ?_
      | refine r_load_rp rfl rfl (by assumption) rfl ?_
      | refine run_seq ?_
      | refine run_reg ?_
      | refine run_regd rfl ?_
      | refine run_block ?_
      | refine run_skip ?_
      | refine run_exit ?_
      | refine run_ret ?_
      | refine fin_seq ?_
      | refine fin_seq_e ?_
      | refine fin_seq_r ?_
      | refine fin_blk ?_
      | refine fin_blk_e ?_
      | refine fin_blk_x rfl ?_
      | refine fin_blk_r ?_
      | refine fin_loop_e ?_
      | refine fin_loop_r ?_
      | refine run_cond_t rfl (by first | with_reducible rfl | assumption | decide) ?_
      | refine run_cond_f rfl (by first | with_reducible rfl | assumption | decide) ?_)
    refine run_weak (weak_S ?_ ?_) (run_inv (sB l sp os s2 i) (fun k => k ≤ i ∧ ∀ a (ha : a < k) (hb : a < l.length), l[a].name ≠ l[i].name) (fun k => i - k) ?_ 0 ⟨Nat.zero_le _, fun a ha => by omega⟩)
    · exact ⟨rfl, rfl, rfl, rfl, rfl, trivial⟩
    · trivial
    rintro k ⟨hk, hE⟩ ihk
    unfold sB
    repeat (first
      | refine r_mv_p rfl ?_
      | refine r_do rfl (by first | with_reducible rfl | assumption | decide) ?_
      | refine r_skip rfl (by first | with_reducible rfl | assumption | decide) ?_
      | refine r_skipU rfl ?_
      | refine r_fad rfl rfl ?_
      | refine r_add rfl rfl (by omega) ?_
      | refine r_sub rfl rfl (by omega) ?_
      | refine r_loadAll rfl (by first | rfl | assumption) ?_
      | refine r_loadAllB rfl rfl (by first | rfl | assumption) ?_
      | refine r_pick_t rfl (by first | with_reducible rfl | assumption | decide) rfl rfl ?_
      | refine r_pick_f rfl (by first | with_reducible rfl | assumption | decide) rfl rfl ?_
      | refine r_sem rfl rfl rfl rfl ?_
      | refine r_nil ?_
      | refine r_iad rfl rfl (by omega) (by assumption) (by first | rfl | assumption | omega | (simp; done) | (simp; omega)) ?_
      | refine r_storeAll rfl rfl rfl rfl rfl rfl ?_
      | refine r_store rfl rfl rfl rfl (by decide) ?_
      | refine r_alloc rfl ?_
      | refine r_box rfl rfl rfl ?_
      | refine r_bsl rfl rfl rfl rfl rfl rfl ?_
      | refine r_bsl1 rfl (by assumption) rfl ?_
      | refine r_mkmap rfl ?_
      | refine r_mv_nil rfl ?_
      | refine r_mv_own rfl rfl ?_
      | refine r_mv_mp rfl rfl ?_
      | refine r_mv_row rfl rfl (by first | rfl | assumption | omega | (simp; done) | (simp; omega)) ?_
      | refine r_mv_rp rfl rfl (by first | rfl | assumption | omega | (simp; done) | (simp; omega)) ?_
      | refine r_fad_rp rfl rfl (by first | rfl | assumption | omega | (simp; done) | (simp; omega)) ?_
      | refine r_iad_row rfl rfl (by first | rfl | assumption | omega | (simp; done) | (simp; omega)) rfl (by first | rfl | assumption | omega | (simp; done) | (simp; omega)) ?_
      | refine r_skip0 rfl (by first | with_reducible rfl | assumption | decide) ?_
      | refine r_skipU0 rfl ?_
      | refine r_semF rfl rfl rfl rfl ?_
      | refine r_load_rp rfl rfl (by assumption) rfl ?_
      | refine run_seq ?_
      | refine run_reg ?_
      | refine run_regd rfl ?_
      | refine run_block ?_
      | refine run_skip ?_
      | refine run_exit ?_
      | refine run_ret ?_
      | refine fin_seq ?_
      | refine fin_seq_e ?_
      | refine fin_seq_r ?_
      | refine fin_blk ?_
      | refine fin_blk_e ?_
      | refine fin_blk_x rfl ?_
      | refine fin_blk_r ?_
      | refine fin_loop_e ?_
      | refine fin_loop_r ?_
      | refine run_cond_t rfl (by first | with_reducible rfl | assumption | decide) ?_
      | refine run_cond_f rfl (by first | with_reducible rfl | assumption | decide) ?_)
    refine run_cond rfl (fun h2 => ?_) (fun h2 => ?_)
    · have hki : k < i := by simpa using h2
      have hxk : (l.map Pair.enc)[k]? = some l[k].enc := by simp; exact ⟨l[k], by simp⟩
      repeat (first
        | refine r_mv_p rfl ?_
        | refine r_do rfl (by first | with_reducible rfl | assumption | decide) ?_
        | refine r_skip rfl (by first | with_reducible rfl | assumption | decide) ?_
        | refine r_skipU rfl ?_
        | refine r_fad rfl rfl ?_
        | refine r_add rfl rfl (by omega) ?_
        | refine r_sub rfl rfl (by omega) ?_
        | refine r_loadAll rfl (by first | rfl | assumption) ?_
        | refine r_loadAllB rfl rfl (by first | rfl | assumption) ?_
        | refine r_pick_t rfl (by first | with_reducible rfl | assumption | decide) rfl rfl ?_
        | refine r_pick_f rfl (by first | with_reducible rfl | assumption | decide) rfl rfl ?_
        | refine r_sem rfl rfl rfl rfl ?_
        | refine r_nil ?_
        | refine r_iad rfl rfl (by omega) (by assumption) (by first | rfl | assumption | omega | (simp; done) | (simp; omega)) ?_
        | refine r_storeAll rfl rfl rfl rfl rfl rfl ?_
        | refine r_store rfl rfl rfl rfl (by decide) ?_
        | refine r_alloc rfl ?_
        | refine r_box rfl rfl rfl ?_
        | refine r_bsl rfl rfl rfl rfl rfl rfl ?_
        | refine r_bsl1 rfl (by assumption) rfl ?_
        | refine r_mkmap rfl ?_
        | refine r_mv_nil rfl ?_
        | refine r_mv_own rfl rfl ?_
        | refine r_mv_mp rfl rfl ?_
        | refine r_mv_row rfl rfl (by first | rfl | assumption | omega | (simp; done) | (simp; omega)) ?_
        | refine r_mv_rp rfl rfl (by first | rfl | assumption | omega | (simp; done) | (simp; omega)) ?_
        | refine r_fad_rp rfl rfl (by first | rfl | assumption | omega | (simp; done) | (simp; omega)) ?_
        | refine r_iad_row rfl rfl (by first | rfl | assumption | omega | (simp; done) | (simp; omega)) rfl (by first | rfl | assumption | omega | (simp; done) | (simp; omega)) ?_
        | refine r_skip0 rfl (by first | with_reducible rfl | assumption | decide) ?_
        | refine r_skipU0 rfl ?_
        | refine r_semF rfl rfl rfl rfl ?_
        | refine r_load_rp rfl rfl (by assumption) rfl ?_
        | refine run_seq ?_
        | refine run_reg ?_
        | refine run_regd rfl ?_
        | refine run_block ?_
        | refine run_skip ?_
        | refine run_exit ?_
        | refine run_ret ?_
        | refine fin_seq ?_
        | refine fin_seq_e ?_
        | refine fin_seq_r ?_
        | refine fin_blk ?_
        | refine fin_blk_e ?_
        | refine fin_blk_x rfl ?_
        | refine fin_blk_r ?_
        | refine fin_loop_e ?_
        | refine fin_loop_r ?_
        | refine run_cond_t rfl (by first | with_reducible rfl | assumption | decide) ?_
        | refine run_cond_f rfl (by first | with_reducible rfl | assumption | decide) ?_)
      refine run_cond rfl (fun h3 => ?_) (fun h3 => ?_)
      · repeat (first
          | refine r_call rfl (awake21) ?_
          | refine r_mv_p rfl ?_
          | refine r_do rfl (by first | with_reducible rfl | assumption | decide) ?_
          | refine r_skip rfl (by first | with_reducible rfl | assumption | decide) ?_
          | refine r_skipU rfl ?_
          | refine r_fad rfl rfl ?_
          | refine r_add rfl rfl (by omega) ?_
          | refine r_sub rfl rfl (by omega) ?_
          | refine r_loadAll rfl (by first | rfl | assumption) ?_
          | refine r_loadAllB rfl rfl (by first | rfl | assumption) ?_
          | refine r_pick_t rfl (by first | with_reducible rfl | assumption | decide) rfl rfl ?_
          | refine r_pick_f rfl (by first | with_reducible rfl | assumption | decide) rfl rfl ?_
          | refine r_sem rfl rfl rfl rfl ?_
          | refine r_nil ?_
          | refine r_iad rfl rfl (by omega) (by assumption) (by first | rfl | assumption | omega | (simp; done) | (simp; omega)) ?_
          | refine r_storeAll rfl rfl rfl rfl rfl rfl ?_
          | refine r_store rfl rfl rfl rfl (by decide) ?_
          | refine r_alloc rfl ?_
          | refine r_box rfl rfl rfl ?_
          | refine r_bsl rfl rfl rfl rfl rfl rfl ?_
          | refine r_bsl1 rfl (by assumption) rfl ?_
          | refine r_mkmap rfl ?_
          | refine r_mv_nil rfl ?_
          | refine r_mv_own rfl rfl ?_
          | refine r_mv_mp rfl rfl ?_
          | refine r_mv_row rfl rfl (by first | rfl | assumption | omega | (simp; done) | (simp; omega)) ?_
          | refine r_mv_rp rfl rfl (by first | rfl | assumption | omega | (simp; done) | (simp; omega)) ?_
          | refine r_fad_rp rfl rfl (by first | rfl | assumption | omega | (simp; done) | (simp; omega)) ?_
          | refine r_iad_row rfl rfl (by first | rfl | assumption | omega | (simp; done) | (simp; omega)) rfl (by first | rfl | assumption | omega | (simp; done) | (simp; omega)) ?_
          | refine r_skip0 rfl (by first | with_reducible rfl | assumption | decide) ?_
          | refine r_skipU0 rfl ?_
          | refine r_semF rfl rfl rfl rfl ?_
          | refine r_load_rp rfl rfl (by assumption) rfl ?_
          | refine run_seq ?_
          | refine run_reg ?_
          | refine run_regd rfl ?_
          | refine run_block ?_
          | refine run_skip ?_
          | refine run_exit ?_
          | refine run_ret ?_
          | refine fin_seq ?_
          | refine fin_seq_e ?_
          | refine fin_seq_r ?_
          | refine fin_blk ?_
          | refine fin_blk_e ?_
          | refine fin_blk_x rfl ?_
          | refine fin_blk_r ?_
          | refine fin_loop_e ?_
          | refine fin_loop_r ?_
          | refine run_cond_t rfl (by first | with_reducible rfl | assumption | decide) ?_
          | refine run_cond_f rfl (by first | with_reducible rfl | assumption | decide) ?_)
        exact fin_out rfl rfl
      · repeat (first
          | refine r_mv_p rfl ?_
          | refine r_do rfl (by first | with_reducible rfl | assumption | decide) ?_
          | refine r_skip rfl (by first | with_reducible rfl | assumption | decide) ?_
          | refine r_skipU rfl ?_
          | refine r_fad rfl rfl ?_
          | refine r_add rfl rfl (by omega) ?_
          | refine r_sub rfl rfl (by omega) ?_
          | refine r_loadAll rfl (by first | rfl | assumption) ?_
          | refine r_loadAllB rfl rfl (by first | rfl | assumption) ?_
          | refine r_pick_t rfl (by first | with_reducible rfl | assumption | decide) rfl rfl ?_
          | refine r_pick_f rfl (by first | with_reducible rfl | assumption | decide) rfl rfl ?_
          | refine r_sem rfl rfl rfl rfl ?_
          | refine r_nil ?_
          | refine r_iad rfl rfl (by omega) (by assumption) (by first | rfl | assumption | omega | (simp; done) | (simp; omega)) ?_
          | refine r_storeAll rfl rfl rfl rfl rfl rfl ?_
          | refine r_store rfl rfl rfl rfl (by decide) ?_
          | refine r_alloc rfl ?_
          | refine r_box rfl rfl rfl ?_
          | refine r_bsl rfl rfl rfl rfl rfl rfl ?_
          | refine r_bsl1 rfl (by assumption) rfl ?_
          | refine r_mkmap rfl ?_
          | refine r_mv_nil rfl ?_
          | refine r_mv_own rfl rfl ?_
          | refine r_mv_mp rfl rfl ?_
          | refine r_mv_row rfl rfl (by first | rfl | assumption | omega | (simp; done) | (simp; omega)) ?_
          | refine r_mv_rp rfl rfl (by first | rfl | assumption | omega | (simp; done) | (simp; omega)) ?_
          | refine r_fad_rp rfl rfl (by first | rfl | assumption | omega | (simp; done) | (simp; omega)) ?_
          | refine r_iad_row rfl rfl (by first | rfl | assumption | omega | (simp; done) | (simp; omega)) rfl (by first | rfl | assumption | omega | (simp; done) | (simp; omega)) ?_
          | refine r_skip0 rfl (by first | with_reducible rfl | assumption | decide) ?_
          | refine r_skipU0 rfl ?_
          | refine r_semF rfl rfl rfl rfl ?_
          | refine r_load_rp rfl rfl (by assumption) rfl ?_
          | refine run_seq ?_
          | refine run_reg ?_
          | refine run_regd rfl ?_
          | refine run_block ?_
          | refine run_skip ?_
          | refine run_exit ?_
          | refine run_ret ?_
          | refine fin_seq ?_
          | refine fin_seq_e ?_
          | refine fin_seq_r ?_
          | refine fin_blk ?_
          | refine fin_blk_e ?_
          | refine fin_blk_x rfl ?_
          | refine fin_blk_r ?_
          | refine fin_loop_e ?_
          | refine fin_loop_r ?_
          | refine run_cond_t rfl (by first | with_reducible rfl | assumption | decide) ?_
          | refine run_cond_f rfl (by first | with_reducible rfl | assumption | decide) ?_)
        refine fin_loop (run_weak (weak_S ?_ ?_) (ihk (k + 1) ⟨hki, fun a ha hb => ?_⟩ (by omega)))
        · exact ⟨rfl, rfl, rfl, rfl, rfl, trivial⟩
        · trivial
        · rcases Nat.lt_or_ge a k with h' | h'
          · exact hE a h' hb
          · obtain rfl : a = k := by omega
            simpa using h3
    · have hki : k = i := by simp at h2; omega
      repeat (first
        | refine r_mv_p rfl ?_
        | refine r_do rfl (by first | with_reducible rfl | assumption | decide) ?_
        | refine r_skip rfl (by first | with_reducible rfl | assumption | decide) ?_
        | refine r_skipU rfl ?_
        | refine r_fad rfl rfl ?_
        | refine r_add rfl rfl (by omega) ?_
        | refine r_sub rfl rfl (by omega) ?_
        | refine r_loadAll rfl (by first | rfl | assumption) ?_
        | refine r_loadAllB rfl rfl (by first | rfl | assumption) ?_
        | refine r_pick_t rfl (by first | with_reducible rfl | assumption | decide) rfl rfl ?_
        | refine r_pick_f rfl (by first | with_reducible rfl | assumption | decide) rfl rfl ?_
        | refine r_sem rfl rfl rfl rfl ?_
        | refine r_nil ?_
        | refine r_iad rfl rfl (by omega) (by assumption) (by first | rfl | assumption | omega | (simp; done) | (simp; omega)) ?_
        | refine r_storeAll rfl rfl rfl rfl rfl rfl ?_
        | refine r_store rfl rfl rfl rfl (by decide) ?_
        | refine r_alloc rfl ?_
        | refine r_box rfl rfl rfl ?_
        | refine r_bsl rfl rfl rfl rfl rfl rfl ?_
        | refine r_bsl1 rfl (by assumption) rfl ?_
        | refine r_mkmap rfl ?_
        | refine r_mv_nil rfl ?_
        | refine r_mv_own rfl rfl ?_
        | refine r_mv_mp rfl rfl ?_
        | refine r_mv_row rfl rfl (by first | rfl | assumption | omega | (simp; done) | (simp; omega)) ?_
        | refine r_mv_rp rfl rfl (by first | rfl | assumption | omega | (simp; done) | (simp; omega)) ?_
        | refine r_fad_rp rfl rfl (by first | rfl | assumption | omega | (simp; done) | (simp; omega)) ?_
        | refine r_iad_row rfl rfl (by first | rfl | assumption | omega | (simp; done) | (simp; omega)) rfl (by first | rfl | assumption | omega | (simp; done) | (simp; omega)) ?_
        | refine r_skip0 rfl (by first | with_reducible rfl | assumption | decide) ?_
        | refine r_skipU0 rfl ?_
        | refine r_semF rfl rfl rfl rfl ?_
        | refine r_load_rp rfl rfl (by assumption) rfl ?_
        | refine run_seq ?_
        | refine run_reg ?_
        | refine run_regd rfl ?_
        | refine run_block ?_
        | refine run_skip ?_
        | refine run_exit ?_
        | refine run_ret ?_
        | refine fin_seq ?_
        | refine fin_seq_e ?_
        | refine fin_seq_r ?_
        | refine fin_blk ?_
        | refine fin_blk_e ?_
        | refine fin_blk_x rfl ?_
        | refine fin_blk_r ?_
        | refine fin_loop_e ?_
        | refine fin_loop_r ?_
        | refine run_cond_t rfl (by first | with_reducible rfl | assumption | decide) ?_
        | refine run_cond_f rfl (by first | with_reducible rfl | assumption | decide) ?_)
      refine fin_loop (run_weak (weak_S ?_ ?_) (ih (i + 1) ⟨hlt, fun a b ha hb hbi => ?_⟩ (by omega)))
      · exact ⟨rfl, rfl, rfl, rfl, trivial⟩
      · trivial
      · rcases Nat.lt_or_ge b i with h' | h'
        · exact hD a b ha hb h'
        · obtain rfl : b = i := by omega
          exact hE a (by omega) (by omega)
  have hin : i = l.length := by simp at h; omega
  have hu : uniq l := List.pairwise_iff_getElem.2 fun a b ha hb hab => hD a b hab hb (by omega)
  clear hD ih h
  have he : ∀ z ∈ l.map Pair.enc, z.length = 2 := by intro z hz; obtain ⟨y, _, rfl⟩ := List.mem_map.1 hz; rfl
  have hl0 : (([] : List (List PV)).length + (l.map Pair.enc).length) * 24 ≤ 140737488355328 := by
    rw [List.length_map, List.length_nil, Nat.zero_add]; exact Nat.le_trans (Nat.mul_le_mul_right 24 (Nat.le_succ _)) hbig
  repeat (first
    | refine r_appRow (fs := []) rfl rfl rfl rfl rfl rfl he hl0 (by decide) (Or.inr rfl) ?_
    | refine r_mv_p rfl ?_
    | refine r_do rfl (by first | with_reducible rfl | assumption | decide) ?_
    | refine r_skip rfl (by first | with_reducible rfl | assumption | decide) ?_
    | refine r_skipU rfl ?_
    | refine r_fad rfl rfl ?_
    | refine r_add rfl rfl (by omega) ?_
    | refine r_sub rfl rfl (by omega) ?_
    | refine r_loadAll rfl (by first | rfl | assumption) ?_
    | refine r_loadAllB rfl rfl (by first | rfl | assumption) ?_
    | refine r_pick_t rfl (by first | with_reducible rfl | assumption | decide) rfl rfl ?_
    | refine r_pick_f rfl (by first | with_reducible rfl | assumption | decide) rfl rfl ?_
    | refine r_sem rfl rfl rfl rfl ?_
    | refine r_nil ?_
    | refine r_iad rfl rfl (by omega) (by assumption) (by first | rfl | assumption | omega | (simp; done) | (simp; omega)) ?_
    | refine r_storeAll rfl rfl rfl rfl rfl rfl ?_
    | refine r_store rfl rfl rfl rfl (by decide) ?_
    | refine r_alloc rfl ?_
    | refine r_box rfl rfl rfl ?_
    | refine r_bsl rfl rfl rfl rfl rfl rfl ?_
    | refine r_bsl1 rfl (by assumption) rfl ?_
    | refine r_mkmap rfl ?_
    | refine r_mv_nil rfl ?_
    | refine r_mv_own rfl rfl ?_
    | refine r_mv_mp rfl rfl ?_
    | refine r_mv_row rfl rfl (by first | rfl | assumption | omega | (simp; done) | (simp; omega)) ?_
    | refine r_mv_rp rfl rfl (by first | rfl | assumption | omega | (simp; done) | (simp; omega)) ?_
    | refine r_fad_rp rfl rfl (by first | rfl | assumption | omega | (simp; done) | (simp; omega)) ?_
    | refine r_iad_row rfl rfl (by first | rfl | assumption | omega | (simp; done) | (simp; omega)) rfl (by first | rfl | assumption | omega | (simp; done) | (simp; omega)) ?_
    | refine r_skip0 rfl (by first | with_reducible rfl | assumption | decide) ?_
    | refine r_skipU0 rfl ?_
    | refine r_semF rfl rfl rfl rfl ?_
    | refine r_load_rp rfl rfl (by assumption) rfl ?_
    | refine run_seq ?_
    | refine run_reg ?_
    | refine run_regd rfl ?_
    | refine run_block ?_
    | refine run_skip ?_
    | refine run_exit ?_
    | refine run_ret ?_
    | refine fin_seq ?_
    | refine fin_seq_e ?_
    | refine fin_seq_r ?_
    | refine fin_blk ?_
    | refine fin_blk_e ?_
    | refine fin_blk_x rfl ?_
    | refine fin_blk_r ?_
    | refine fin_loop_e ?_
    | refine fin_loop_r ?_
    | refine run_cond_t rfl (by first | with_reducible rfl | assumption | decide) ?_
    | refine run_cond_f rfl (by first | with_reducible rfl | assumption | decide) ?_)
  refine run_weak (weak_S ?_ ?_) (run_inv (sC l sp os s2) (fun q => q.1 ≤ os.length ∧ q.2.Perm l) (fun q => os.length - q.1) ?_ (0, l) ⟨Nat.zero_le _, .refl _⟩)
  · exact ⟨rfl, rfl, rfl, by show T.row 44 (0 + _) = _; rw [Nat.zero_add], rfl, trivial⟩
  · exact ⟨rfl, trivial⟩
  rintro ⟨a, ms⟩ ⟨ha, hp⟩ ih
  simp only at ha hp
  have hml : ms.length = l.length := hp.length_eq
  by_cases hgo : a < os.length ∧ 0 < ms.length
  · obtain ⟨hlt, hpos⟩ := hgo
    have g1 : decide ((a : Int) < ((os.map encI).length : Nat)) = true := by simpa using hlt
    have g2 : decide ((0 : Int) < ((ms.map Pair.enc).length : Nat)) = true := by simpa using hpos
    have hL : (ms.map Pair.enc).length = ms.length := List.length_map _
    have hml0 : ((ms.map Pair.enc).length : Int) ≠ 0 := by rw [hL]; omega
    have hxo : (os.map encI)[a]? = some (encI os[a]) := by simp [hlt]
    have hml1 : ms.length ≤ 100 := by omega
    obtain ⟨k, hk, hkl⟩ : ∃ k : Nat, (a : Int).tmod ((ms.map Pair.enc).length : Nat) = k ∧ k < ms.length := by
      have := rem_bd (a := a) (n := (ms.map Pair.enc).length) (by omega) (by omega)
      exact ⟨((a : Int).tmod ((ms.map Pair.enc).length : Nat)).toNat, by omega, by omega⟩
    have hr2 := rem_bd2 (a := os[a]) (n := (ms.map Pair.enc).length) (by omega)
    obtain ⟨j, hj, hjl⟩ : ∃ j : Nat, (os[a].tmod ((ms.map Pair.enc).length : Nat) + ((ms.map Pair.enc).length : Nat)).tmod ((ms.map Pair.enc).length : Nat) = j ∧ j < ms.length := by
      have := rem_bd (a := os[a].tmod ((ms.map Pair.enc).length : Nat) + ((ms.map Pair.enc).length : Nat)) (n := (ms.map Pair.enc).length) (by omega) (by omega)
      exact ⟨((os[a].tmod ((ms.map Pair.enc).length : Nat) + ((ms.map Pair.enc).length : Nat)).tmod ((ms.map Pair.enc).length : Nat)).toNat, by omega, by omega⟩
    have hxk : (ms.map Pair.enc)[((a : Int).tmod ((ms.map Pair.enc).length : Nat)).toNat]? = some ms[k].enc := by rw [hk]; simp [hkl]
    have hxj : (ms.map Pair.enc)[((os[a].tmod ((ms.map Pair.enc).length : Nat) + ((ms.map Pair.enc).length : Nat)).tmod ((ms.map Pair.enc).length : Nat)).toNat]? = some ms[j].enc := by rw [hj]; simp [hjl]
    have hsp : ∀ x y : Pair, splice x.enc 0 y.enc = y.enc := fun x y => rfl
    change Run Try.prog _ _ _ (sC' l sp os s2 a ms)
    unfold sC'
    repeat (first
      | refine r_len_row rfl rfl (by first | exact Nat.le_refl _ | omega) ?_
      | refine r_rem2 rfl rfl hml0 ?_
      | refine r_store_rp rfl rfl hxk rfl rfl (And.intro rfl (Nat.le_refl 2)) ?_
      | refine r_mv_p rfl ?_
      | refine r_do rfl (by first | with_reducible rfl | assumption | decide) ?_
      | refine r_skip rfl (by first | with_reducible rfl | assumption | decide) ?_
      | refine r_skipU rfl ?_
      | refine r_fad rfl rfl ?_
      | refine r_add rfl rfl (by omega) ?_
      | refine r_sub rfl rfl (by omega) ?_
      | refine r_loadAll rfl (by first | rfl | assumption) ?_
      | refine r_loadAllB rfl rfl (by first | rfl | assumption) ?_
      | refine r_pick_t rfl (by first | with_reducible rfl | assumption | decide) rfl rfl ?_
      | refine r_pick_f rfl (by first | with_reducible rfl | assumption | decide) rfl rfl ?_
      | refine r_sem rfl rfl rfl rfl ?_
      | refine r_nil ?_
      | refine r_iad rfl rfl (by omega) (by assumption) (by first | rfl | assumption | omega | (simp; done) | (simp; omega)) ?_
      | refine r_storeAll rfl rfl rfl rfl rfl rfl ?_
      | refine r_store rfl rfl rfl rfl (by decide) ?_
      | refine r_alloc rfl ?_
      | refine r_box rfl rfl rfl ?_
      | refine r_bsl rfl rfl rfl rfl rfl rfl ?_
      | refine r_bsl1 rfl (by assumption) rfl ?_
      | refine r_mkmap rfl ?_
      | refine r_mv_nil rfl ?_
      | refine r_mv_own rfl rfl ?_
      | refine r_mv_mp rfl rfl ?_
      | refine r_mv_row rfl rfl (by first | rfl | assumption | omega | (simp; done) | (simp; omega)) ?_
      | refine r_mv_rp rfl rfl (by first | rfl | assumption | omega | (simp; done) | (simp; omega)) ?_
      | refine r_fad_rp rfl rfl (by first | rfl | assumption | omega | (simp; done) | (simp; omega)) ?_
      | refine r_iad_row rfl rfl (by first | rfl | assumption | omega | (simp; done) | (simp; omega)) rfl (by first | rfl | assumption | omega | (simp; done) | (simp; omega)) ?_
      | refine r_skip0 rfl (by first | with_reducible rfl | assumption | decide) ?_
      | refine r_skipU0 rfl ?_
      | refine r_semF rfl rfl rfl rfl ?_
      | refine r_load_rp rfl rfl (by assumption) rfl ?_
      | refine run_seq ?_
      | refine run_reg ?_
      | refine run_regd rfl ?_
      | refine run_block ?_
      | refine run_skip ?_
      | refine run_exit ?_
      | refine run_ret ?_
      | refine fin_seq ?_
      | refine fin_seq_e ?_
      | refine fin_seq_r ?_
      | refine fin_blk ?_
      | refine fin_blk_e ?_
      | refine fin_blk_x rfl ?_
      | refine fin_blk_r ?_
      | refine fin_loop_e ?_
      | refine fin_loop_r ?_
      | refine run_cond_t rfl (by first | with_reducible rfl | assumption | decide) ?_
      | refine run_cond_f rfl (by first | with_reducible rfl | assumption | decide) ?_)
    have hE1 : (ms.map Pair.enc).set ((a : Int).tmod ((ms.map Pair.enc).length : Nat)).toNat (splice ms[k].enc 0 (List.take 2 (List.drop 0 ms[j].enc))) = (ms.set k ms[j]).map Pair.enc := by
      rw [hk, List.map_set]; rfl
    rw [hE1]
    have hi2 : ((ms.set k ms[j]).map Pair.enc)[((os[a].tmod ((ms.map Pair.enc).length : Nat) + ((ms.map Pair.enc).length : Nat)).tmod ((ms.map Pair.enc).length : Nat)).toNat]? = some ((ms.set k ms[j])[j]'(by simpa using hjl)).enc := by
      rw [hj]
      show ((ms.set k ms[j]).map Pair.enc)[j]? = _
      rw [List.getElem?_map, List.getElem?_eq_getElem (by simpa using hjl)]; rfl
    have hE2 : ((ms.set k ms[j]).map Pair.enc).set ((os[a].tmod ((ms.map Pair.enc).length : Nat) + ((ms.map Pair.enc).length : Nat)).tmod ((ms.map Pair.enc).length : Nat)).toNat (splice ((ms.set k ms[j])[j]'(by simpa using hjl)).enc 0 (List.take 2 (List.drop 0 ms[k].enc))) = ((ms.set k ms[j]).set j ms[k]).map Pair.enc := by
      rw [hj, show ((ms.set k ms[j]).set j ms[k]).map Pair.enc = ((ms.set k ms[j]).map Pair.enc).set j ms[k].enc from List.map_set]; rfl
    refine r_store_rp rfl rfl hi2 rfl rfl (And.intro rfl (Nat.le_refl 2)) ?_
    rw [hE2]
    repeat (first
      | refine r_mv_p rfl ?_
      | refine r_do rfl (by first | with_reducible rfl | assumption | decide) ?_
      | refine r_skip rfl (by first | with_reducible rfl | assumption | decide) ?_
      | refine r_skipU rfl ?_
      | refine r_fad rfl rfl ?_
      | refine r_add rfl rfl (by omega) ?_
      | refine r_sub rfl rfl (by omega) ?_
      | refine r_loadAll rfl (by first | rfl | assumption) ?_
      | refine r_loadAllB rfl rfl (by first | rfl | assumption) ?_
      | refine r_pick_t rfl (by first | with_reducible rfl | assumption | decide) rfl rfl ?_
      | refine r_pick_f rfl (by first | with_reducible rfl | assumption | decide) rfl rfl ?_
      | refine r_sem rfl rfl rfl rfl ?_
      | refine r_nil ?_
      | refine r_iad rfl rfl (by omega) (by assumption) (by first | rfl | assumption | omega | (simp; done) | (simp; omega)) ?_
      | refine r_storeAll rfl rfl rfl rfl rfl rfl ?_
      | refine r_store rfl rfl rfl rfl (by decide) ?_
      | refine r_alloc rfl ?_
      | refine r_box rfl rfl rfl ?_
      | refine r_bsl rfl rfl rfl rfl rfl rfl ?_
      | refine r_bsl1 rfl (by assumption) rfl ?_
      | refine r_mkmap rfl ?_
      | refine r_mv_nil rfl ?_
      | refine r_mv_own rfl rfl ?_
      | refine r_mv_mp rfl rfl ?_
      | refine r_mv_row rfl rfl (by first | rfl | assumption | omega | (simp; done) | (simp; omega)) ?_
      | refine r_mv_rp rfl rfl (by first | rfl | assumption | omega | (simp; done) | (simp; omega)) ?_
      | refine r_fad_rp rfl rfl (by first | rfl | assumption | omega | (simp; done) | (simp; omega)) ?_
      | refine r_iad_row rfl rfl (by first | rfl | assumption | omega | (simp; done) | (simp; omega)) rfl (by first | rfl | assumption | omega | (simp; done) | (simp; omega)) ?_
      | refine r_skip0 rfl (by first | with_reducible rfl | assumption | decide) ?_
      | refine r_skipU0 rfl ?_
      | refine r_semF rfl rfl rfl rfl ?_
      | refine r_load_rp rfl rfl (by assumption) rfl ?_
      | refine run_seq ?_
      | refine run_reg ?_
      | refine run_regd rfl ?_
      | refine run_block ?_
      | refine run_skip ?_
      | refine run_exit ?_
      | refine run_ret ?_
      | refine fin_seq ?_
      | refine fin_seq_e ?_
      | refine fin_seq_r ?_
      | refine fin_blk ?_
      | refine fin_blk_e ?_
      | refine fin_blk_x rfl ?_
      | refine fin_blk_r ?_
      | refine fin_loop_e ?_
      | refine fin_loop_r ?_
      | refine run_cond_t rfl (by first | with_reducible rfl | assumption | decide) ?_
      | refine run_cond_f rfl (by first | with_reducible rfl | assumption | decide) ?_)
    refine fin_loop (run_weak (weak_S ?_ ?_) (ih (a + 1, (ms.set k ms[j]).set j ms[k]) ⟨hlt, (List.set_set_perm hkl hjl).trans hp⟩ (by show os.length - (a + 1) < os.length - a; omega)))
    · refine ⟨rfl, rfl, rfl, ?_, rfl, trivial⟩
      show T.row 44 (ms.map Pair.enc).length = T.row 44 (((ms.set k ms[j]).set j ms[k]).map Pair.enc).length
      simp
    · exact ⟨rfl, trivial⟩
  have hum : uniq ms := uniq_perm hu hp
  change Run Try.prog _ _ _ (sC' l sp os s2 a ms)
  unfold sC'
  rcases Nat.lt_or_ge a os.length with hlt | hge
  · have g1 : decide ((a : Int) < ((os.map encI).length : Nat)) = true := by simpa using hlt
    have g2 : decide ((0 : Int) < ((ms.map Pair.enc).length : Nat)) = false := decide_eq_false (by rw [List.length_map]; omega)
    repeat (first
      | refine r_len_row rfl rfl (by first | exact Nat.le_refl _ | omega) ?_
      | refine r_mv_p rfl ?_
      | refine r_do rfl (by first | with_reducible rfl | assumption | decide) ?_
      | refine r_skip rfl (by first | with_reducible rfl | assumption | decide) ?_
      | refine r_skipU rfl ?_
      | refine r_fad rfl rfl ?_
      | refine r_add rfl rfl (by omega) ?_
      | refine r_sub rfl rfl (by omega) ?_
      | refine r_loadAll rfl (by first | rfl | assumption) ?_
      | refine r_loadAllB rfl rfl (by first | rfl | assumption) ?_
      | refine r_pick_t rfl (by first | with_reducible rfl | assumption | decide) rfl rfl ?_
      | refine r_pick_f rfl (by first | with_reducible rfl | assumption | decide) rfl rfl ?_
      | refine r_sem rfl rfl rfl rfl ?_
      | refine r_nil ?_
      | refine r_iad rfl rfl (by omega) (by assumption) (by first | rfl | assumption | omega | (simp; done) | (simp; omega)) ?_
      | refine r_storeAll rfl rfl rfl rfl rfl rfl ?_
      | refine r_store rfl rfl rfl rfl (by decide) ?_
      | refine r_alloc rfl ?_
      | refine r_box rfl rfl rfl ?_
      | refine r_bsl rfl rfl rfl rfl rfl rfl ?_
      | refine r_bsl1 rfl (by assumption) rfl ?_
      | refine r_mkmap rfl ?_
      | refine r_mv_nil rfl ?_
      | refine r_mv_own rfl rfl ?_
      | refine r_mv_mp rfl rfl ?_
      | refine r_mv_row rfl rfl (by first | rfl | assumption | omega | (simp; done) | (simp; omega)) ?_
      | refine r_mv_rp rfl rfl (by first | rfl | assumption | omega | (simp; done) | (simp; omega)) ?_
      | refine r_fad_rp rfl rfl (by first | rfl | assumption | omega | (simp; done) | (simp; omega)) ?_
      | refine r_iad_row rfl rfl (by first | rfl | assumption | omega | (simp; done) | (simp; omega)) rfl (by first | rfl | assumption | omega | (simp; done) | (simp; omega)) ?_
      | refine r_skip0 rfl (by first | with_reducible rfl | assumption | decide) ?_
      | refine r_skipU0 rfl ?_
      | refine r_semF rfl rfl rfl rfl ?_
      | refine r_load_rp rfl rfl (by assumption) rfl ?_
      | refine run_seq ?_
      | refine run_reg ?_
      | refine run_regd rfl ?_
      | refine run_block ?_
      | refine run_skip ?_
      | refine run_exit ?_
      | refine run_ret ?_
      | refine fin_seq ?_
      | refine fin_seq_e ?_
      | refine fin_seq_r ?_
      | refine fin_blk ?_
      | refine fin_blk_e ?_
      | refine fin_blk_x rfl ?_
      | refine fin_blk_r ?_
      | refine fin_loop_e ?_
      | refine fin_loop_r ?_
      | refine run_cond_t rfl (by first | with_reducible rfl | assumption | decide) ?_
      | refine run_cond_f rfl (by first | with_reducible rfl | assumption | decide) ?_)
    refine run_weak (weak_nilP 12 rfl) (run_weak (weak_nilP 13 rfl) (run_weak (weak_S ?_ ?_) (run_inv (sD l sp ms) (fun i => i ≤ l.length ∧ Put l i ∧ Put ms i) (fun i => l.length - i) ?_ 0 ⟨Nat.zero_le _, Put.zero _, Put.zero _⟩)))
    · exact ⟨rfl, rfl, rfl, rfl, rfl, rfl, trivial⟩
    · exact ⟨rfl, trivial⟩
    rintro i ⟨hi, hP, hM⟩ ihi
    unfold sD
    repeat (first
      | refine r_mv_p rfl ?_
      | refine r_do rfl (by first | with_reducible rfl | assumption | decide) ?_
      | refine r_skip rfl (by first | with_reducible rfl | assumption | decide) ?_
      | refine r_skipU rfl ?_
      | refine r_fad rfl rfl ?_
      | refine r_add rfl rfl (by omega) ?_
      | refine r_sub rfl rfl (by omega) ?_
      | refine r_loadAll rfl (by first | rfl | assumption) ?_
      | refine r_loadAllB rfl rfl (by first | rfl | assumption) ?_
      | refine r_pick_t rfl (by first | with_reducible rfl | assumption | decide) rfl rfl ?_
      | refine r_pick_f rfl (by first | with_reducible rfl | assumption | decide) rfl rfl ?_
      | refine r_sem rfl rfl rfl rfl ?_
      | refine r_nil ?_
      | refine r_iad rfl rfl (by omega) (by assumption) (by first | rfl | assumption | omega | (simp; done) | (simp; omega)) ?_
      | refine r_storeAll rfl rfl rfl rfl rfl rfl ?_
      | refine r_store rfl rfl rfl rfl (by decide) ?_
      | refine r_alloc rfl ?_
      | refine r_box rfl rfl rfl ?_
      | refine r_bsl rfl rfl rfl rfl rfl rfl ?_
      | refine r_bsl1 rfl (by assumption) rfl ?_
      | refine r_mkmap rfl ?_
      | refine r_mv_nil rfl ?_
      | refine r_mv_own rfl rfl ?_
      | refine r_mv_mp rfl rfl ?_
      | refine r_mv_row rfl rfl (by first | rfl | assumption | omega | (simp; done) | (simp; omega)) ?_
      | refine r_mv_rp rfl rfl (by first | rfl | assumption | omega | (simp; done) | (simp; omega)) ?_
      | refine r_fad_rp rfl rfl (by first | rfl | assumption | omega | (simp; done) | (simp; omega)) ?_
      | refine r_iad_row rfl rfl (by first | rfl | assumption | omega | (simp; done) | (simp; omega)) rfl (by first | rfl | assumption | omega | (simp; done) | (simp; omega)) ?_
      | refine r_skip0 rfl (by first | with_reducible rfl | assumption | decide) ?_
      | refine r_skipU0 rfl ?_
      | refine r_semF rfl rfl rfl rfl ?_
      | refine r_load_rp rfl rfl (by assumption) rfl ?_
      | refine run_seq ?_
      | refine run_reg ?_
      | refine run_regd rfl ?_
      | refine run_block ?_
      | refine run_skip ?_
      | refine run_exit ?_
      | refine run_ret ?_
      | refine fin_seq ?_
      | refine fin_seq_e ?_
      | refine fin_seq_r ?_
      | refine fin_blk ?_
      | refine fin_blk_e ?_
      | refine fin_blk_x rfl ?_
      | refine fin_blk_r ?_
      | refine fin_loop_e ?_
      | refine fin_loop_r ?_
      | refine run_cond_t rfl (by first | with_reducible rfl | assumption | decide) ?_
      | refine run_cond_f rfl (by first | with_reducible rfl | assumption | decide) ?_)
    refine run_cond rfl (fun h => ?_) (fun h => ?_)
    · have hli : i < l.length := by simpa using h
      have hmi : i < ms.length := by omega
      have hx : (l.map Pair.enc)[i]? = some l[i].enc := by simp [hli]
      have hy : (ms.map Pair.enc)[i]? = some ms[i].enc := by simp [hmi]
      have hmi2 : i < (ms.map Pair.enc).length := by simpa using hmi
      have hP' := hP.succ hu hli
      have hM' := hM.succ hum hmi
      have hb1 : ((puts (l.take i)).length + 1) * 24 ≤ 140737488355328 := by rw [hP.len]; exact Nat.le_trans (Nat.mul_le_mul_right 24 (by omega)) hbig
      have hb2 : ((puts (ms.take i)).length + 1) * 24 ≤ 140737488355328 := by rw [hM.len]; exact Nat.le_trans (Nat.mul_le_mul_right 24 (by omega)) hbig
      repeat (first
        | refine r_call rfl (pairs9) ?_
        | refine r_call rfl (putR12 Pair.enc (fun _ => rfl) 22 pairCmp order22 l[i] (puts (l.take i)) [] hb1) ?_
        | refine r_call rfl (putR12 Pair.enc (fun _ => rfl) 22 pairCmp order22 ms[i] (puts (ms.take i)) [] hb2) ?_
        | refine r_mv_p rfl ?_
        | refine r_do rfl (by first | with_reducible rfl | assumption | decide) ?_
        | refine r_skip rfl (by first | with_reducible rfl | assumption | decide) ?_
        | refine r_skipU rfl ?_
        | refine r_fad rfl rfl ?_
        | refine r_add rfl rfl (by omega) ?_
        | refine r_sub rfl rfl (by omega) ?_
        | refine r_loadAll rfl (by first | rfl | assumption) ?_
        | refine r_loadAllB rfl rfl (by first | rfl | assumption) ?_
        | refine r_pick_t rfl (by first | with_reducible rfl | assumption | decide) rfl rfl ?_
        | refine r_pick_f rfl (by first | with_reducible rfl | assumption | decide) rfl rfl ?_
        | refine r_sem rfl rfl rfl rfl ?_
        | refine r_nil ?_
        | refine r_iad rfl rfl (by omega) (by assumption) (by first | rfl | assumption | omega | (simp; done) | (simp; omega)) ?_
        | refine r_storeAll rfl rfl rfl rfl rfl rfl ?_
        | refine r_store rfl rfl rfl rfl (by decide) ?_
        | refine r_alloc rfl ?_
        | refine r_box rfl rfl rfl ?_
        | refine r_bsl rfl rfl rfl rfl rfl rfl ?_
        | refine r_bsl1 rfl (by assumption) rfl ?_
        | refine r_mkmap rfl ?_
        | refine r_mv_nil rfl ?_
        | refine r_mv_own rfl rfl ?_
        | refine r_mv_mp rfl rfl ?_
        | refine r_mv_row rfl rfl (by first | rfl | assumption | omega | (simp; done) | (simp; omega)) ?_
        | refine r_mv_rp rfl rfl (by first | rfl | assumption | omega | (simp; done) | (simp; omega)) ?_
        | refine r_fad_rp rfl rfl (by first | rfl | assumption | omega | (simp; done) | (simp; omega)) ?_
        | refine r_iad_row rfl rfl (by first | rfl | assumption | omega | (simp; done) | (simp; omega)) rfl (by first | rfl | assumption | omega | (simp; done) | (simp; omega)) ?_
        | refine r_skip0 rfl (by first | with_reducible rfl | assumption | decide) ?_
        | refine r_skipU0 rfl ?_
        | refine r_semF rfl rfl rfl rfl ?_
        | refine r_load_rp rfl rfl (by assumption) rfl ?_
        | refine run_seq ?_
        | refine run_reg ?_
        | refine run_regd rfl ?_
        | refine run_block ?_
        | refine run_skip ?_
        | refine run_exit ?_
        | refine run_ret ?_
        | refine fin_seq ?_
        | refine fin_seq_e ?_
        | refine fin_seq_r ?_
        | refine fin_blk ?_
        | refine fin_blk_e ?_
        | refine fin_blk_x rfl ?_
        | refine fin_blk_r ?_
        | refine fin_loop_e ?_
        | refine fin_loop_r ?_
        | refine run_cond_t rfl (by first | with_reducible rfl | assumption | decide) ?_
        | refine run_cond_f rfl (by first | with_reducible rfl | assumption | decide) ?_)
      refine fin_loop (run_weak (weak_S ?_ ?_) (ihi (i + 1) ⟨hli, hP', hM'⟩ (by omega)))
      · exact ⟨rfl, rfl, rfl, by rw [puts_succ l i hli]; rfl, by rw [puts_succ ms i hmi]; rfl, rfl, trivial⟩
      · exact ⟨rfl, trivial⟩
    · have hil : i = l.length := by simp at h; omega
      subst hil
      have hsame := puts_perm hu hp hP hM
      have hlen : decide ((((puts (l.take l.length)).map Pair.enc).length : Int) = ((l.map Pair.enc).length : Nat)) = true := decide_eq_true (by rw [List.length_map, List.length_map, hP.len])
      rw [← hsame]
      repeat (first
        | refine r_call rfl (sm (puts (l.take l.length)) [] []) ?_
        | refine r_call rfl (awake21) ?_
        | refine r_mv_p rfl ?_
        | refine r_do rfl (by first | with_reducible rfl | assumption | decide) ?_
        | refine r_skip rfl (by first | with_reducible rfl | assumption | decide) ?_
        | refine r_skipU rfl ?_
        | refine r_fad rfl rfl ?_
        | refine r_add rfl rfl (by omega) ?_
        | refine r_sub rfl rfl (by omega) ?_
        | refine r_loadAll rfl (by first | rfl | assumption) ?_
        | refine r_loadAllB rfl rfl (by first | rfl | assumption) ?_
        | refine r_pick_t rfl (by first | with_reducible rfl | assumption | decide) rfl rfl ?_
        | refine r_pick_f rfl (by first | with_reducible rfl | assumption | decide) rfl rfl ?_
        | refine r_sem rfl rfl rfl rfl ?_
        | refine r_nil ?_
        | refine r_iad rfl rfl (by omega) (by assumption) (by first | rfl | assumption | omega | (simp; done) | (simp; omega)) ?_
        | refine r_storeAll rfl rfl rfl rfl rfl rfl ?_
        | refine r_store rfl rfl rfl rfl (by decide) ?_
        | refine r_alloc rfl ?_
        | refine r_box rfl rfl rfl ?_
        | refine r_bsl rfl rfl rfl rfl rfl rfl ?_
        | refine r_bsl1 rfl (by assumption) rfl ?_
        | refine r_mkmap rfl ?_
        | refine r_mv_nil rfl ?_
        | refine r_mv_own rfl rfl ?_
        | refine r_mv_mp rfl rfl ?_
        | refine r_mv_row rfl rfl (by first | rfl | assumption | omega | (simp; done) | (simp; omega)) ?_
        | refine r_mv_rp rfl rfl (by first | rfl | assumption | omega | (simp; done) | (simp; omega)) ?_
        | refine r_fad_rp rfl rfl (by first | rfl | assumption | omega | (simp; done) | (simp; omega)) ?_
        | refine r_iad_row rfl rfl (by first | rfl | assumption | omega | (simp; done) | (simp; omega)) rfl (by first | rfl | assumption | omega | (simp; done) | (simp; omega)) ?_
        | refine r_skip0 rfl (by first | with_reducible rfl | assumption | decide) ?_
        | refine r_skipU0 rfl ?_
        | refine r_semF rfl rfl rfl rfl ?_
        | refine r_load_rp rfl rfl (by assumption) rfl ?_
        | refine run_seq ?_
        | refine run_reg ?_
        | refine run_regd rfl ?_
        | refine run_block ?_
        | refine run_skip ?_
        | refine run_exit ?_
        | refine run_ret ?_
        | refine fin_seq ?_
        | refine fin_seq_e ?_
        | refine fin_seq_r ?_
        | refine fin_blk ?_
        | refine fin_blk_e ?_
        | refine fin_blk_x rfl ?_
        | refine fin_blk_r ?_
        | refine fin_loop_e ?_
        | refine fin_loop_r ?_
        | refine run_cond_t rfl (by first | with_reducible rfl | assumption | decide) ?_
        | refine run_cond_f rfl (by first | with_reducible rfl | assumption | decide) ?_)
      exact fin_out rfl rfl
  · have g1 : decide ((a : Int) < ((os.map encI).length : Nat)) = false := decide_eq_false (by rw [List.length_map]; omega)
    repeat (first
      | refine r_len_row rfl rfl (by first | exact Nat.le_refl _ | omega) ?_
      | refine r_mv_p rfl ?_
      | refine r_do rfl (by first | with_reducible rfl | assumption | decide) ?_
      | refine r_skip rfl (by first | with_reducible rfl | assumption | decide) ?_
      | refine r_skipU rfl ?_
      | refine r_fad rfl rfl ?_
      | refine r_add rfl rfl (by omega) ?_
      | refine r_sub rfl rfl (by omega) ?_
      | refine r_loadAll rfl (by first | rfl | assumption) ?_
      | refine r_loadAllB rfl rfl (by first | rfl | assumption) ?_
      | refine r_pick_t rfl (by first | with_reducible rfl | assumption | decide) rfl rfl ?_
      | refine r_pick_f rfl (by first | with_reducible rfl | assumption | decide) rfl rfl ?_
      | refine r_sem rfl rfl rfl rfl ?_
      | refine r_nil ?_
      | refine r_iad rfl rfl (by omega) (by assumption) (by first | rfl | assumption | omega | (simp; done) | (simp; omega)) ?_
      | refine r_storeAll rfl rfl rfl rfl rfl rfl ?_
      | refine r_store rfl rfl rfl rfl (by decide) ?_
      | refine r_alloc rfl ?_
      | refine r_box rfl rfl rfl ?_
      | refine r_bsl rfl rfl rfl rfl rfl rfl ?_
      | refine r_bsl1 rfl (by assumption) rfl ?_
      | refine r_mkmap rfl ?_
      | refine r_mv_nil rfl ?_
      | refine r_mv_own rfl rfl ?_
      | refine r_mv_mp rfl rfl ?_
      | refine r_mv_row rfl rfl (by first | rfl | assumption | omega | (simp; done) | (simp; omega)) ?_
      | refine r_mv_rp rfl rfl (by first | rfl | assumption | omega | (simp; done) | (simp; omega)) ?_
      | refine r_fad_rp rfl rfl (by first | rfl | assumption | omega | (simp; done) | (simp; omega)) ?_
      | refine r_iad_row rfl rfl (by first | rfl | assumption | omega | (simp; done) | (simp; omega)) rfl (by first | rfl | assumption | omega | (simp; done) | (simp; omega)) ?_
      | refine r_skip0 rfl (by first | with_reducible rfl | assumption | decide) ?_
      | refine r_skipU0 rfl ?_
      | refine r_semF rfl rfl rfl rfl ?_
      | refine r_load_rp rfl rfl (by assumption) rfl ?_
      | refine run_seq ?_
      | refine run_reg ?_
      | refine run_regd rfl ?_
      | refine run_block ?_
      | refine run_skip ?_
      | refine run_exit ?_
      | refine run_ret ?_
      | refine fin_seq ?_
      | refine fin_seq_e ?_
      | refine fin_seq_r ?_
      | refine fin_blk ?_
      | refine fin_blk_e ?_
      | refine fin_blk_x rfl ?_
      | refine fin_blk_r ?_
      | refine fin_loop_e ?_
      | refine fin_loop_r ?_
      | refine run_cond_t rfl (by first | with_reducible rfl | assumption | decide) ?_
      | refine run_cond_f rfl (by first | with_reducible rfl | assumption | decide) ?_)
    refine run_weak (weak_nilP 12 rfl) (run_weak (weak_nilP 13 rfl) (run_weak (weak_S ?_ ?_) (run_inv (sD l sp ms) (fun i => i ≤ l.length ∧ Put l i ∧ Put ms i) (fun i => l.length - i) ?_ 0 ⟨Nat.zero_le _, Put.zero _, Put.zero _⟩)))
    · exact ⟨rfl, rfl, rfl, rfl, rfl, rfl, trivial⟩
    · exact ⟨rfl, trivial⟩
    rintro i ⟨hi, hP, hM⟩ ihi
    unfold sD
    repeat (first
      | refine r_mv_p rfl ?_
      | refine r_do rfl (by first | with_reducible rfl | assumption | decide) ?_
      | refine r_skip rfl (by first | with_reducible rfl | assumption | decide) ?_
      | refine r_skipU rfl ?_
      | refine r_fad rfl rfl ?_
      | refine r_add rfl rfl (by omega) ?_
      | refine r_sub rfl rfl (by omega) ?_
      | refine r_loadAll rfl (by first | rfl | assumption) ?_
      | refine r_loadAllB rfl rfl (by first | rfl | assumption) ?_
      | refine r_pick_t rfl (by first | with_reducible rfl | assumption | decide) rfl rfl ?_
      | refine r_pick_f rfl (by first | with_reducible rfl | assumption | decide) rfl rfl ?_
      | refine r_sem rfl rfl rfl rfl ?_
      | refine r_nil ?_
      | refine r_iad rfl rfl (by omega) (by assumption) (by first | rfl | assumption | omega | (simp; done) | (simp; omega)) ?_
      | refine r_storeAll rfl rfl rfl rfl rfl rfl ?_
      | refine r_store rfl rfl rfl rfl (by decide) ?_
      | refine r_alloc rfl ?_
      | refine r_box rfl rfl rfl ?_
      | refine r_bsl rfl rfl rfl rfl rfl rfl ?_
      | refine r_bsl1 rfl (by assumption) rfl ?_
      | refine r_mkmap rfl ?_
      | refine r_mv_nil rfl ?_
      | refine r_mv_own rfl rfl ?_
      | refine r_mv_mp rfl rfl ?_
      | refine r_mv_row rfl rfl (by first | rfl | assumption | omega | (simp; done) | (simp; omega)) ?_
      | refine r_mv_rp rfl rfl (by first | rfl | assumption | omega | (simp; done) | (simp; omega)) ?_
      | refine r_fad_rp rfl rfl (by first | rfl | assumption | omega | (simp; done) | (simp; omega)) ?_
      | refine r_iad_row rfl rfl (by first | rfl | assumption | omega | (simp; done) | (simp; omega)) rfl (by first | rfl | assumption | omega | (simp; done) | (simp; omega)) ?_
      | refine r_skip0 rfl (by first | with_reducible rfl | assumption | decide) ?_
      | refine r_skipU0 rfl ?_
      | refine r_semF rfl rfl rfl rfl ?_
      | refine r_load_rp rfl rfl (by assumption) rfl ?_
      | refine run_seq ?_
      | refine run_reg ?_
      | refine run_regd rfl ?_
      | refine run_block ?_
      | refine run_skip ?_
      | refine run_exit ?_
      | refine run_ret ?_
      | refine fin_seq ?_
      | refine fin_seq_e ?_
      | refine fin_seq_r ?_
      | refine fin_blk ?_
      | refine fin_blk_e ?_
      | refine fin_blk_x rfl ?_
      | refine fin_blk_r ?_
      | refine fin_loop_e ?_
      | refine fin_loop_r ?_
      | refine run_cond_t rfl (by first | with_reducible rfl | assumption | decide) ?_
      | refine run_cond_f rfl (by first | with_reducible rfl | assumption | decide) ?_)
    refine run_cond rfl (fun h => ?_) (fun h => ?_)
    · have hli : i < l.length := by simpa using h
      have hmi : i < ms.length := by omega
      have hx : (l.map Pair.enc)[i]? = some l[i].enc := by simp [hli]
      have hy : (ms.map Pair.enc)[i]? = some ms[i].enc := by simp [hmi]
      have hmi2 : i < (ms.map Pair.enc).length := by simpa using hmi
      have hP' := hP.succ hu hli
      have hM' := hM.succ hum hmi
      have hb1 : ((puts (l.take i)).length + 1) * 24 ≤ 140737488355328 := by rw [hP.len]; exact Nat.le_trans (Nat.mul_le_mul_right 24 (by omega)) hbig
      have hb2 : ((puts (ms.take i)).length + 1) * 24 ≤ 140737488355328 := by rw [hM.len]; exact Nat.le_trans (Nat.mul_le_mul_right 24 (by omega)) hbig
      repeat (first
        | refine r_call rfl (pairs9) ?_
        | refine r_call rfl (putR12 Pair.enc (fun _ => rfl) 22 pairCmp order22 l[i] (puts (l.take i)) [] hb1) ?_
        | refine r_call rfl (putR12 Pair.enc (fun _ => rfl) 22 pairCmp order22 ms[i] (puts (ms.take i)) [] hb2) ?_
        | refine r_mv_p rfl ?_
        | refine r_do rfl (by first | with_reducible rfl | assumption | decide) ?_
        | refine r_skip rfl (by first | with_reducible rfl | assumption | decide) ?_
        | refine r_skipU rfl ?_
        | refine r_fad rfl rfl ?_
        | refine r_add rfl rfl (by omega) ?_
        | refine r_sub rfl rfl (by omega) ?_
        | refine r_loadAll rfl (by first | rfl | assumption) ?_
        | refine r_loadAllB rfl rfl (by first | rfl | assumption) ?_
        | refine r_pick_t rfl (by first | with_reducible rfl | assumption | decide) rfl rfl ?_
        | refine r_pick_f rfl (by first | with_reducible rfl | assumption | decide) rfl rfl ?_
        | refine r_sem rfl rfl rfl rfl ?_
        | refine r_nil ?_
        | refine r_iad rfl rfl (by omega) (by assumption) (by first | rfl | assumption | omega | (simp; done) | (simp; omega)) ?_
        | refine r_storeAll rfl rfl rfl rfl rfl rfl ?_
        | refine r_store rfl rfl rfl rfl (by decide) ?_
        | refine r_alloc rfl ?_
        | refine r_box rfl rfl rfl ?_
        | refine r_bsl rfl rfl rfl rfl rfl rfl ?_
        | refine r_bsl1 rfl (by assumption) rfl ?_
        | refine r_mkmap rfl ?_
        | refine r_mv_nil rfl ?_
        | refine r_mv_own rfl rfl ?_
        | refine r_mv_mp rfl rfl ?_
        | refine r_mv_row rfl rfl (by first | rfl | assumption | omega | (simp; done) | (simp; omega)) ?_
        | refine r_mv_rp rfl rfl (by first | rfl | assumption | omega | (simp; done) | (simp; omega)) ?_
        | refine r_fad_rp rfl rfl (by first | rfl | assumption | omega | (simp; done) | (simp; omega)) ?_
        | refine r_iad_row rfl rfl (by first | rfl | assumption | omega | (simp; done) | (simp; omega)) rfl (by first | rfl | assumption | omega | (simp; done) | (simp; omega)) ?_
        | refine r_skip0 rfl (by first | with_reducible rfl | assumption | decide) ?_
        | refine r_skipU0 rfl ?_
        | refine r_semF rfl rfl rfl rfl ?_
        | refine r_load_rp rfl rfl (by assumption) rfl ?_
        | refine run_seq ?_
        | refine run_reg ?_
        | refine run_regd rfl ?_
        | refine run_block ?_
        | refine run_skip ?_
        | refine run_exit ?_
        | refine run_ret ?_
        | refine fin_seq ?_
        | refine fin_seq_e ?_
        | refine fin_seq_r ?_
        | refine fin_blk ?_
        | refine fin_blk_e ?_
        | refine fin_blk_x rfl ?_
        | refine fin_blk_r ?_
        | refine fin_loop_e ?_
        | refine fin_loop_r ?_
        | refine run_cond_t rfl (by first | with_reducible rfl | assumption | decide) ?_
        | refine run_cond_f rfl (by first | with_reducible rfl | assumption | decide) ?_)
      refine fin_loop (run_weak (weak_S ?_ ?_) (ihi (i + 1) ⟨hli, hP', hM'⟩ (by omega)))
      · exact ⟨rfl, rfl, rfl, by rw [puts_succ l i hli]; rfl, by rw [puts_succ ms i hmi]; rfl, rfl, trivial⟩
      · exact ⟨rfl, trivial⟩
    · have hil : i = l.length := by simp at h; omega
      subst hil
      have hsame := puts_perm hu hp hP hM
      have hlen : decide ((((puts (l.take l.length)).map Pair.enc).length : Int) = ((l.map Pair.enc).length : Nat)) = true := decide_eq_true (by rw [List.length_map, List.length_map, hP.len])
      rw [← hsame]
      repeat (first
        | refine r_call rfl (sm (puts (l.take l.length)) [] []) ?_
        | refine r_call rfl (awake21) ?_
        | refine r_mv_p rfl ?_
        | refine r_do rfl (by first | with_reducible rfl | assumption | decide) ?_
        | refine r_skip rfl (by first | with_reducible rfl | assumption | decide) ?_
        | refine r_skipU rfl ?_
        | refine r_fad rfl rfl ?_
        | refine r_add rfl rfl (by omega) ?_
        | refine r_sub rfl rfl (by omega) ?_
        | refine r_loadAll rfl (by first | rfl | assumption) ?_
        | refine r_loadAllB rfl rfl (by first | rfl | assumption) ?_
        | refine r_pick_t rfl (by first | with_reducible rfl | assumption | decide) rfl rfl ?_
        | refine r_pick_f rfl (by first | with_reducible rfl | assumption | decide) rfl rfl ?_
        | refine r_sem rfl rfl rfl rfl ?_
        | refine r_nil ?_
        | refine r_iad rfl rfl (by omega) (by assumption) (by first | rfl | assumption | omega | (simp; done) | (simp; omega)) ?_
        | refine r_storeAll rfl rfl rfl rfl rfl rfl ?_
        | refine r_store rfl rfl rfl rfl (by decide) ?_
        | refine r_alloc rfl ?_
        | refine r_box rfl rfl rfl ?_
        | refine r_bsl rfl rfl rfl rfl rfl rfl ?_
        | refine r_bsl1 rfl (by assumption) rfl ?_
        | refine r_mkmap rfl ?_
        | refine r_mv_nil rfl ?_
        | refine r_mv_own rfl rfl ?_
        | refine r_mv_mp rfl rfl ?_
        | refine r_mv_row rfl rfl (by first | rfl | assumption | omega | (simp; done) | (simp; omega)) ?_
        | refine r_mv_rp rfl rfl (by first | rfl | assumption | omega | (simp; done) | (simp; omega)) ?_
        | refine r_fad_rp rfl rfl (by first | rfl | assumption | omega | (simp; done) | (simp; omega)) ?_
        | refine r_iad_row rfl rfl (by first | rfl | assumption | omega | (simp; done) | (simp; omega)) rfl (by first | rfl | assumption | omega | (simp; done) | (simp; omega)) ?_
        | refine r_skip0 rfl (by first | with_reducible rfl | assumption | decide) ?_
        | refine r_skipU0 rfl ?_
        | refine r_semF rfl rfl rfl rfl ?_
        | refine r_load_rp rfl rfl (by assumption) rfl ?_
        | refine run_seq ?_
        | refine run_reg ?_
        | refine run_regd rfl ?_
        | refine run_block ?_
        | refine run_skip ?_
        | refine run_exit ?_
        | refine run_ret ?_
        | refine fin_seq ?_
        | refine fin_seq_e ?_
        | refine fin_seq_r ?_
        | refine fin_blk ?_
        | refine fin_blk_e ?_
        | refine fin_blk_x rfl ?_
        | refine fin_blk_r ?_
        | refine fin_loop_e ?_
        | refine fin_loop_r ?_
        | refine run_cond_t rfl (by first | with_reducible rfl | assumption | decide) ?_
        | refine run_cond_f rfl (by first | with_reducible rfl | assumption | decide) ?_)
      exact fin_out rfl rfl
end Go.Fw
