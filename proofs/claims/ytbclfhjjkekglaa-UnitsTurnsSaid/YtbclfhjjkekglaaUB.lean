/-
  Units: what is known of an item's units, and how many base units so many of a unit are.
-/
import Derived.Test.YtbclfhjjkekglaaUA
set_option linter.unusedVariables false
set_option linter.unusedSimpArgs false
set_option maxRecDepth 10000
namespace Go.Fw
open Go.Proofs

/-! ### Rules -/
theorem r_idx {P : Program} {Q : Ex → St → Prop} {ks : List Kf} {rs : List RG} {l : List (Nat × T)} {m : List (Nat × Option Own)} {d es n : Nat} {ag : Bool} {x y : Opd} {cells : List PV} {j : Int} {k : IntKind} {p : PV} (hx : (S l m).ev x = .p (.agg cells)) (hy : (S l m).ev y = .p (.v (.int k j))) (hj : 0 ≤ j ∧ j < n) (hp : ldv cells (j.toNat * es) es ag = some p)
    (h : RunR P Q ks rs (S ((d, .p p) :: l) m)) : RunR P Q ks (⟨some d, .idx es n ag, [x, y], none⟩ :: rs) (S l m) :=
  r_sem («as» := [.p (.agg cells), .p (.v (.int k j))]) rfl (by simp only [St.resL, St.res, hx, hy, lookT]; rfl) (by simp only [sem, if_pos hj, hp, Option.map_some]) rfl h
theorem r_aad {P : Program} {Q : Ex → St → Prop} {ks : List Kf} {rs : List RG} {l : List (Nat × T)} {m : List (Nat × Option Own)} {d es n q o : Nat} {x y : Opd} {cells : List PV} {fz : Bool} {j : Int} {k : IntKind} (hx : (S l m).ev x = .own q o) (ho : ol m q = some (.box cells fz)) (hy : (S l m).ev y = .p (.v (.int k j))) (hj : 0 ≤ j ∧ j < n)
    (h : RunR P Q ks rs (S ((d, .own q (o + j.toNat * es)) :: l) m)) : RunR P Q ks (⟨some d, .aad es n, [x, y], none⟩ :: rs) (S l m) := by
  refine r_cons ?_ h
  have hr : (S l m).resL [x, y] = some [.own q o cells, .p (.v (.int k j))] := by
    simp only [St.resL, St.res, hx, hy, lookT]
    rw [ho]; rfl
  have := Step1.plain (P := P) ⟨some d, .aad es n, [x, y], none⟩ (S l m) _ { v := .own q (o + j.toNat * es) } rfl rfl hr (by simp only [SemA, sem, if_pos hj]) (fun h => by cases h)
  simpa only [St.eff, putT, newO, frzO_nil, upd_tl] using this
theorem r_loadO {P : Program} {Q : Ex → St → Prop} {ks : List Kf} {rs : List RG} {l : List (Nat × T)} {m : List (Nat × Option Own)} {d sz q o : Nat} {ag : Bool} {x : Opd} {cells : List PV} {fz : Bool} {p : PV} (hx : (S l m).ev x = .own q o) (ho : ol m q = some (.box cells fz)) (hp : ldv cells o sz ag = some p)
    (h : RunR P Q ks rs (S ((d, .p p) :: l) m)) : RunR P Q ks (⟨some d, .load sz ag, [x], none⟩ :: rs) (S l m) :=
  r_sem («as» := [.own q o cells]) rfl (by simp only [St.resL, St.res, hx, lookT]; rw [ho]; rfl) (by simp only [sem, hp, Option.map_some]) rfl h
theorem r_quo2 {P : Program} {Q : Ex → St → Prop} {ks : List Kf} {rs : List RG} {l : List (Nat × T)} {m : List (Nat × Option Own)} {d : Nat} {x y : Opd} {a b c : Int} (hx : (S l m).ev x = .p (.v (.int .i64 a))) (hy : (S l m).ev y = .p (.v (.int .i64 b))) (hb : b ≠ 0) (hc : IntKind.i64.wrap (a.tdiv b) = c)
    (h : RunR P Q ks rs (S ((d, .p (.v (.int .i64 c))) :: l) m)) : RunR P Q ks (⟨some d, .bin .quo, [x, y], none⟩ :: rs) (S l m) := r_arith hx hy (by simp only [binV, if_true, if_neg hb, hc]) h
theorem r_mul2 {P : Program} {Q : Ex → St → Prop} {ks : List Kf} {rs : List RG} {l : List (Nat × T)} {m : List (Nat × Option Own)} {d : Nat} {x y : Opd} {a b c : Int} (hx : (S l m).ev x = .p (.v (.int .i64 a))) (hy : (S l m).ev y = .p (.v (.int .i64 b))) (hc : IntKind.i64.wrap (a * b) = c)
    (h : RunR P Q ks rs (S ((d, .p (.v (.int .i64 c))) :: l) m)) : RunR P Q ks (⟨some d, .bin .mul, [x, y], none⟩ :: rs) (S l m) := r_arith hx hy (by simp only [binV, if_true, hc]) h
theorem wrap_quo {a b : Int} (ha : 0 ≤ a ∧ a ≤ 9223372036854775807) (hb : 1 ≤ b) : IntKind.i64.wrap (a.tdiv b) = a / b := by
  rw [Int.tdiv_eq_ediv_of_nonneg ha.1]
  have h1 : 0 ≤ a / b := Int.ediv_nonneg ha.1 (by omega)
  have h2 : a / b ≤ a := Int.ediv_le_self b ha.1
  exact wrap_id ⟨by omega, by omega⟩

theorem find_first {α : Type} {q : α → Bool} {xs : List α} (h : 0 ≤ firstI q xs 0) : ∃ x, xs[(firstI q xs 0).toNat]? = some x ∧ xs.find? q = some x ∧ (firstI q xs 0).toNat < xs.length := by
  obtain ⟨k, x, h1, h2, h3, h4⟩ := firstI_pos h
  refine ⟨x, by rw [h1]; simpa using h2, ?_, ?_⟩
  · rw [List.find?_eq_some_iff_getElem]
    have hk : k < xs.length := (List.getElem?_eq_some_iff.1 h2).1
    refine ⟨h3, k, hk, (List.getElem?_eq_some_iff.1 h2).2, fun j hj => ?_⟩
    have := h4 j xs[j] hj (by simp)
    simpa using this
  · rw [h1]; have := (List.getElem?_eq_some_iff.1 h2).1; simpa using this
theorem find_none {α : Type} {q : α → Bool} {xs : List α} (h : firstI q xs 0 < 0) : xs.find? q = none := by
  rw [List.find?_eq_none]
  intro x hx
  simp [firstI_neg.1 h x hx]

/-! ### Items and their units -/
structure It where
  code : Str
  u0 : U
  u1 : U
  u2 : U
  u3 : U
  v : Int
  w : Int
  l : Bool
  s : Bool
  c : Bool
def It.us (x : It) : List U := [x.u0, x.u1, x.u2, x.u3]
def It.ucells (x : It) : List PV := [.v (.string x.u0.name), .v (.int .i64 x.u0.f), .v (.string x.u1.name), .v (.int .i64 x.u1.f), .v (.string x.u2.name), .v (.int .i64 x.u2.f), .v (.string x.u3.name), .v (.int .i64 x.u3.f)]
def It.enc (x : It) : List PV := [.v (.string x.code), .v (.string x.u0.name), .v (.int .i64 x.u0.f), .v (.string x.u1.name), .v (.int .i64 x.u1.f), .v (.string x.u2.name), .v (.int .i64 x.u2.f), .v (.string x.u3.name), .v (.int .i64 x.u3.f), .v (.int .i64 x.v), .v (.int .i64 x.w), .v (.bool x.l), .v (.bool x.s), .v (.bool x.c)]
def eachB : Str := ⟨#[101, 97, 99, 104]⟩
def eachU : U := ⟨eachB, 1⟩
def nmQ (s : Str) (a : U) : Bool := decide (a.name = s)

theorem indexFunc15 {α : Type} (enc : α → List PV) (hen : ∀ x, (enc x).length = 2) (f : FuncId) (caps : List PV) (q : α → Bool) (xs : List α) (sp : List (List PV)) (hq : ∀ x ∈ xs, Ret Try.prog f (.agg (enc x) :: caps) (.v (.bool (q x)))) :
    Ret Try.prog 15 [.sl (xs.map enc) sp, .clo f caps] (.v (.int .i64 (firstI q xs 0))) := by
  refine ret15 rfl fun hbd => ?_
  have hb : xs.length ≤ 9223372036854775807 := by
    have := hbd _ (List.mem_cons_self)
    simp only [PV.bd, PV.bd1, List.length_append, List.length_map, maxLen] at this
    omega
  unfold c15
  repeat (first
    | refine r_mv_p rfl ?_
    | refine r_do rfl (by first | with_reducible rfl | assumption | decide) ?_
    | refine r_skip rfl (by first | with_reducible rfl | assumption | decide) ?_
    | refine r_skipU rfl ?_
    | refine r_fad rfl rfl ?_
    | refine r_add rfl rfl (by omega) ?_
    | refine r_sub rfl rfl (by omega) ?_
    | refine r_loadAll rfl (by first | rfl | assumption) ?_
    | refine r_loadAllB rfl rfl (by first | rfl | assumption) ?_
    | refine r_pick_t rfl (by first | with_reducible rfl | assumption | decide) rfl rfl ?_
    | refine r_pick_f rfl (by first | with_reducible rfl | assumption | decide) rfl rfl ?_
    | refine r_sem rfl rfl rfl rfl ?_
    | refine r_nil ?_
    | refine r_iad rfl rfl (by omega) (by assumption) (by first | rfl | assumption | omega | (simp; done) | (simp; omega)) ?_
    | refine r_storeAll rfl rfl rfl rfl rfl rfl ?_
    | refine r_store rfl rfl rfl rfl (by decide) ?_
    | refine r_alloc rfl ?_
    | refine r_box rfl rfl rfl ?_
    | refine r_bsl rfl rfl rfl rfl rfl rfl ?_
    | refine r_bsl1 rfl (by assumption) rfl ?_
    | refine r_mkmap rfl ?_
    | refine r_mv_nil rfl ?_
    | refine r_mv_own rfl rfl ?_
    | refine r_mv_mp rfl rfl ?_
    | refine r_mv_row rfl rfl (by first | rfl | assumption | omega | (simp; done) | (simp; omega)) ?_
    | refine r_mv_rp rfl rfl (by first | rfl | assumption | omega | (simp; done) | (simp; omega)) ?_
    | refine r_fad_rp rfl rfl (by first | rfl | assumption | omega | (simp; done) | (simp; omega)) ?_
    | refine r_iad_row rfl rfl (by first | rfl | assumption | omega | (simp; done) | (simp; omega)) rfl (by first | rfl | assumption | omega | (simp; done) | (simp; omega)) ?_
    | refine r_skip0 rfl (by first | with_reducible rfl | assumption | decide) ?_
    | refine r_skipU0 rfl ?_
    | refine r_semF rfl rfl rfl rfl ?_
    | refine r_load_rp rfl rfl (by assumption) rfl ?_
    | refine r_len_row rfl rfl (by first | rfl | assumption | omega | (simp; done) | (simp; omega)) ?_
    | refine run_seq ?_
    | refine run_reg ?_
    | refine run_regd rfl ?_
    | refine run_block ?_
    | refine run_skip ?_
    | refine run_exit ?_
    | refine run_ret ?_
    | refine fin_seq ?_
    | refine fin_seq_e ?_
    | refine fin_seq_r ?_
    | refine fin_blk ?_
    | refine fin_blk_e ?_
    | refine fin_blk_x rfl ?_
    | refine fin_blk_r ?_
    | refine fin_loop_e ?_
    | refine fin_loop_r ?_
    | refine run_cond_t rfl (by first | with_reducible rfl | assumption | decide) ?_
    | refine run_cond_f rfl (by first | with_reducible rfl | assumption | decide) ?_)
  refine run_weak (weak_S ?_ ?_) (run_inv (fun i : Nat => S [(0, .p (.sl (xs.map enc) sp)), (1, .p (.clo f caps)), (4, .p (.v (.int .i64 0))), (7, .p (.v (.int .i64 ((xs.map enc).length : Nat)))), (8, .p (.v (.int .i64 (i : Nat))))] [])
    (fun i => i ≤ xs.length ∧ firstI q xs 0 = firstI q (xs.drop i) i) (fun i => xs.length - i) ?_ 0 ⟨Nat.zero_le _, rfl⟩)
  · exact ⟨rfl, rfl, rfl, rfl, rfl, trivial⟩
  · trivial
  intro i hi ih
  obtain ⟨hi, hfst⟩ := hi
  repeat (first
    | refine r_mv_p rfl ?_
    | refine r_do rfl (by first | with_reducible rfl | assumption | decide) ?_
    | refine r_skip rfl (by first | with_reducible rfl | assumption | decide) ?_
    | refine r_skipU rfl ?_
    | refine r_fad rfl rfl ?_
    | refine r_add rfl rfl (by omega) ?_
    | refine r_sub rfl rfl (by omega) ?_
    | refine r_loadAll rfl (by first | rfl | assumption) ?_
    | refine r_loadAllB rfl rfl (by first | rfl | assumption) ?_
    | refine r_pick_t rfl (by first | with_reducible rfl | assumption | decide) rfl rfl ?_
    | refine r_pick_f rfl (by first | with_reducible rfl | assumption | decide) rfl rfl ?_
    | refine r_sem rfl rfl rfl rfl ?_
    | refine r_nil ?_
    | refine r_iad rfl rfl (by omega) (by assumption) (by first | rfl | assumption | omega | (simp; done) | (simp; omega)) ?_
    | refine r_storeAll rfl rfl rfl rfl rfl rfl ?_
    | refine r_store rfl rfl rfl rfl (by decide) ?_
    | refine r_alloc rfl ?_
    | refine r_box rfl rfl rfl ?_
    | refine r_bsl rfl rfl rfl rfl rfl rfl ?_
    | refine r_bsl1 rfl (by assumption) rfl ?_
    | refine r_mkmap rfl ?_
    | refine r_mv_nil rfl ?_
    | refine r_mv_own rfl rfl ?_
    | refine r_mv_mp rfl rfl ?_
    | refine r_mv_row rfl rfl (by first | rfl | assumption | omega | (simp; done) | (simp; omega)) ?_
    | refine r_mv_rp rfl rfl (by first | rfl | assumption | omega | (simp; done) | (simp; omega)) ?_
    | refine r_fad_rp rfl rfl (by first | rfl | assumption | omega | (simp; done) | (simp; omega)) ?_
    | refine r_iad_row rfl rfl (by first | rfl | assumption | omega | (simp; done) | (simp; omega)) rfl (by first | rfl | assumption | omega | (simp; done) | (simp; omega)) ?_
    | refine r_skip0 rfl (by first | with_reducible rfl | assumption | decide) ?_
    | refine r_skipU0 rfl ?_
    | refine r_semF rfl rfl rfl rfl ?_
    | refine r_load_rp rfl rfl (by assumption) rfl ?_
    | refine r_len_row rfl rfl (by first | rfl | assumption | omega | (simp; done) | (simp; omega)) ?_
    | refine run_seq ?_
    | refine run_reg ?_
    | refine run_regd rfl ?_
    | refine run_block ?_
    | refine run_skip ?_
    | refine run_exit ?_
    | refine run_ret ?_
    | refine fin_seq ?_
    | refine fin_seq_e ?_
    | refine fin_seq_r ?_
    | refine fin_blk ?_
    | refine fin_blk_e ?_
    | refine fin_blk_x rfl ?_
    | refine fin_blk_r ?_
    | refine fin_loop_e ?_
    | refine fin_loop_r ?_
    | refine run_cond_t rfl (by first | with_reducible rfl | assumption | decide) ?_
    | refine run_cond_f rfl (by first | with_reducible rfl | assumption | decide) ?_)
  refine run_cond rfl (fun h => ?_) (fun h => ?_)
  · have hlt : i < xs.length := by simpa using h
    have hx : (xs.map enc)[i]? = some (enc xs[i]) := by simp [hlt]
    have hdrop : xs.drop i = xs[i] :: xs.drop (i + 1) := List.drop_eq_getElem_cons hlt
    have hen' := hen xs[i]
    repeat (first
      | refine r_callv rfl (hq xs[i] (by simp)) ?_
      | refine r_mv_p rfl ?_
      | refine r_do rfl (by first | with_reducible rfl | assumption | decide) ?_
      | refine r_skip rfl (by first | with_reducible rfl | assumption | decide) ?_
      | refine r_skipU rfl ?_
      | refine r_fad rfl rfl ?_
      | refine r_add rfl rfl (by omega) ?_
      | refine r_sub rfl rfl (by omega) ?_
      | refine r_loadAll rfl (by first | rfl | assumption) ?_
      | refine r_loadAllB rfl rfl (by first | rfl | assumption) ?_
      | refine r_pick_t rfl (by first | with_reducible rfl | assumption | decide) rfl rfl ?_
      | refine r_pick_f rfl (by first | with_reducible rfl | assumption | decide) rfl rfl ?_
      | refine r_sem rfl rfl rfl rfl ?_
      | refine r_nil ?_
      | refine r_iad rfl rfl (by omega) (by assumption) (by first | rfl | assumption | omega | (simp; done) | (simp; omega)) ?_
      | refine r_storeAll rfl rfl rfl rfl rfl rfl ?_
      | refine r_store rfl rfl rfl rfl (by decide) ?_
      | refine r_alloc rfl ?_
      | refine r_box rfl rfl rfl ?_
      | refine r_bsl rfl rfl rfl rfl rfl rfl ?_
      | refine r_bsl1 rfl (by assumption) rfl ?_
      | refine r_mkmap rfl ?_
      | refine r_mv_nil rfl ?_
      | refine r_mv_own rfl rfl ?_
      | refine r_mv_mp rfl rfl ?_
      | refine r_mv_row rfl rfl (by first | rfl | assumption | omega | (simp; done) | (simp; omega)) ?_
      | refine r_mv_rp rfl rfl (by first | rfl | assumption | omega | (simp; done) | (simp; omega)) ?_
      | refine r_fad_rp rfl rfl (by first | rfl | assumption | omega | (simp; done) | (simp; omega)) ?_
      | refine r_iad_row rfl rfl (by first | rfl | assumption | omega | (simp; done) | (simp; omega)) rfl (by first | rfl | assumption | omega | (simp; done) | (simp; omega)) ?_
      | refine r_skip0 rfl (by first | with_reducible rfl | assumption | decide) ?_
      | refine r_skipU0 rfl ?_
      | refine r_semF rfl rfl rfl rfl ?_
      | refine r_load_rp rfl rfl (by assumption) rfl ?_
      | refine r_len_row rfl rfl (by first | rfl | assumption | omega | (simp; done) | (simp; omega)) ?_
      | refine run_seq ?_
      | refine run_reg ?_
      | refine run_regd rfl ?_
      | refine run_block ?_
      | refine run_skip ?_
      | refine run_exit ?_
      | refine run_ret ?_
      | refine fin_seq ?_
      | refine fin_seq_e ?_
      | refine fin_seq_r ?_
      | refine fin_blk ?_
      | refine fin_blk_e ?_
      | refine fin_blk_x rfl ?_
      | refine fin_blk_r ?_
      | refine fin_loop_e ?_
      | refine fin_loop_r ?_
      | refine run_cond_t rfl (by first | with_reducible rfl | assumption | decide) ?_
      | refine run_cond_f rfl (by first | with_reducible rfl | assumption | decide) ?_)
    refine run_cond rfl (fun h2 => ?_) (fun h2 => ?_)
    · repeat (first
        | refine r_mv_p rfl ?_
        | refine r_do rfl (by first | with_reducible rfl | assumption | decide) ?_
        | refine r_skip rfl (by first | with_reducible rfl | assumption | decide) ?_
        | refine r_skipU rfl ?_
        | refine r_fad rfl rfl ?_
        | refine r_add rfl rfl (by omega) ?_
        | refine r_sub rfl rfl (by omega) ?_
        | refine r_loadAll rfl (by first | rfl | assumption) ?_
        | refine r_loadAllB rfl rfl (by first | rfl | assumption) ?_
        | refine r_pick_t rfl (by first | with_reducible rfl | assumption | decide) rfl rfl ?_
        | refine r_pick_f rfl (by first | with_reducible rfl | assumption | decide) rfl rfl ?_
        | refine r_sem rfl rfl rfl rfl ?_
        | refine r_nil ?_
        | refine r_iad rfl rfl (by omega) (by assumption) (by first | rfl | assumption | omega | (simp; done) | (simp; omega)) ?_
        | refine r_storeAll rfl rfl rfl rfl rfl rfl ?_
        | refine r_store rfl rfl rfl rfl (by decide) ?_
        | refine r_alloc rfl ?_
        | refine r_box rfl rfl rfl ?_
        | refine r_bsl rfl rfl rfl rfl rfl rfl ?_
        | refine r_bsl1 rfl (by assumption) rfl ?_
        | refine r_mkmap rfl ?_
        | refine r_mv_nil rfl ?_
        | refine r_mv_own rfl rfl ?_
        | refine r_mv_mp rfl rfl ?_
        | refine r_mv_row rfl rfl (by first | rfl | assumption | omega | (simp; done) | (simp; omega)) ?_
        | refine r_mv_rp rfl rfl (by first | rfl | assumption | omega | (simp; done) | (simp; omega)) ?_
        | refine r_fad_rp rfl rfl (by first | rfl | assumption | omega | (simp; done) | (simp; omega)) ?_
        | refine r_iad_row rfl rfl (by first | rfl | assumption | omega | (simp; done) | (simp; omega)) rfl (by first | rfl | assumption | omega | (simp; done) | (simp; omega)) ?_
        | refine r_skip0 rfl (by first | with_reducible rfl | assumption | decide) ?_
        | refine r_skipU0 rfl ?_
        | refine r_semF rfl rfl rfl rfl ?_
        | refine r_load_rp rfl rfl (by assumption) rfl ?_
        | refine r_len_row rfl rfl (by first | rfl | assumption | omega | (simp; done) | (simp; omega)) ?_
        | refine run_seq ?_
        | refine run_reg ?_
        | refine run_regd rfl ?_
        | refine run_block ?_
        | refine run_skip ?_
        | refine run_exit ?_
        | refine run_ret ?_
        | refine fin_seq ?_
        | refine fin_seq_e ?_
        | refine fin_seq_r ?_
        | refine fin_blk ?_
        | refine fin_blk_e ?_
        | refine fin_blk_x rfl ?_
        | refine fin_blk_r ?_
        | refine fin_loop_e ?_
        | refine fin_loop_r ?_
        | refine run_cond_t rfl (by first | with_reducible rfl | assumption | decide) ?_
        | refine run_cond_f rfl (by first | with_reducible rfl | assumption | decide) ?_)
      exact fin_out rfl (by rw [hfst, hdrop]; simp [firstI, h2])
    · repeat (first
        | refine r_mv_p rfl ?_
        | refine r_do rfl (by first | with_reducible rfl | assumption | decide) ?_
        | refine r_skip rfl (by first | with_reducible rfl | assumption | decide) ?_
        | refine r_skipU rfl ?_
        | refine r_fad rfl rfl ?_
        | refine r_add rfl rfl (by omega) ?_
        | refine r_sub rfl rfl (by omega) ?_
        | refine r_loadAll rfl (by first | rfl | assumption) ?_
        | refine r_loadAllB rfl rfl (by first | rfl | assumption) ?_
        | refine r_pick_t rfl (by first | with_reducible rfl | assumption | decide) rfl rfl ?_
        | refine r_pick_f rfl (by first | with_reducible rfl | assumption | decide) rfl rfl ?_
        | refine r_sem rfl rfl rfl rfl ?_
        | refine r_nil ?_
        | refine r_iad rfl rfl (by omega) (by assumption) (by first | rfl | assumption | omega | (simp; done) | (simp; omega)) ?_
        | refine r_storeAll rfl rfl rfl rfl rfl rfl ?_
        | refine r_store rfl rfl rfl rfl (by decide) ?_
        | refine r_alloc rfl ?_
        | refine r_box rfl rfl rfl ?_
        | refine r_bsl rfl rfl rfl rfl rfl rfl ?_
        | refine r_bsl1 rfl (by assumption) rfl ?_
        | refine r_mkmap rfl ?_
        | refine r_mv_nil rfl ?_
        | refine r_mv_own rfl rfl ?_
        | refine r_mv_mp rfl rfl ?_
        | refine r_mv_row rfl rfl (by first | rfl | assumption | omega | (simp; done) | (simp; omega)) ?_
        | refine r_mv_rp rfl rfl (by first | rfl | assumption | omega | (simp; done) | (simp; omega)) ?_
        | refine r_fad_rp rfl rfl (by first | rfl | assumption | omega | (simp; done) | (simp; omega)) ?_
        | refine r_iad_row rfl rfl (by first | rfl | assumption | omega | (simp; done) | (simp; omega)) rfl (by first | rfl | assumption | omega | (simp; done) | (simp; omega)) ?_
        | refine r_skip0 rfl (by first | with_reducible rfl | assumption | decide) ?_
        | refine r_skipU0 rfl ?_
        | refine r_semF rfl rfl rfl rfl ?_
        | refine r_load_rp rfl rfl (by assumption) rfl ?_
        | refine r_len_row rfl rfl (by first | rfl | assumption | omega | (simp; done) | (simp; omega)) ?_
        | refine run_seq ?_
        | refine run_reg ?_
        | refine run_regd rfl ?_
        | refine run_block ?_
        | refine run_skip ?_
        | refine run_exit ?_
        | refine run_ret ?_
        | refine fin_seq ?_
        | refine fin_seq_e ?_
        | refine fin_seq_r ?_
        | refine fin_blk ?_
        | refine fin_blk_e ?_
        | refine fin_blk_x rfl ?_
        | refine fin_blk_r ?_
        | refine fin_loop_e ?_
        | refine fin_loop_r ?_
        | refine run_cond_t rfl (by first | with_reducible rfl | assumption | decide) ?_
        | refine run_cond_f rfl (by first | with_reducible rfl | assumption | decide) ?_)
      refine fin_loop (run_weak (weak_S ?_ ?_) (ih (i + 1) ⟨hlt, ?_⟩ (by omega)))
      · exact ⟨rfl, rfl, rfl, rfl, rfl, trivial⟩
      · trivial
      · rw [hfst, hdrop]; simp [firstI, h2]
  · have hlt : i = xs.length := by simp at h; omega
    repeat (first
      | refine r_mv_p rfl ?_
      | refine r_do rfl (by first | with_reducible rfl | assumption | decide) ?_
      | refine r_skip rfl (by first | with_reducible rfl | assumption | decide) ?_
      | refine r_skipU rfl ?_
      | refine r_fad rfl rfl ?_
      | refine r_add rfl rfl (by omega) ?_
      | refine r_sub rfl rfl (by omega) ?_
      | refine r_loadAll rfl (by first | rfl | assumption) ?_
      | refine r_loadAllB rfl rfl (by first | rfl | assumption) ?_
      | refine r_pick_t rfl (by first | with_reducible rfl | assumption | decide) rfl rfl ?_
      | refine r_pick_f rfl (by first | with_reducible rfl | assumption | decide) rfl rfl ?_
      | refine r_sem rfl rfl rfl rfl ?_
      | refine r_nil ?_
      | refine r_iad rfl rfl (by omega) (by assumption) (by first | rfl | assumption | omega | (simp; done) | (simp; omega)) ?_
      | refine r_storeAll rfl rfl rfl rfl rfl rfl ?_
      | refine r_store rfl rfl rfl rfl (by decide) ?_
      | refine r_alloc rfl ?_
      | refine r_box rfl rfl rfl ?_
      | refine r_bsl rfl rfl rfl rfl rfl rfl ?_
      | refine r_bsl1 rfl (by assumption) rfl ?_
      | refine r_mkmap rfl ?_
      | refine r_mv_nil rfl ?_
      | refine r_mv_own rfl rfl ?_
      | refine r_mv_mp rfl rfl ?_
      | refine r_mv_row rfl rfl (by first | rfl | assumption | omega | (simp; done) | (simp; omega)) ?_
      | refine r_mv_rp rfl rfl (by first | rfl | assumption | omega | (simp; done) | (simp; omega)) ?_
      | refine r_fad_rp rfl rfl (by first | rfl | assumption | omega | (simp; done) | (simp; omega)) ?_
      | refine r_iad_row rfl rfl (by first | rfl | assumption | omega | (simp; done) | (simp; omega)) rfl (by first | rfl | assumption | omega | (simp; done) | (simp; omega)) ?_
      | refine r_skip0 rfl (by first | with_reducible rfl | assumption | decide) ?_
      | refine r_skipU0 rfl ?_
      | refine r_semF rfl rfl rfl rfl ?_
      | refine r_load_rp rfl rfl (by assumption) rfl ?_
      | refine r_len_row rfl rfl (by first | rfl | assumption | omega | (simp; done) | (simp; omega)) ?_
      | refine run_seq ?_
      | refine run_reg ?_
      | refine run_regd rfl ?_
      | refine run_block ?_
      | refine run_skip ?_
      | refine run_exit ?_
      | refine run_ret ?_
      | refine fin_seq ?_
      | refine fin_seq_e ?_
      | refine fin_seq_r ?_
      | refine fin_blk ?_
      | refine fin_blk_e ?_
      | refine fin_blk_x rfl ?_
      | refine fin_blk_r ?_
      | refine fin_loop_e ?_
      | refine fin_loop_r ?_
      | refine run_cond_t rfl (by first | with_reducible rfl | assumption | decide) ?_
      | refine run_cond_f rfl (by first | with_reducible rfl | assumption | decide) ?_)
    exact fin_out rfl (by rw [hfst, hlt]; simp [firstI])
theorem is16 (u : U) (s : Str) : Ret Try.prog 16 [.agg u.enc, .ref [.v (.string s)] 0] (.v (.bool (nmQ s u))) := by
  refine ret16 rfl fun hbd => ?_
  unfold c16
  repeat (first
    | refine r_mv_p rfl ?_
    | refine r_do rfl (by first | with_reducible rfl | assumption | decide) ?_
    | refine r_skip rfl (by first | with_reducible rfl | assumption | decide) ?_
    | refine r_skipU rfl ?_
    | refine r_fad rfl rfl ?_
    | refine r_add rfl rfl (by omega) ?_
    | refine r_sub rfl rfl (by omega) ?_
    | refine r_loadAll rfl (by first | rfl | assumption) ?_
    | refine r_loadAllB rfl rfl (by first | rfl | assumption) ?_
    | refine r_pick_t rfl (by first | with_reducible rfl | assumption | decide) rfl rfl ?_
    | refine r_pick_f rfl (by first | with_reducible rfl | assumption | decide) rfl rfl ?_
    | refine r_sem rfl rfl rfl rfl ?_
    | refine r_nil ?_
    | refine r_iad rfl rfl (by omega) (by assumption) (by first | rfl | assumption | omega | (simp; done) | (simp; omega)) ?_
    | refine r_storeAll rfl rfl rfl rfl rfl rfl ?_
    | refine r_store rfl rfl rfl rfl (by decide) ?_
    | refine r_alloc rfl ?_
    | refine r_box rfl rfl rfl ?_
    | refine r_bsl rfl rfl rfl rfl rfl rfl ?_
    | refine r_bsl1 rfl (by assumption) rfl ?_
    | refine r_mkmap rfl ?_
    | refine r_mv_nil rfl ?_
    | refine r_mv_own rfl rfl ?_
    | refine r_mv_mp rfl rfl ?_
    | refine r_mv_row rfl rfl (by first | rfl | assumption | omega | (simp; done) | (simp; omega)) ?_
    | refine r_mv_rp rfl rfl (by first | rfl | assumption | omega | (simp; done) | (simp; omega)) ?_
    | refine r_fad_rp rfl rfl (by first | rfl | assumption | omega | (simp; done) | (simp; omega)) ?_
    | refine r_iad_row rfl rfl (by first | rfl | assumption | omega | (simp; done) | (simp; omega)) rfl (by first | rfl | assumption | omega | (simp; done) | (simp; omega)) ?_
    | refine r_skip0 rfl (by first | with_reducible rfl | assumption | decide) ?_
    | refine r_skipU0 rfl ?_
    | refine r_semF rfl rfl rfl rfl ?_
    | refine r_load_rp rfl rfl (by assumption) rfl ?_
    | refine r_len_row rfl rfl (by first | rfl | assumption | omega | (simp; done) | (simp; omega)) ?_
    | refine run_seq ?_
    | refine run_reg ?_
    | refine run_regd rfl ?_
    | refine run_block ?_
    | refine run_skip ?_
    | refine run_exit ?_
    | refine run_ret ?_
    | refine fin_seq ?_
    | refine fin_seq_e ?_
    | refine fin_seq_r ?_
    | refine fin_blk ?_
    | refine fin_blk_e ?_
    | refine fin_blk_x rfl ?_
    | refine fin_blk_r ?_
    | refine fin_loop_e ?_
    | refine fin_loop_r ?_
    | refine run_cond_t rfl (by first | with_reducible rfl | assumption | decide) ?_
    | refine run_cond_f rfl (by first | with_reducible rfl | assumption | decide) ?_)
  exact fin_out rfl rfl
theorem is22 (a u : U) : Ret Try.prog 22 [.agg a.enc, .ref u.enc 0] (.v (.bool (nmQ u.name a))) := by
  refine ret22 rfl fun hbd => ?_
  unfold c22
  repeat (first
    | refine r_mv_p rfl ?_
    | refine r_do rfl (by first | with_reducible rfl | assumption | decide) ?_
    | refine r_skip rfl (by first | with_reducible rfl | assumption | decide) ?_
    | refine r_skipU rfl ?_
    | refine r_fad rfl rfl ?_
    | refine r_add rfl rfl (by omega) ?_
    | refine r_sub rfl rfl (by omega) ?_
    | refine r_loadAll rfl (by first | rfl | assumption) ?_
    | refine r_loadAllB rfl rfl (by first | rfl | assumption) ?_
    | refine r_pick_t rfl (by first | with_reducible rfl | assumption | decide) rfl rfl ?_
    | refine r_pick_f rfl (by first | with_reducible rfl | assumption | decide) rfl rfl ?_
    | refine r_sem rfl rfl rfl rfl ?_
    | refine r_nil ?_
    | refine r_iad rfl rfl (by omega) (by assumption) (by first | rfl | assumption | omega | (simp; done) | (simp; omega)) ?_
    | refine r_storeAll rfl rfl rfl rfl rfl rfl ?_
    | refine r_store rfl rfl rfl rfl (by decide) ?_
    | refine r_alloc rfl ?_
    | refine r_box rfl rfl rfl ?_
    | refine r_bsl rfl rfl rfl rfl rfl rfl ?_
    | refine r_bsl1 rfl (by assumption) rfl ?_
    | refine r_mkmap rfl ?_
    | refine r_mv_nil rfl ?_
    | refine r_mv_own rfl rfl ?_
    | refine r_mv_mp rfl rfl ?_
    | refine r_mv_row rfl rfl (by first | rfl | assumption | omega | (simp; done) | (simp; omega)) ?_
    | refine r_mv_rp rfl rfl (by first | rfl | assumption | omega | (simp; done) | (simp; omega)) ?_
    | refine r_fad_rp rfl rfl (by first | rfl | assumption | omega | (simp; done) | (simp; omega)) ?_
    | refine r_iad_row rfl rfl (by first | rfl | assumption | omega | (simp; done) | (simp; omega)) rfl (by first | rfl | assumption | omega | (simp; done) | (simp; omega)) ?_
    | refine r_skip0 rfl (by first | with_reducible rfl | assumption | decide) ?_
    | refine r_skipU0 rfl ?_
    | refine r_semF rfl rfl rfl rfl ?_
    | refine r_load_rp rfl rfl (by assumption) rfl ?_
    | refine r_len_row rfl rfl (by first | rfl | assumption | omega | (simp; done) | (simp; omega)) ?_
    | refine run_seq ?_
    | refine run_reg ?_
    | refine run_regd rfl ?_
    | refine run_block ?_
    | refine run_skip ?_
    | refine run_exit ?_
    | refine run_ret ?_
    | refine fin_seq ?_
    | refine fin_seq_e ?_
    | refine fin_seq_r ?_
    | refine fin_blk ?_
    | refine fin_blk_e ?_
    | refine fin_blk_x rfl ?_
    | refine fin_blk_r ?_
    | refine fin_loop_e ?_
    | refine fin_loop_r ?_
    | refine run_cond_t rfl (by first | with_reducible rfl | assumption | decide) ?_
    | refine run_cond_f rfl (by first | with_reducible rfl | assumption | decide) ?_)
  exact fin_out rfl rfl
def hasB (s : Str) (l : List U) : Bool := decide (0 ≤ firstI (nmQ s) l 0)
theorem contains21 (u : U) (xs : List U) (sp : List (List PV)) : Ret Try.prog 21 [.sl (xs.map U.enc) sp, .clo 22 [.ref u.enc 0]] (.v (.bool (hasB u.name xs))) := by
  refine ret21 rfl fun hbd => ?_
  unfold c21
  repeat (first
    | refine r_call rfl (indexFunc15 U.enc (fun _ => rfl) 22 [.ref u.enc 0] (nmQ u.name) xs sp (fun a _ => is22 a u)) ?_
    | refine r_mv_p rfl ?_
    | refine r_do rfl (by first | with_reducible rfl | assumption | decide) ?_
    | refine r_skip rfl (by first | with_reducible rfl | assumption | decide) ?_
    | refine r_skipU rfl ?_
    | refine r_fad rfl rfl ?_
    | refine r_add rfl rfl (by omega) ?_
    | refine r_sub rfl rfl (by omega) ?_
    | refine r_loadAll rfl (by first | rfl | assumption) ?_
    | refine r_loadAllB rfl rfl (by first | rfl | assumption) ?_
    | refine r_pick_t rfl (by first | with_reducible rfl | assumption | decide) rfl rfl ?_
    | refine r_pick_f rfl (by first | with_reducible rfl | assumption | decide) rfl rfl ?_
    | refine r_sem rfl rfl rfl rfl ?_
    | refine r_nil ?_
    | refine r_iad rfl rfl (by omega) (by assumption) (by first | rfl | assumption | omega | (simp; done) | (simp; omega)) ?_
    | refine r_storeAll rfl rfl rfl rfl rfl rfl ?_
    | refine r_store rfl rfl rfl rfl (by decide) ?_
    | refine r_alloc rfl ?_
    | refine r_box rfl rfl rfl ?_
    | refine r_bsl rfl rfl rfl rfl rfl rfl ?_
    | refine r_bsl1 rfl (by assumption) rfl ?_
    | refine r_mkmap rfl ?_
    | refine r_mv_nil rfl ?_
    | refine r_mv_own rfl rfl ?_
    | refine r_mv_mp rfl rfl ?_
    | refine r_mv_row rfl rfl (by first | rfl | assumption | omega | (simp; done) | (simp; omega)) ?_
    | refine r_mv_rp rfl rfl (by first | rfl | assumption | omega | (simp; done) | (simp; omega)) ?_
    | refine r_fad_rp rfl rfl (by first | rfl | assumption | omega | (simp; done) | (simp; omega)) ?_
    | refine r_iad_row rfl rfl (by first | rfl | assumption | omega | (simp; done) | (simp; omega)) rfl (by first | rfl | assumption | omega | (simp; done) | (simp; omega)) ?_
    | refine r_skip0 rfl (by first | with_reducible rfl | assumption | decide) ?_
    | refine r_skipU0 rfl ?_
    | refine r_semF rfl rfl rfl rfl ?_
    | refine r_load_rp rfl rfl (by assumption) rfl ?_
    | refine r_len_row rfl rfl (by first | rfl | assumption | omega | (simp; done) | (simp; omega)) ?_
    | refine run_seq ?_
    | refine run_reg ?_
    | refine run_regd rfl ?_
    | refine run_block ?_
    | refine run_skip ?_
    | refine run_exit ?_
    | refine run_ret ?_
    | refine fin_seq ?_
    | refine fin_seq_e ?_
    | refine fin_seq_r ?_
    | refine fin_blk ?_
    | refine fin_blk_e ?_
    | refine fin_blk_x rfl ?_
    | refine fin_blk_r ?_
    | refine fin_loop_e ?_
    | refine fin_loop_r ?_
    | refine run_cond_t rfl (by first | with_reducible rfl | assumption | decide) ?_
    | refine run_cond_f rfl (by first | with_reducible rfl | assumption | decide) ?_)
  exact fin_out rfl rfl

/-! ### What is known of an item's units -/
def kstep (out : List U) (u : U) : List U :=
  if (!(decide (u.name = eachB) || hasB u.name out)) && (!decide (u.name = ⟨#[]⟩) && decide (2 ≤ u.f)) then out ++ [u] else out
def knownTo (l : List U) : List U := l.foldl kstep []
def known (l : List U) : List U := knownTo l ++ [eachU]
theorem kstep_length (out : List U) (u : U) : (kstep out u).length ≤ out.length + 1 := by
  unfold kstep; split <;> simp
theorem foldl_length : ∀ (l out : List U), (l.foldl kstep out).length ≤ out.length + l.length
  | [], out => by simp
  | u :: l, out => by
    have := foldl_length l (kstep out u)
    have := kstep_length out u
    simp only [List.foldl_cons, List.length_cons]; omega
theorem knownTo_length (l : List U) : (knownTo l).length ≤ l.length := by simpa [knownTo] using foldl_length l []
theorem knownTo_succ (l : List U) (i : Nat) (hi : i < l.length) : knownTo (l.take (i + 1)) = kstep (knownTo (l.take i)) l[i] := by
  rw [show l.take (i + 1) = l.take i ++ [l[i]] by simp, knownTo, List.foldl_append]; rfl
set_option maxHeartbeats 4000000 in
theorem known14 (x : It) : RetN Try.prog 14 [.agg x.enc] 23 2 ((known x.us).map U.enc) := by
  refine leaf14 rfl ?_ fun hbd => ?_
  · intro p hp
    simp only [List.mem_flatten, List.mem_map] at hp
    obtain ⟨_, ⟨u, _, rfl⟩, hp⟩ := hp
    simp only [U.enc, List.mem_cons, List.not_mem_nil, or_false] at hp
    rcases hp with rfl | rfl <;> exact ⟨_, rfl⟩
  unfold c14
  repeat (first
    | refine r_mv_p rfl ?_
    | refine r_do rfl (by first | with_reducible rfl | assumption | decide) ?_
    | refine r_skip rfl (by first | with_reducible rfl | assumption | decide) ?_
    | refine r_skipU rfl ?_
    | refine r_fad rfl rfl ?_
    | refine r_add rfl rfl (by omega) ?_
    | refine r_sub rfl rfl (by omega) ?_
    | refine r_loadAll rfl (by first | rfl | assumption) ?_
    | refine r_loadAllB rfl rfl (by first | rfl | assumption) ?_
    | refine r_pick_t rfl (by first | with_reducible rfl | assumption | decide) rfl rfl ?_
    | refine r_pick_f rfl (by first | with_reducible rfl | assumption | decide) rfl rfl ?_
    | refine r_sem rfl rfl rfl rfl ?_
    | refine r_nil ?_
    | refine r_iad rfl rfl (by omega) (by assumption) (by first | rfl | assumption | omega | (simp; done) | (simp; omega)) ?_
    | refine r_storeAll rfl rfl rfl rfl rfl rfl ?_
    | refine r_store rfl rfl rfl rfl (by decide) ?_
    | refine r_alloc rfl ?_
    | refine r_box rfl rfl rfl ?_
    | refine r_bsl rfl rfl rfl rfl rfl rfl ?_
    | refine r_bsl1 rfl (by assumption) rfl ?_
    | refine r_mkmap rfl ?_
    | refine r_mv_nil rfl ?_
    | refine r_mv_own rfl rfl ?_
    | refine r_mv_mp rfl rfl ?_
    | refine r_mv_row rfl rfl (by first | rfl | assumption | omega | (simp; done) | (simp; omega)) ?_
    | refine r_mv_rp rfl rfl (by first | rfl | assumption | omega | (simp; done) | (simp; omega)) ?_
    | refine r_fad_rp rfl rfl (by first | rfl | assumption | omega | (simp; done) | (simp; omega)) ?_
    | refine r_iad_row rfl rfl (by first | rfl | assumption | omega | (simp; done) | (simp; omega)) rfl (by first | rfl | assumption | omega | (simp; done) | (simp; omega)) ?_
    | refine r_skip0 rfl (by first | with_reducible rfl | assumption | decide) ?_
    | refine r_skipU0 rfl ?_
    | refine r_semF rfl rfl rfl rfl ?_
    | refine r_load_rp rfl rfl (by assumption) rfl ?_
    | refine r_len_row rfl rfl (by first | rfl | assumption | omega | (simp; done) | (simp; omega)) ?_
    | refine run_seq ?_
    | refine run_reg ?_
    | refine run_regd rfl ?_
    | refine run_block ?_
    | refine run_skip ?_
    | refine run_exit ?_
    | refine run_ret ?_
    | refine fin_seq ?_
    | refine fin_seq_e ?_
    | refine fin_seq_r ?_
    | refine fin_blk ?_
    | refine fin_blk_e ?_
    | refine fin_blk_x rfl ?_
    | refine fin_blk_r ?_
    | refine fin_loop_e ?_
    | refine fin_loop_r ?_
    | refine run_cond_t rfl (by first | with_reducible rfl | assumption | decide) ?_
    | refine run_cond_f rfl (by first | with_reducible rfl | assumption | decide) ?_)
  refine run_weak (weak_nilRow 3 35 23 2 rfl rfl) (run_weak weak_fz (run_weak (weak_S ?_ ?_) (run_inv (fun i : Nat => S [(1, .own 1 0), (2, .nil), (3, .row 35 (knownTo (x.us.take i)).length), (8, .p (.agg x.ucells)), (9, .p (.v (.int .i64 (i : Nat))))] [(1, some (.box x.enc false)), (35, some (.row 23 2 ((knownTo (x.us.take i)).map U.enc) true))])
    (fun i => i ≤ 4) (fun i => 4 - i) ?_ 0 (Nat.zero_le _))))
  · exact ⟨rfl, rfl, rfl, rfl, rfl, trivial⟩
  · exact ⟨rfl, rfl, trivial⟩
  intro i hi ih
  have hl4 : x.us.length = 4 := rfl
  have hkl : (knownTo (x.us.take i)).length ≤ i := Nat.le_trans (knownTo_length _) (by simp; omega)
  repeat (first
    | refine r_mv_p rfl ?_
    | refine r_do rfl (by first | with_reducible rfl | assumption | decide) ?_
    | refine r_skip rfl (by first | with_reducible rfl | assumption | decide) ?_
    | refine r_skipU rfl ?_
    | refine r_fad rfl rfl ?_
    | refine r_add rfl rfl (by omega) ?_
    | refine r_sub rfl rfl (by omega) ?_
    | refine r_loadAll rfl (by first | rfl | assumption) ?_
    | refine r_loadAllB rfl rfl (by first | rfl | assumption) ?_
    | refine r_pick_t rfl (by first | with_reducible rfl | assumption | decide) rfl rfl ?_
    | refine r_pick_f rfl (by first | with_reducible rfl | assumption | decide) rfl rfl ?_
    | refine r_sem rfl rfl rfl rfl ?_
    | refine r_nil ?_
    | refine r_iad rfl rfl (by omega) (by assumption) (by first | rfl | assumption | omega | (simp; done) | (simp; omega)) ?_
    | refine r_storeAll rfl rfl rfl rfl rfl rfl ?_
    | refine r_store rfl rfl rfl rfl (by decide) ?_
    | refine r_alloc rfl ?_
    | refine r_box rfl rfl rfl ?_
    | refine r_bsl rfl rfl rfl rfl rfl rfl ?_
    | refine r_bsl1 rfl (by assumption) rfl ?_
    | refine r_mkmap rfl ?_
    | refine r_mv_nil rfl ?_
    | refine r_mv_own rfl rfl ?_
    | refine r_mv_mp rfl rfl ?_
    | refine r_mv_row rfl rfl (by first | rfl | assumption | omega | (simp; done) | (simp; omega)) ?_
    | refine r_mv_rp rfl rfl (by first | rfl | assumption | omega | (simp; done) | (simp; omega)) ?_
    | refine r_fad_rp rfl rfl (by first | rfl | assumption | omega | (simp; done) | (simp; omega)) ?_
    | refine r_iad_row rfl rfl (by first | rfl | assumption | omega | (simp; done) | (simp; omega)) rfl (by first | rfl | assumption | omega | (simp; done) | (simp; omega)) ?_
    | refine r_skip0 rfl (by first | with_reducible rfl | assumption | decide) ?_
    | refine r_skipU0 rfl ?_
    | refine r_semF rfl rfl rfl rfl ?_
    | refine r_load_rp rfl rfl (by assumption) rfl ?_
    | refine r_len_row rfl rfl (by first | rfl | assumption | omega | (simp; done) | (simp; omega)) ?_
    | refine run_seq ?_
    | refine run_reg ?_
    | refine run_regd rfl ?_
    | refine run_block ?_
    | refine run_skip ?_
    | refine run_exit ?_
    | refine run_ret ?_
    | refine fin_seq ?_
    | refine fin_seq_e ?_
    | refine fin_seq_r ?_
    | refine fin_blk ?_
    | refine fin_blk_e ?_
    | refine fin_blk_x rfl ?_
    | refine fin_blk_r ?_
    | refine fin_loop_e ?_
    | refine fin_loop_r ?_
    | refine run_cond_t rfl (by first | with_reducible rfl | assumption | decide) ?_
    | refine run_cond_f rfl (by first | with_reducible rfl | assumption | decide) ?_)
  refine run_cond rfl (fun h => ?_) (fun h => ?_)
  · have hlt : i < 4 := by simp at h; omega
    have hlt' : i < x.us.length := hlt
    obtain ⟨u, hu⟩ : ∃ u, u = x.us[i] := ⟨_, rfl⟩
    obtain ⟨out, hout⟩ : ∃ out, out = knownTo (x.us.take i) := ⟨_, rfl⟩
    have hs := knownTo_succ x.us i hlt'
    have hidx : ldv x.ucells (((i : Nat) : Int).toNat * 2) 2 true = some (.agg u.enc) := by
      rw [hu]
      have : i = 0 ∨ i = 1 ∨ i = 2 ∨ i = 3 := by omega
      rcases this with rfl | rfl | rfl | rfl <;> rfl
    rw [← hout, ← hu] at hs
    rw [← hout] at hkl ⊢
    have he : ∀ z ∈ [u.enc], z.length = 2 := by intro z hz; simp at hz; subst hz; rfl
    have hl : ((out.map U.enc).length + [u.enc].length) * 24 ≤ 140737488355328 := by
      simp only [List.length_map, List.length_cons, List.length_nil]; omega
    have hback : kstep out u = out ++ [u] → (((knownTo (x.us.take (i + 1))).length : Nat) = (out.map U.enc).length + [u.enc].length) ∧ (knownTo (x.us.take (i + 1))).map U.enc = out.map U.enc ++ [u.enc] := fun e => by
      rw [hs, e]; simp
    have hstay : kstep out u = out → knownTo (x.us.take (i + 1)) = out := fun e => by rw [hs, e]
    repeat (first
      | refine r_idx rfl rfl (by omega) hidx ?_
      | refine r_mv_p rfl ?_
      | refine r_do rfl (by first | with_reducible rfl | assumption | decide) ?_
      | refine r_skip rfl (by first | with_reducible rfl | assumption | decide) ?_
      | refine r_skipU rfl ?_
      | refine r_fad rfl rfl ?_
      | refine r_add rfl rfl (by omega) ?_
      | refine r_sub rfl rfl (by omega) ?_
      | refine r_loadAll rfl (by first | rfl | assumption) ?_
      | refine r_loadAllB rfl rfl (by first | rfl | assumption) ?_
      | refine r_pick_t rfl (by first | with_reducible rfl | assumption | decide) rfl rfl ?_
      | refine r_pick_f rfl (by first | with_reducible rfl | assumption | decide) rfl rfl ?_
      | refine r_sem rfl rfl rfl rfl ?_
      | refine r_nil ?_
      | refine r_iad rfl rfl (by omega) (by assumption) (by first | rfl | assumption | omega | (simp; done) | (simp; omega)) ?_
      | refine r_storeAll rfl rfl rfl rfl rfl rfl ?_
      | refine r_store rfl rfl rfl rfl (by decide) ?_
      | refine r_alloc rfl ?_
      | refine r_box rfl rfl rfl ?_
      | refine r_bsl rfl rfl rfl rfl rfl rfl ?_
      | refine r_bsl1 rfl (by assumption) rfl ?_
      | refine r_mkmap rfl ?_
      | refine r_mv_nil rfl ?_
      | refine r_mv_own rfl rfl ?_
      | refine r_mv_mp rfl rfl ?_
      | refine r_mv_row rfl rfl (by first | rfl | assumption | omega | (simp; done) | (simp; omega)) ?_
      | refine r_mv_rp rfl rfl (by first | rfl | assumption | omega | (simp; done) | (simp; omega)) ?_
      | refine r_fad_rp rfl rfl (by first | rfl | assumption | omega | (simp; done) | (simp; omega)) ?_
      | refine r_iad_row rfl rfl (by first | rfl | assumption | omega | (simp; done) | (simp; omega)) rfl (by first | rfl | assumption | omega | (simp; done) | (simp; omega)) ?_
      | refine r_skip0 rfl (by first | with_reducible rfl | assumption | decide) ?_
      | refine r_skipU0 rfl ?_
      | refine r_semF rfl rfl rfl rfl ?_
      | refine r_load_rp rfl rfl (by assumption) rfl ?_
      | refine r_len_row rfl rfl (by first | rfl | assumption | omega | (simp; done) | (simp; omega)) ?_
      | refine run_seq ?_
      | refine run_reg ?_
      | refine run_regd rfl ?_
      | refine run_block ?_
      | refine run_skip ?_
      | refine run_exit ?_
      | refine run_ret ?_
      | refine fin_seq ?_
      | refine fin_seq_e ?_
      | refine fin_seq_r ?_
      | refine fin_blk ?_
      | refine fin_blk_e ?_
      | refine fin_blk_x rfl ?_
      | refine fin_blk_r ?_
      | refine fin_loop_e ?_
      | refine fin_loop_r ?_
      | refine run_cond_t rfl (by first | with_reducible rfl | assumption | decide) ?_
      | refine run_cond_f rfl (by first | with_reducible rfl | assumption | decide) ?_)
    cases hb1 : decide (u.name = eachB) with
    | true =>
      have hk : kstep out u = out := by unfold kstep; rw [hb1]; simp
      have hb1' : decide (u.name = (⟨#[101, 97, 99, 104]⟩ : ByteArray)) = true := hb1
      have hb5 : (!true) = false := rfl
      cases hb2 : (!decide (u.name = (⟨#[]⟩ : ByteArray))) with
      | true =>
        cases hb3 : decide ((2 : Int) ≤ u.f) with
        | true =>
          repeat (first
            | refine r_mv_p rfl ?_
            | refine r_do rfl (by first | with_reducible rfl | assumption | decide) ?_
            | refine r_skip rfl (by first | with_reducible rfl | assumption | decide) ?_
            | refine r_skipU rfl ?_
            | refine r_fad rfl rfl ?_
            | refine r_add rfl rfl (by omega) ?_
            | refine r_sub rfl rfl (by omega) ?_
            | refine r_loadAll rfl (by first | rfl | assumption) ?_
            | refine r_loadAllB rfl rfl (by first | rfl | assumption) ?_
            | refine r_pick_t rfl (by first | with_reducible rfl | assumption | decide) rfl rfl ?_
            | refine r_pick_f rfl (by first | with_reducible rfl | assumption | decide) rfl rfl ?_
            | refine r_sem rfl rfl rfl rfl ?_
            | refine r_nil ?_
            | refine r_iad rfl rfl (by omega) (by assumption) (by first | rfl | assumption | omega | (simp; done) | (simp; omega)) ?_
            | refine r_storeAll rfl rfl rfl rfl rfl rfl ?_
            | refine r_store rfl rfl rfl rfl (by decide) ?_
            | refine r_alloc rfl ?_
            | refine r_box rfl rfl rfl ?_
            | refine r_bsl rfl rfl rfl rfl rfl rfl ?_
            | refine r_bsl1 rfl (by assumption) rfl ?_
            | refine r_mkmap rfl ?_
            | refine r_mv_nil rfl ?_
            | refine r_mv_own rfl rfl ?_
            | refine r_mv_mp rfl rfl ?_
            | refine r_mv_row rfl rfl (by first | rfl | assumption | omega | (simp; done) | (simp; omega)) ?_
            | refine r_mv_rp rfl rfl (by first | rfl | assumption | omega | (simp; done) | (simp; omega)) ?_
            | refine r_fad_rp rfl rfl (by first | rfl | assumption | omega | (simp; done) | (simp; omega)) ?_
            | refine r_iad_row rfl rfl (by first | rfl | assumption | omega | (simp; done) | (simp; omega)) rfl (by first | rfl | assumption | omega | (simp; done) | (simp; omega)) ?_
            | refine r_skip0 rfl (by first | with_reducible rfl | assumption | decide) ?_
            | refine r_skipU0 rfl ?_
            | refine r_semF rfl rfl rfl rfl ?_
            | refine r_load_rp rfl rfl (by assumption) rfl ?_
            | refine r_len_row rfl rfl (by first | rfl | assumption | omega | (simp; done) | (simp; omega)) ?_
            | refine run_seq ?_
            | refine run_reg ?_
            | refine run_regd rfl ?_
            | refine run_block ?_
            | refine run_skip ?_
            | refine run_exit ?_
            | refine run_ret ?_
            | refine fin_seq ?_
            | refine fin_seq_e ?_
            | refine fin_seq_r ?_
            | refine fin_blk ?_
            | refine fin_blk_e ?_
            | refine fin_blk_x rfl ?_
            | refine fin_blk_r ?_
            | refine fin_loop_e ?_
            | refine fin_loop_r ?_
            | refine run_cond_t rfl (by first | with_reducible rfl | assumption | decide) ?_
            | refine run_cond_f rfl (by first | with_reducible rfl | assumption | decide) ?_)
          refine fin_loop (run_weak (weak_S ?_ ?_) (ih (i + 1) hlt (by omega)))
          · exact ⟨rfl, rfl, by rw [hstay hk]; rfl, rfl, rfl, trivial⟩
          · exact ⟨rfl, by rw [hstay hk]; rfl, trivial⟩
        | false =>
          repeat (first
            | refine r_mv_p rfl ?_
            | refine r_do rfl (by first | with_reducible rfl | assumption | decide) ?_
            | refine r_skip rfl (by first | with_reducible rfl | assumption | decide) ?_
            | refine r_skipU rfl ?_
            | refine r_fad rfl rfl ?_
            | refine r_add rfl rfl (by omega) ?_
            | refine r_sub rfl rfl (by omega) ?_
            | refine r_loadAll rfl (by first | rfl | assumption) ?_
            | refine r_loadAllB rfl rfl (by first | rfl | assumption) ?_
            | refine r_pick_t rfl (by first | with_reducible rfl | assumption | decide) rfl rfl ?_
            | refine r_pick_f rfl (by first | with_reducible rfl | assumption | decide) rfl rfl ?_
            | refine r_sem rfl rfl rfl rfl ?_
            | refine r_nil ?_
            | refine r_iad rfl rfl (by omega) (by assumption) (by first | rfl | assumption | omega | (simp; done) | (simp; omega)) ?_
            | refine r_storeAll rfl rfl rfl rfl rfl rfl ?_
            | refine r_store rfl rfl rfl rfl (by decide) ?_
            | refine r_alloc rfl ?_
            | refine r_box rfl rfl rfl ?_
            | refine r_bsl rfl rfl rfl rfl rfl rfl ?_
            | refine r_bsl1 rfl (by assumption) rfl ?_
            | refine r_mkmap rfl ?_
            | refine r_mv_nil rfl ?_
            | refine r_mv_own rfl rfl ?_
            | refine r_mv_mp rfl rfl ?_
            | refine r_mv_row rfl rfl (by first | rfl | assumption | omega | (simp; done) | (simp; omega)) ?_
            | refine r_mv_rp rfl rfl (by first | rfl | assumption | omega | (simp; done) | (simp; omega)) ?_
            | refine r_fad_rp rfl rfl (by first | rfl | assumption | omega | (simp; done) | (simp; omega)) ?_
            | refine r_iad_row rfl rfl (by first | rfl | assumption | omega | (simp; done) | (simp; omega)) rfl (by first | rfl | assumption | omega | (simp; done) | (simp; omega)) ?_
            | refine r_skip0 rfl (by first | with_reducible rfl | assumption | decide) ?_
            | refine r_skipU0 rfl ?_
            | refine r_semF rfl rfl rfl rfl ?_
            | refine r_load_rp rfl rfl (by assumption) rfl ?_
            | refine r_len_row rfl rfl (by first | rfl | assumption | omega | (simp; done) | (simp; omega)) ?_
            | refine run_seq ?_
            | refine run_reg ?_
            | refine run_regd rfl ?_
            | refine run_block ?_
            | refine run_skip ?_
            | refine run_exit ?_
            | refine run_ret ?_
            | refine fin_seq ?_
            | refine fin_seq_e ?_
            | refine fin_seq_r ?_
            | refine fin_blk ?_
            | refine fin_blk_e ?_
            | refine fin_blk_x rfl ?_
            | refine fin_blk_r ?_
            | refine fin_loop_e ?_
            | refine fin_loop_r ?_
            | refine run_cond_t rfl (by first | with_reducible rfl | assumption | decide) ?_
            | refine run_cond_f rfl (by first | with_reducible rfl | assumption | decide) ?_)
          refine fin_loop (run_weak (weak_S ?_ ?_) (ih (i + 1) hlt (by omega)))
          · exact ⟨rfl, rfl, by rw [hstay hk]; rfl, rfl, rfl, trivial⟩
          · exact ⟨rfl, by rw [hstay hk]; rfl, trivial⟩
      | false =>
        repeat (first
          | refine r_mv_p rfl ?_
          | refine r_do rfl (by first | with_reducible rfl | assumption | decide) ?_
          | refine r_skip rfl (by first | with_reducible rfl | assumption | decide) ?_
          | refine r_skipU rfl ?_
          | refine r_fad rfl rfl ?_
          | refine r_add rfl rfl (by omega) ?_
          | refine r_sub rfl rfl (by omega) ?_
          | refine r_loadAll rfl (by first | rfl | assumption) ?_
          | refine r_loadAllB rfl rfl (by first | rfl | assumption) ?_
          | refine r_pick_t rfl (by first | with_reducible rfl | assumption | decide) rfl rfl ?_
          | refine r_pick_f rfl (by first | with_reducible rfl | assumption | decide) rfl rfl ?_
          | refine r_sem rfl rfl rfl rfl ?_
          | refine r_nil ?_
          | refine r_iad rfl rfl (by omega) (by assumption) (by first | rfl | assumption | omega | (simp; done) | (simp; omega)) ?_
          | refine r_storeAll rfl rfl rfl rfl rfl rfl ?_
          | refine r_store rfl rfl rfl rfl (by decide) ?_
          | refine r_alloc rfl ?_
          | refine r_box rfl rfl rfl ?_
          | refine r_bsl rfl rfl rfl rfl rfl rfl ?_
          | refine r_bsl1 rfl (by assumption) rfl ?_
          | refine r_mkmap rfl ?_
          | refine r_mv_nil rfl ?_
          | refine r_mv_own rfl rfl ?_
          | refine r_mv_mp rfl rfl ?_
          | refine r_mv_row rfl rfl (by first | rfl | assumption | omega | (simp; done) | (simp; omega)) ?_
          | refine r_mv_rp rfl rfl (by first | rfl | assumption | omega | (simp; done) | (simp; omega)) ?_
          | refine r_fad_rp rfl rfl (by first | rfl | assumption | omega | (simp; done) | (simp; omega)) ?_
          | refine r_iad_row rfl rfl (by first | rfl | assumption | omega | (simp; done) | (simp; omega)) rfl (by first | rfl | assumption | omega | (simp; done) | (simp; omega)) ?_
          | refine r_skip0 rfl (by first | with_reducible rfl | assumption | decide) ?_
          | refine r_skipU0 rfl ?_
          | refine r_semF rfl rfl rfl rfl ?_
          | refine r_load_rp rfl rfl (by assumption) rfl ?_
          | refine r_len_row rfl rfl (by first | rfl | assumption | omega | (simp; done) | (simp; omega)) ?_
          | refine run_seq ?_
          | refine run_reg ?_
          | refine run_regd rfl ?_
          | refine run_block ?_
          | refine run_skip ?_
          | refine run_exit ?_
          | refine run_ret ?_
          | refine fin_seq ?_
          | refine fin_seq_e ?_
          | refine fin_seq_r ?_
          | refine fin_blk ?_
          | refine fin_blk_e ?_
          | refine fin_blk_x rfl ?_
          | refine fin_blk_r ?_
          | refine fin_loop_e ?_
          | refine fin_loop_r ?_
          | refine run_cond_t rfl (by first | with_reducible rfl | assumption | decide) ?_
          | refine run_cond_f rfl (by first | with_reducible rfl | assumption | decide) ?_)
        refine fin_loop (run_weak (weak_S ?_ ?_) (ih (i + 1) hlt (by omega)))
        · exact ⟨rfl, rfl, by rw [hstay hk]; rfl, rfl, rfl, trivial⟩
        · exact ⟨rfl, by rw [hstay hk]; rfl, trivial⟩
    | false =>
      have hb1' : decide (u.name = (⟨#[101, 97, 99, 104]⟩ : ByteArray)) = false := hb1
      repeat (first
        | refine r_callR (fs := [35]) rfl rfl (by simp) rfl rfl rfl (contains21 u out []) ?_
        | refine r_mv_p rfl ?_
        | refine r_do rfl (by first | with_reducible rfl | assumption | decide) ?_
        | refine r_skip rfl (by first | with_reducible rfl | assumption | decide) ?_
        | refine r_skipU rfl ?_
        | refine r_fad rfl rfl ?_
        | refine r_add rfl rfl (by omega) ?_
        | refine r_sub rfl rfl (by omega) ?_
        | refine r_loadAll rfl (by first | rfl | assumption) ?_
        | refine r_loadAllB rfl rfl (by first | rfl | assumption) ?_
        | refine r_pick_t rfl (by first | with_reducible rfl | assumption | decide) rfl rfl ?_
        | refine r_pick_f rfl (by first | with_reducible rfl | assumption | decide) rfl rfl ?_
        | refine r_sem rfl rfl rfl rfl ?_
        | refine r_nil ?_
        | refine r_iad rfl rfl (by omega) (by assumption) (by first | rfl | assumption | omega | (simp; done) | (simp; omega)) ?_
        | refine r_storeAll rfl rfl rfl rfl rfl rfl ?_
        | refine r_store rfl rfl rfl rfl (by decide) ?_
        | refine r_alloc rfl ?_
        | refine r_box rfl rfl rfl ?_
        | refine r_bsl rfl rfl rfl rfl rfl rfl ?_
        | refine r_bsl1 rfl (by assumption) rfl ?_
        | refine r_mkmap rfl ?_
        | refine r_mv_nil rfl ?_
        | refine r_mv_own rfl rfl ?_
        | refine r_mv_mp rfl rfl ?_
        | refine r_mv_row rfl rfl (by first | rfl | assumption | omega | (simp; done) | (simp; omega)) ?_
        | refine r_mv_rp rfl rfl (by first | rfl | assumption | omega | (simp; done) | (simp; omega)) ?_
        | refine r_fad_rp rfl rfl (by first | rfl | assumption | omega | (simp; done) | (simp; omega)) ?_
        | refine r_iad_row rfl rfl (by first | rfl | assumption | omega | (simp; done) | (simp; omega)) rfl (by first | rfl | assumption | omega | (simp; done) | (simp; omega)) ?_
        | refine r_skip0 rfl (by first | with_reducible rfl | assumption | decide) ?_
        | refine r_skipU0 rfl ?_
        | refine r_semF rfl rfl rfl rfl ?_
        | refine r_load_rp rfl rfl (by assumption) rfl ?_
        | refine r_len_row rfl rfl (by first | rfl | assumption | omega | (simp; done) | (simp; omega)) ?_
        | refine run_seq ?_
        | refine run_reg ?_
        | refine run_regd rfl ?_
        | refine run_block ?_
        | refine run_skip ?_
        | refine run_exit ?_
        | refine run_ret ?_
        | refine fin_seq ?_
        | refine fin_seq_e ?_
        | refine fin_seq_r ?_
        | refine fin_blk ?_
        | refine fin_blk_e ?_
        | refine fin_blk_x rfl ?_
        | refine fin_blk_r ?_
        | refine fin_loop_e ?_
        | refine fin_loop_r ?_
        | refine run_cond_t rfl (by first | with_reducible rfl | assumption | decide) ?_
        | refine run_cond_f rfl (by first | with_reducible rfl | assumption | decide) ?_)
      cases hb2 : (!decide (u.name = (⟨#[]⟩ : ByteArray))) with
      | false =>
        have hk : kstep out u = out := by unfold kstep; rw [hb2]; simp
        repeat (first
          | refine r_mv_p rfl ?_
          | refine r_do rfl (by first | with_reducible rfl | assumption | decide) ?_
          | refine r_skip rfl (by first | with_reducible rfl | assumption | decide) ?_
          | refine r_skipU rfl ?_
          | refine r_fad rfl rfl ?_
          | refine r_add rfl rfl (by omega) ?_
          | refine r_sub rfl rfl (by omega) ?_
          | refine r_loadAll rfl (by first | rfl | assumption) ?_
          | refine r_loadAllB rfl rfl (by first | rfl | assumption) ?_
          | refine r_pick_t rfl (by first | with_reducible rfl | assumption | decide) rfl rfl ?_
          | refine r_pick_f rfl (by first | with_reducible rfl | assumption | decide) rfl rfl ?_
          | refine r_sem rfl rfl rfl rfl ?_
          | refine r_nil ?_
          | refine r_iad rfl rfl (by omega) (by assumption) (by first | rfl | assumption | omega | (simp; done) | (simp; omega)) ?_
          | refine r_storeAll rfl rfl rfl rfl rfl rfl ?_
          | refine r_store rfl rfl rfl rfl (by decide) ?_
          | refine r_alloc rfl ?_
          | refine r_box rfl rfl rfl ?_
          | refine r_bsl rfl rfl rfl rfl rfl rfl ?_
          | refine r_bsl1 rfl (by assumption) rfl ?_
          | refine r_mkmap rfl ?_
          | refine r_mv_nil rfl ?_
          | refine r_mv_own rfl rfl ?_
          | refine r_mv_mp rfl rfl ?_
          | refine r_mv_row rfl rfl (by first | rfl | assumption | omega | (simp; done) | (simp; omega)) ?_
          | refine r_mv_rp rfl rfl (by first | rfl | assumption | omega | (simp; done) | (simp; omega)) ?_
          | refine r_fad_rp rfl rfl (by first | rfl | assumption | omega | (simp; done) | (simp; omega)) ?_
          | refine r_iad_row rfl rfl (by first | rfl | assumption | omega | (simp; done) | (simp; omega)) rfl (by first | rfl | assumption | omega | (simp; done) | (simp; omega)) ?_
          | refine r_skip0 rfl (by first | with_reducible rfl | assumption | decide) ?_
          | refine r_skipU0 rfl ?_
          | refine r_semF rfl rfl rfl rfl ?_
          | refine r_load_rp rfl rfl (by assumption) rfl ?_
          | refine r_len_row rfl rfl (by first | rfl | assumption | omega | (simp; done) | (simp; omega)) ?_
          | refine run_seq ?_
          | refine run_reg ?_
          | refine run_regd rfl ?_
          | refine run_block ?_
          | refine run_skip ?_
          | refine run_exit ?_
          | refine run_ret ?_
          | refine fin_seq ?_
          | refine fin_seq_e ?_
          | refine fin_seq_r ?_
          | refine fin_blk ?_
          | refine fin_blk_e ?_
          | refine fin_blk_x rfl ?_
          | refine fin_blk_r ?_
          | refine fin_loop_e ?_
          | refine fin_loop_r ?_
          | refine run_cond_t rfl (by first | with_reducible rfl | assumption | decide) ?_
          | refine run_cond_f rfl (by first | with_reducible rfl | assumption | decide) ?_)
        refine fin_loop (run_weak (weak_S ?_ ?_) (ih (i + 1) hlt (by omega)))
        · exact ⟨rfl, rfl, by rw [hstay hk]; rfl, rfl, rfl, trivial⟩
        · exact ⟨rfl, by rw [hstay hk]; rfl, trivial⟩
      | true =>
        cases hb3 : decide ((2 : Int) ≤ u.f) with
        | false =>
          have hk : kstep out u = out := by unfold kstep; rw [hb3]; simp
          cases hb4 : hasB u.name out with
          | true =>
            repeat (first
              | refine r_mv_p rfl ?_
              | refine r_do rfl (by first | with_reducible rfl | assumption | decide) ?_
              | refine r_skip rfl (by first | with_reducible rfl | assumption | decide) ?_
              | refine r_skipU rfl ?_
              | refine r_fad rfl rfl ?_
              | refine r_add rfl rfl (by omega) ?_
              | refine r_sub rfl rfl (by omega) ?_
              | refine r_loadAll rfl (by first | rfl | assumption) ?_
              | refine r_loadAllB rfl rfl (by first | rfl | assumption) ?_
              | refine r_pick_t rfl (by first | with_reducible rfl | assumption | decide) rfl rfl ?_
              | refine r_pick_f rfl (by first | with_reducible rfl | assumption | decide) rfl rfl ?_
              | refine r_sem rfl rfl rfl rfl ?_
              | refine r_nil ?_
              | refine r_iad rfl rfl (by omega) (by assumption) (by first | rfl | assumption | omega | (simp; done) | (simp; omega)) ?_
              | refine r_storeAll rfl rfl rfl rfl rfl rfl ?_
              | refine r_store rfl rfl rfl rfl (by decide) ?_
              | refine r_alloc rfl ?_
              | refine r_box rfl rfl rfl ?_
              | refine r_bsl rfl rfl rfl rfl rfl rfl ?_
              | refine r_bsl1 rfl (by assumption) rfl ?_
              | refine r_mkmap rfl ?_
              | refine r_mv_nil rfl ?_
              | refine r_mv_own rfl rfl ?_
              | refine r_mv_mp rfl rfl ?_
              | refine r_mv_row rfl rfl (by first | rfl | assumption | omega | (simp; done) | (simp; omega)) ?_
              | refine r_mv_rp rfl rfl (by first | rfl | assumption | omega | (simp; done) | (simp; omega)) ?_
              | refine r_fad_rp rfl rfl (by first | rfl | assumption | omega | (simp; done) | (simp; omega)) ?_
              | refine r_iad_row rfl rfl (by first | rfl | assumption | omega | (simp; done) | (simp; omega)) rfl (by first | rfl | assumption | omega | (simp; done) | (simp; omega)) ?_
              | refine r_skip0 rfl (by first | with_reducible rfl | assumption | decide) ?_
              | refine r_skipU0 rfl ?_
              | refine r_semF rfl rfl rfl rfl ?_
              | refine r_load_rp rfl rfl (by assumption) rfl ?_
              | refine r_len_row rfl rfl (by first | rfl | assumption | omega | (simp; done) | (simp; omega)) ?_
              | refine run_seq ?_
              | refine run_reg ?_
              | refine run_regd rfl ?_
              | refine run_block ?_
              | refine run_skip ?_
              | refine run_exit ?_
              | refine run_ret ?_
              | refine fin_seq ?_
              | refine fin_seq_e ?_
              | refine fin_seq_r ?_
              | refine fin_blk ?_
              | refine fin_blk_e ?_
              | refine fin_blk_x rfl ?_
              | refine fin_blk_r ?_
              | refine fin_loop_e ?_
              | refine fin_loop_r ?_
              | refine run_cond_t rfl (by first | with_reducible rfl | assumption | decide) ?_
              | refine run_cond_f rfl (by first | with_reducible rfl | assumption | decide) ?_)
            refine fin_loop (run_weak (weak_S ?_ ?_) (ih (i + 1) hlt (by omega)))
            · exact ⟨rfl, rfl, by rw [hstay hk]; rfl, rfl, rfl, trivial⟩
            · exact ⟨rfl, by rw [hstay hk]; rfl, trivial⟩
          | false =>
            repeat (first
              | refine r_mv_p rfl ?_
              | refine r_do rfl (by first | with_reducible rfl | assumption | decide) ?_
              | refine r_skip rfl (by first | with_reducible rfl | assumption | decide) ?_
              | refine r_skipU rfl ?_
              | refine r_fad rfl rfl ?_
              | refine r_add rfl rfl (by omega) ?_
              | refine r_sub rfl rfl (by omega) ?_
              | refine r_loadAll rfl (by first | rfl | assumption) ?_
              | refine r_loadAllB rfl rfl (by first | rfl | assumption) ?_
              | refine r_pick_t rfl (by first | with_reducible rfl | assumption | decide) rfl rfl ?_
              | refine r_pick_f rfl (by first | with_reducible rfl | assumption | decide) rfl rfl ?_
              | refine r_sem rfl rfl rfl rfl ?_
              | refine r_nil ?_
              | refine r_iad rfl rfl (by omega) (by assumption) (by first | rfl | assumption | omega | (simp; done) | (simp; omega)) ?_
              | refine r_storeAll rfl rfl rfl rfl rfl rfl ?_
              | refine r_store rfl rfl rfl rfl (by decide) ?_
              | refine r_alloc rfl ?_
              | refine r_box rfl rfl rfl ?_
              | refine r_bsl rfl rfl rfl rfl rfl rfl ?_
              | refine r_bsl1 rfl (by assumption) rfl ?_
              | refine r_mkmap rfl ?_
              | refine r_mv_nil rfl ?_
              | refine r_mv_own rfl rfl ?_
              | refine r_mv_mp rfl rfl ?_
              | refine r_mv_row rfl rfl (by first | rfl | assumption | omega | (simp; done) | (simp; omega)) ?_
              | refine r_mv_rp rfl rfl (by first | rfl | assumption | omega | (simp; done) | (simp; omega)) ?_
              | refine r_fad_rp rfl rfl (by first | rfl | assumption | omega | (simp; done) | (simp; omega)) ?_
              | refine r_iad_row rfl rfl (by first | rfl | assumption | omega | (simp; done) | (simp; omega)) rfl (by first | rfl | assumption | omega | (simp; done) | (simp; omega)) ?_
              | refine r_skip0 rfl (by first | with_reducible rfl | assumption | decide) ?_
              | refine r_skipU0 rfl ?_
              | refine r_semF rfl rfl rfl rfl ?_
              | refine r_load_rp rfl rfl (by assumption) rfl ?_
              | refine r_len_row rfl rfl (by first | rfl | assumption | omega | (simp; done) | (simp; omega)) ?_
              | refine run_seq ?_
              | refine run_reg ?_
              | refine run_regd rfl ?_
              | refine run_block ?_
              | refine run_skip ?_
              | refine run_exit ?_
              | refine run_ret ?_
              | refine fin_seq ?_
              | refine fin_seq_e ?_
              | refine fin_seq_r ?_
              | refine fin_blk ?_
              | refine fin_blk_e ?_
              | refine fin_blk_x rfl ?_
              | refine fin_blk_r ?_
              | refine fin_loop_e ?_
              | refine fin_loop_r ?_
              | refine run_cond_t rfl (by first | with_reducible rfl | assumption | decide) ?_
              | refine run_cond_f rfl (by first | with_reducible rfl | assumption | decide) ?_)
            refine fin_loop (run_weak (weak_S ?_ ?_) (ih (i + 1) hlt (by omega)))
            · exact ⟨rfl, rfl, by rw [hstay hk]; rfl, rfl, rfl, trivial⟩
            · exact ⟨rfl, by rw [hstay hk]; rfl, trivial⟩
        | true =>
          cases hb4 : hasB u.name out with
          | true =>
            have hk : kstep out u = out := by unfold kstep; rw [hb4]; simp
            repeat (first
              | refine r_mv_p rfl ?_
              | refine r_do rfl (by first | with_reducible rfl | assumption | decide) ?_
              | refine r_skip rfl (by first | with_reducible rfl | assumption | decide) ?_
              | refine r_skipU rfl ?_
              | refine r_fad rfl rfl ?_
              | refine r_add rfl rfl (by omega) ?_
              | refine r_sub rfl rfl (by omega) ?_
              | refine r_loadAll rfl (by first | rfl | assumption) ?_
              | refine r_loadAllB rfl rfl (by first | rfl | assumption) ?_
              | refine r_pick_t rfl (by first | with_reducible rfl | assumption | decide) rfl rfl ?_
              | refine r_pick_f rfl (by first | with_reducible rfl | assumption | decide) rfl rfl ?_
              | refine r_sem rfl rfl rfl rfl ?_
              | refine r_nil ?_
              | refine r_iad rfl rfl (by omega) (by assumption) (by first | rfl | assumption | omega | (simp; done) | (simp; omega)) ?_
              | refine r_storeAll rfl rfl rfl rfl rfl rfl ?_
              | refine r_store rfl rfl rfl rfl (by decide) ?_
              | refine r_alloc rfl ?_
              | refine r_box rfl rfl rfl ?_
              | refine r_bsl rfl rfl rfl rfl rfl rfl ?_
              | refine r_bsl1 rfl (by assumption) rfl ?_
              | refine r_mkmap rfl ?_
              | refine r_mv_nil rfl ?_
              | refine r_mv_own rfl rfl ?_
              | refine r_mv_mp rfl rfl ?_
              | refine r_mv_row rfl rfl (by first | rfl | assumption | omega | (simp; done) | (simp; omega)) ?_
              | refine r_mv_rp rfl rfl (by first | rfl | assumption | omega | (simp; done) | (simp; omega)) ?_
              | refine r_fad_rp rfl rfl (by first | rfl | assumption | omega | (simp; done) | (simp; omega)) ?_
              | refine r_iad_row rfl rfl (by first | rfl | assumption | omega | (simp; done) | (simp; omega)) rfl (by first | rfl | assumption | omega | (simp; done) | (simp; omega)) ?_
              | refine r_skip0 rfl (by first | with_reducible rfl | assumption | decide) ?_
              | refine r_skipU0 rfl ?_
              | refine r_semF rfl rfl rfl rfl ?_
              | refine r_load_rp rfl rfl (by assumption) rfl ?_
              | refine r_len_row rfl rfl (by first | rfl | assumption | omega | (simp; done) | (simp; omega)) ?_
              | refine run_seq ?_
              | refine run_reg ?_
              | refine run_regd rfl ?_
              | refine run_block ?_
              | refine run_skip ?_
              | refine run_exit ?_
              | refine run_ret ?_
              | refine fin_seq ?_
              | refine fin_seq_e ?_
              | refine fin_seq_r ?_
              | refine fin_blk ?_
              | refine fin_blk_e ?_
              | refine fin_blk_x rfl ?_
              | refine fin_blk_r ?_
              | refine fin_loop_e ?_
              | refine fin_loop_r ?_
              | refine run_cond_t rfl (by first | with_reducible rfl | assumption | decide) ?_
              | refine run_cond_f rfl (by first | with_reducible rfl | assumption | decide) ?_)
            refine fin_loop (run_weak (weak_S ?_ ?_) (ih (i + 1) hlt (by omega)))
            · exact ⟨rfl, rfl, by rw [hstay hk]; rfl, rfl, rfl, trivial⟩
            · exact ⟨rfl, by rw [hstay hk]; rfl, trivial⟩
          | false =>
            have hk : kstep out u = out ++ [u] := by unfold kstep; rw [hb1, hb2, hb3, hb4]; rfl
            obtain ⟨hk1, hk2⟩ := hback hk
            repeat (first
              | refine r_appRow (fs := [34]) rfl rfl (by simp) rfl rfl rfl he hl (by decide) (Or.inl rfl) ?_
              | refine r_mv_p rfl ?_
              | refine r_do rfl (by first | with_reducible rfl | assumption | decide) ?_
              | refine r_skip rfl (by first | with_reducible rfl | assumption | decide) ?_
              | refine r_skipU rfl ?_
              | refine r_fad rfl rfl ?_
              | refine r_add rfl rfl (by omega) ?_
              | refine r_sub rfl rfl (by omega) ?_
              | refine r_loadAll rfl (by first | rfl | assumption) ?_
              | refine r_loadAllB rfl rfl (by first | rfl | assumption) ?_
              | refine r_pick_t rfl (by first | with_reducible rfl | assumption | decide) rfl rfl ?_
              | refine r_pick_f rfl (by first | with_reducible rfl | assumption | decide) rfl rfl ?_
              | refine r_sem rfl rfl rfl rfl ?_
              | refine r_nil ?_
              | refine r_iad rfl rfl (by omega) (by assumption) (by first | rfl | assumption | omega | (simp; done) | (simp; omega)) ?_
              | refine r_storeAll rfl rfl rfl rfl rfl rfl ?_
              | refine r_store rfl rfl rfl rfl (by decide) ?_
              | refine r_alloc rfl ?_
              | refine r_box rfl rfl rfl ?_
              | refine r_bsl rfl rfl rfl rfl rfl rfl ?_
              | refine r_bsl1 rfl (by assumption) rfl ?_
              | refine r_mkmap rfl ?_
              | refine r_mv_nil rfl ?_
              | refine r_mv_own rfl rfl ?_
              | refine r_mv_mp rfl rfl ?_
              | refine r_mv_row rfl rfl (by first | rfl | assumption | omega | (simp; done) | (simp; omega)) ?_
              | refine r_mv_rp rfl rfl (by first | rfl | assumption | omega | (simp; done) | (simp; omega)) ?_
              | refine r_fad_rp rfl rfl (by first | rfl | assumption | omega | (simp; done) | (simp; omega)) ?_
              | refine r_iad_row rfl rfl (by first | rfl | assumption | omega | (simp; done) | (simp; omega)) rfl (by first | rfl | assumption | omega | (simp; done) | (simp; omega)) ?_
              | refine r_skip0 rfl (by first | with_reducible rfl | assumption | decide) ?_
              | refine r_skipU0 rfl ?_
              | refine r_semF rfl rfl rfl rfl ?_
              | refine r_load_rp rfl rfl (by assumption) rfl ?_
              | refine r_len_row rfl rfl (by first | rfl | assumption | omega | (simp; done) | (simp; omega)) ?_
              | refine run_seq ?_
              | refine run_reg ?_
              | refine run_regd rfl ?_
              | refine run_block ?_
              | refine run_skip ?_
              | refine run_exit ?_
              | refine run_ret ?_
              | refine fin_seq ?_
              | refine fin_seq_e ?_
              | refine fin_seq_r ?_
              | refine fin_blk ?_
              | refine fin_blk_e ?_
              | refine fin_blk_x rfl ?_
              | refine fin_blk_r ?_
              | refine fin_loop_e ?_
              | refine fin_loop_r ?_
              | refine run_cond_t rfl (by first | with_reducible rfl | assumption | decide) ?_
              | refine run_cond_f rfl (by first | with_reducible rfl | assumption | decide) ?_)
            refine fin_loop (run_weak (weak_S ?_ ?_) (ih (i + 1) hlt (by omega)))
            · exact ⟨rfl, rfl, by rw [hk1]; rfl, rfl, rfl, trivial⟩
            · exact ⟨rfl, by rw [hk2]; rfl, trivial⟩
  · have hlt : i = 4 := by simp at h; omega
    have he : ∀ z ∈ [eachU.enc], z.length = 2 := by intro z hz; simp at hz; subst hz; rfl
    have hl : (((knownTo (x.us.take i)).map U.enc).length + [eachU.enc].length) * 24 ≤ 140737488355328 := by
      simp only [List.length_map, List.length_cons, List.length_nil]; omega
    have hE : (known x.us).map U.enc = (knownTo (x.us.take i)).map U.enc ++ [eachU.enc] := by rw [hlt]; simp [known, It.us]
    rw [hE]
    repeat (first
      | refine r_appRow (fs := [39]) rfl rfl (by simp) rfl rfl rfl he hl (by decide) (Or.inr rfl) ?_
      | refine r_mv_p rfl ?_
      | refine r_do rfl (by first | with_reducible rfl | assumption | decide) ?_
      | refine r_skip rfl (by first | with_reducible rfl | assumption | decide) ?_
      | refine r_skipU rfl ?_
      | refine r_fad rfl rfl ?_
      | refine r_add rfl rfl (by omega) ?_
      | refine r_sub rfl rfl (by omega) ?_
      | refine r_loadAll rfl (by first | rfl | assumption) ?_
      | refine r_loadAllB rfl rfl (by first | rfl | assumption) ?_
      | refine r_pick_t rfl (by first | with_reducible rfl | assumption | decide) rfl rfl ?_
      | refine r_pick_f rfl (by first | with_reducible rfl | assumption | decide) rfl rfl ?_
      | refine r_sem rfl rfl rfl rfl ?_
      | refine r_nil ?_
      | refine r_iad rfl rfl (by omega) (by assumption) (by first | rfl | assumption | omega | (simp; done) | (simp; omega)) ?_
      | refine r_storeAll rfl rfl rfl rfl rfl rfl ?_
      | refine r_store rfl rfl rfl rfl (by decide) ?_
      | refine r_alloc rfl ?_
      | refine r_box rfl rfl rfl ?_
      | refine r_bsl rfl rfl rfl rfl rfl rfl ?_
      | refine r_bsl1 rfl (by assumption) rfl ?_
      | refine r_mkmap rfl ?_
      | refine r_mv_nil rfl ?_
      | refine r_mv_own rfl rfl ?_
      | refine r_mv_mp rfl rfl ?_
      | refine r_mv_row rfl rfl (by first | rfl | assumption | omega | (simp; done) | (simp; omega)) ?_
      | refine r_mv_rp rfl rfl (by first | rfl | assumption | omega | (simp; done) | (simp; omega)) ?_
      | refine r_fad_rp rfl rfl (by first | rfl | assumption | omega | (simp; done) | (simp; omega)) ?_
      | refine r_iad_row rfl rfl (by first | rfl | assumption | omega | (simp; done) | (simp; omega)) rfl (by first | rfl | assumption | omega | (simp; done) | (simp; omega)) ?_
      | refine r_skip0 rfl (by first | with_reducible rfl | assumption | decide) ?_
      | refine r_skipU0 rfl ?_
      | refine r_semF rfl rfl rfl rfl ?_
      | refine r_load_rp rfl rfl (by assumption) rfl ?_
      | refine r_len_row rfl rfl (by first | rfl | assumption | omega | (simp; done) | (simp; omega)) ?_
      | refine run_seq ?_
      | refine run_reg ?_
      | refine run_regd rfl ?_
      | refine run_block ?_
      | refine run_skip ?_
      | refine run_exit ?_
      | refine run_ret ?_
      | refine fin_seq ?_
      | refine fin_seq_e ?_
      | refine fin_seq_r ?_
      | refine fin_blk ?_
      | refine fin_blk_e ?_
      | refine fin_blk_x rfl ?_
      | refine fin_blk_r ?_
      | refine fin_loop_e ?_
      | refine fin_loop_r ?_
      | refine run_cond_t rfl (by first | with_reducible rfl | assumption | decide) ?_
      | refine run_cond_f rfl (by first | with_reducible rfl | assumption | decide) ?_)
    exact fin_rowV rfl List.length_append.symm rfl rfl
end Go.Fw
