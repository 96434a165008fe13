/-
  How a house's tables find and put: items, lots, bins, zones.
-/
import Derived.Test.YtdmackpiohkanaaHK
import Derived.Test.YtdmackpiohkanaaIrC
import Derived.Test.YtdmackpiohkanaaTa1
import Derived.Test.YtdmackpiohkanaaTa2
import Derived.Test.YtdmackpiohkanaaTa3
import Derived.Test.YtdmackpiohkanaaTa4
set_option linter.unusedVariables false
set_option linter.unusedSimpArgs false
set_option maxRecDepth 10000
namespace Go.Fw
open Go.Proofs

theorem is165 {α : Type} (enc : α → List PV) (hen : ∀ x, (enc x).length = 8) (o : FuncId) (cmp : α → α → Int) (ho : ∀ a b, Ret Try.prog o [.agg (enc a), .agg (enc b)] (.v (.int .i64 (cmp a b)))) (x y : α) :
    Ret Try.prog 165 [.agg (enc y), .ref [.clo o []] 0, .ref (enc x) 0] (.v (.bool (decide (cmp y x = 0)))) := by
  refine ret165 rfl fun hbd => ?_
  have h1 := hen x
  have h2 := hen y
  unfold c165
  repeat (first
    | refine r_callv rfl (ho y x) ?_ | refine r_mv_p rfl ?_ | refine r_loadA rfl ?_ | refine r_loadB rfl rfl ?_ | refine r_sem rfl rfl rfl rfl ?_ | refine r_nil ?_
    | refine r_box rfl rfl rfl ?_ | refine run_seq ?_ | refine run_reg ?_ | refine run_ret ?_ | refine fin_seq ?_)
  exact fin_out rfl rfl
theorem indexFunc151 {α : Type} (enc : α → List PV) (hen : ∀ x, (enc x).length = 8) (f : FuncId) (caps : List PV) (q : α → Bool) (xs : List α) (sp : List (List PV)) (hq : ∀ x ∈ xs, Ret Try.prog f (.agg (enc x) :: caps) (.v (.bool (q x)))) :
    Ret Try.prog 151 [.sl (xs.map enc) sp, .clo f caps] (.v (.int .i64 (firstI q xs 0))) := by
  refine ret151 rfl fun hbd => ?_
  have hb : xs.length ≤ 9223372036854775807 := by
    have := hbd _ (List.mem_cons_self)
    simp only [PV.bd, PV.bd1, List.length_append, List.length_map, maxLen] at this
    omega
  unfold c151
  repeat (first
    | refine r_mv_p rfl ?_ | refine r_sem rfl rfl rfl rfl ?_ | refine r_nil ?_ | refine run_seq ?_ | refine run_reg ?_ | refine run_block ?_ | refine fin_seq ?_)
  refine run_weak (weak_S ?_ ?_) (run_inv (fun i : Nat => S [(0, .p (.sl (xs.map enc) sp)), (1, .p (.clo f caps)), (4, .p (.v (.int .i64 0))), (7, .p (.v (.int .i64 ((xs.map enc).length : Nat)))), (8, .p (.v (.int .i64 (i : Nat))))] [])
    (fun i => i ≤ xs.length ∧ firstI q xs 0 = firstI q (xs.drop i) i) (fun i => xs.length - i) ?_ 0 ⟨Nat.zero_le _, rfl⟩)
  · exact ⟨rfl, rfl, rfl, rfl, rfl, trivial⟩
  · trivial
  intro i hi ih
  obtain ⟨hi, hfst⟩ := hi
  repeat (first
    | refine r_sem rfl rfl rfl rfl ?_ | refine r_nil ?_ | refine run_seq ?_ | refine run_reg ?_ | refine fin_seq ?_)
  refine run_cond rfl (fun h => ?_) (fun h => ?_)
  · have hlt : i < xs.length := by simpa using h
    have hx : (xs.map enc)[i]? = some (enc xs[i]) := by simp [hlt]
    have hdrop : xs.drop i = xs[i] :: xs.drop (i + 1) := List.drop_eq_getElem_cons hlt
    have hen' := hen xs[i]
    repeat (first
      | refine r_callv rfl (hq xs[i] (by simp)) ?_ | refine r_mv_p rfl ?_ | refine r_loadA rfl ?_ | refine r_nil ?_ | refine r_iadA rfl rfl ?_ | refine run_seq ?_ | refine run_reg ?_
      | refine run_block ?_ | refine run_skip ?_ | refine fin_seq ?_)
    refine run_cond rfl (fun h2 => ?_) (fun h2 => ?_)
    · repeat (first
        | refine r_mv_p rfl ?_ | refine r_nil ?_ | refine run_seq ?_ | refine run_reg ?_ | refine run_ret ?_ | refine fin_seq ?_ | refine fin_seq_r ?_ | refine fin_blk_r ?_
        | refine fin_loop_r ?_)
      exact fin_out rfl (by rw [hfst, hdrop]; simp [firstI, h2])
    · repeat (first
        | refine r_mv_p rfl ?_ | refine r_addA rfl rfl ?_ | refine r_nil ?_ | refine run_reg ?_ | refine run_skip ?_ | refine fin_seq ?_ | refine fin_blk ?_)
      refine fin_loop (run_weak (weak_S ?_ ?_) (ih (i + 1) ⟨hlt, ?_⟩ (by omega)))
      · exact ⟨rfl, rfl, rfl, rfl, rfl, trivial⟩
      · trivial
      · rw [hfst, hdrop]; simp [firstI, h2]
  · have hlt : i = xs.length := by simp at h; omega
    repeat (first
      | refine r_mv_p rfl ?_ | refine r_nil ?_ | refine run_seq ?_ | refine run_reg ?_ | refine run_exit ?_ | refine run_ret ?_ | refine fin_seq ?_ | refine fin_seq_e ?_
      | refine fin_blk_e ?_ | refine fin_loop_e ?_)
    exact fin_out rfl (by rw [hfst, hlt]; simp [firstI])
theorem find129 {α : Type} (enc : α → List PV) (hen : ∀ x, (enc x).length = 8) (o : FuncId) (cmp : α → α → Int) (ho : ∀ a b, Ret Try.prog o [.agg (enc a), .agg (enc b)] (.v (.int .i64 (cmp a b)))) (x : α) (xs : List α) (sp : List (List PV)) :
    Ret Try.prog 129 [.agg [.clo o []], .sl (xs.map enc) sp, .agg (enc x)] (.tup [.v (.int .i64 (findI (fun y => decide (cmp y x = 0)) xs)), .v (.bool (findB (fun y => decide (cmp y x = 0)) xs))]) := by
  refine ret129 rfl fun hbd => ?_
  unfold c129
  repeat (first
    | refine r_call rfl (indexFunc151 enc hen 165 _ (fun y => decide (cmp y x = 0)) xs sp (fun y _ => is165 enc hen o cmp ho x y)) ?_ | refine r_mv_p rfl ?_
    | refine r_sem rfl rfl rfl rfl ?_ | refine r_nil ?_ | refine r_box rfl rfl rfl ?_ | refine r_semF rfl rfl rfl rfl ?_ | refine run_seq ?_ | refine run_reg ?_ | refine fin_seq ?_)
  refine run_cond rfl (fun h => ?_) (fun h => ?_)
  · repeat (first
      | refine r_mv_p rfl ?_ | refine r_nil ?_ | refine run_seq ?_ | refine run_reg ?_ | refine run_ret ?_ | refine fin_seq ?_ | refine fin_seq_r ?_)
    exact fin_out rfl (by simp at h; simp [findI, findB, h])
  · repeat (first
      | refine r_mv_p rfl ?_ | refine r_nil ?_ | refine run_seq ?_ | refine run_reg ?_ | refine run_skip ?_ | refine run_ret ?_ | refine fin_seq ?_)
    exact fin_out rfl (by simp at h; simp [findI, findB, Int.not_le.2 h])
theorem is175 {α : Type} (enc : α → List PV) (hen : ∀ x, (enc x).length = 2) (o : FuncId) (cmp : α → α → Int) (ho : ∀ a b, Ret Try.prog o [.agg (enc a), .agg (enc b)] (.v (.int .i64 (cmp a b)))) (x y : α) :
    Ret Try.prog 175 [.agg (enc y), .ref [.clo o []] 0, .ref (enc x) 0] (.v (.bool (decide (cmp y x = 0)))) := by
  refine ret175 rfl fun hbd => ?_
  have h1 := hen x
  have h2 := hen y
  unfold c175
  repeat (first
    | refine r_callv rfl (ho y x) ?_ | refine r_mv_p rfl ?_ | refine r_loadA rfl ?_ | refine r_loadB rfl rfl ?_ | refine r_sem rfl rfl rfl rfl ?_ | refine r_nil ?_
    | refine r_box rfl rfl rfl ?_ | refine run_seq ?_ | refine run_reg ?_ | refine run_ret ?_ | refine fin_seq ?_)
  exact fin_out rfl rfl
theorem indexFunc159 {α : Type} (enc : α → List PV) (hen : ∀ x, (enc x).length = 2) (f : FuncId) (caps : List PV) (q : α → Bool) (xs : List α) (sp : List (List PV)) (hq : ∀ x ∈ xs, Ret Try.prog f (.agg (enc x) :: caps) (.v (.bool (q x)))) :
    Ret Try.prog 159 [.sl (xs.map enc) sp, .clo f caps] (.v (.int .i64 (firstI q xs 0))) := by
  refine ret159 rfl fun hbd => ?_
  have hb : xs.length ≤ 9223372036854775807 := by
    have := hbd _ (List.mem_cons_self)
    simp only [PV.bd, PV.bd1, List.length_append, List.length_map, maxLen] at this
    omega
  unfold c159
  repeat (first
    | refine r_mv_p rfl ?_ | refine r_sem rfl rfl rfl rfl ?_ | refine r_nil ?_ | refine run_seq ?_ | refine run_reg ?_ | refine run_block ?_ | refine fin_seq ?_)
  refine run_weak (weak_S ?_ ?_) (run_inv (fun i : Nat => S [(0, .p (.sl (xs.map enc) sp)), (1, .p (.clo f caps)), (4, .p (.v (.int .i64 0))), (7, .p (.v (.int .i64 ((xs.map enc).length : Nat)))), (8, .p (.v (.int .i64 (i : Nat))))] [])
    (fun i => i ≤ xs.length ∧ firstI q xs 0 = firstI q (xs.drop i) i) (fun i => xs.length - i) ?_ 0 ⟨Nat.zero_le _, rfl⟩)
  · exact ⟨rfl, rfl, rfl, rfl, rfl, trivial⟩
  · trivial
  intro i hi ih
  obtain ⟨hi, hfst⟩ := hi
  repeat (first
    | refine r_sem rfl rfl rfl rfl ?_ | refine r_nil ?_ | refine run_seq ?_ | refine run_reg ?_ | refine fin_seq ?_)
  refine run_cond rfl (fun h => ?_) (fun h => ?_)
  · have hlt : i < xs.length := by simpa using h
    have hx : (xs.map enc)[i]? = some (enc xs[i]) := by simp [hlt]
    have hdrop : xs.drop i = xs[i] :: xs.drop (i + 1) := List.drop_eq_getElem_cons hlt
    have hen' := hen xs[i]
    repeat (first
      | refine r_callv rfl (hq xs[i] (by simp)) ?_ | refine r_mv_p rfl ?_ | refine r_loadA rfl ?_ | refine r_nil ?_ | refine r_iadA rfl rfl ?_ | refine run_seq ?_ | refine run_reg ?_
      | refine run_block ?_ | refine run_skip ?_ | refine fin_seq ?_)
    refine run_cond rfl (fun h2 => ?_) (fun h2 => ?_)
    · repeat (first
        | refine r_mv_p rfl ?_ | refine r_nil ?_ | refine run_seq ?_ | refine run_reg ?_ | refine run_ret ?_ | refine fin_seq ?_ | refine fin_seq_r ?_ | refine fin_blk_r ?_
        | refine fin_loop_r ?_)
      exact fin_out rfl (by rw [hfst, hdrop]; simp [firstI, h2])
    · repeat (first
        | refine r_mv_p rfl ?_ | refine r_addA rfl rfl ?_ | refine r_nil ?_ | refine run_reg ?_ | refine run_skip ?_ | refine fin_seq ?_ | refine fin_blk ?_)
      refine fin_loop (run_weak (weak_S ?_ ?_) (ih (i + 1) ⟨hlt, ?_⟩ (by omega)))
      · exact ⟨rfl, rfl, rfl, rfl, rfl, trivial⟩
      · trivial
      · rw [hfst, hdrop]; simp [firstI, h2]
  · have hlt : i = xs.length := by simp at h; omega
    repeat (first
      | refine r_mv_p rfl ?_ | refine r_nil ?_ | refine run_seq ?_ | refine run_reg ?_ | refine run_exit ?_ | refine run_ret ?_ | refine fin_seq ?_ | refine fin_seq_e ?_
      | refine fin_blk_e ?_ | refine fin_loop_e ?_)
    exact fin_out rfl (by rw [hfst, hlt]; simp [firstI])
theorem find156 {α : Type} (enc : α → List PV) (hen : ∀ x, (enc x).length = 2) (o : FuncId) (cmp : α → α → Int) (ho : ∀ a b, Ret Try.prog o [.agg (enc a), .agg (enc b)] (.v (.int .i64 (cmp a b)))) (x : α) (xs : List α) (sp : List (List PV)) :
    Ret Try.prog 156 [.agg [.clo o []], .sl (xs.map enc) sp, .agg (enc x)] (.tup [.v (.int .i64 (findI (fun y => decide (cmp y x = 0)) xs)), .v (.bool (findB (fun y => decide (cmp y x = 0)) xs))]) := by
  refine ret156 rfl fun hbd => ?_
  unfold c156
  repeat (first
    | refine r_call rfl (indexFunc159 enc hen 175 _ (fun y => decide (cmp y x = 0)) xs sp (fun y _ => is175 enc hen o cmp ho x y)) ?_ | refine r_mv_p rfl ?_
    | refine r_sem rfl rfl rfl rfl ?_ | refine r_nil ?_ | refine r_box rfl rfl rfl ?_ | refine r_semF rfl rfl rfl rfl ?_ | refine run_seq ?_ | refine run_reg ?_ | refine fin_seq ?_)
  refine run_cond rfl (fun h => ?_) (fun h => ?_)
  · repeat (first
      | refine r_mv_p rfl ?_ | refine r_nil ?_ | refine run_seq ?_ | refine run_reg ?_ | refine run_ret ?_ | refine fin_seq ?_ | refine fin_seq_r ?_)
    exact fin_out rfl (by simp at h; simp [findI, findB, h])
  · repeat (first
      | refine r_mv_p rfl ?_ | refine r_nil ?_ | refine run_seq ?_ | refine run_reg ?_ | refine run_skip ?_ | refine run_ret ?_ | refine fin_seq ?_)
    exact fin_out rfl (by simp at h; simp [findI, findB, Int.not_le.2 h])
theorem gt135 {α : Type} (enc : α → List PV) (hen : ∀ x, (enc x).length = 14) (o : FuncId) (cmp : α → α → Int) (ho : ∀ a b, Ret Try.prog o [.agg (enc a), .agg (enc b)] (.v (.int .i64 (cmp a b)))) (x y : α) :
    Ret Try.prog 135 [.agg (enc y), .ref [.clo o []] 0, .ref (enc x) 0] (.v (.bool (gtQ cmp x y))) := by
  refine ret135 rfl fun hbd => ?_
  have h1 := hen x
  have h2 := hen y
  unfold c135
  repeat (first
    | refine r_callv rfl (ho y x) ?_ | refine r_mv_p rfl ?_ | refine r_loadA rfl ?_ | refine r_loadB rfl rfl ?_ | refine r_sem rfl rfl rfl rfl ?_ | refine r_nil ?_
    | refine r_box rfl rfl rfl ?_ | refine run_seq ?_ | refine run_reg ?_ | refine run_ret ?_ | refine fin_seq ?_)
  exact fin_out rfl rfl
theorem put89 {α : Type} (enc : α → List PV) (hen : ∀ x, (enc x).length = 14) (o : FuncId) (cmp : α → α → Int) (ho : ∀ a b, Ret Try.prog o [.agg (enc a), .agg (enc b)] (.v (.int .i64 (cmp a b)))) (x : α) (xs : List α) (sp : List (List PV)) (hbig : (xs.length + 1) * 136 ≤ 140737488355328) :
    Ret Try.prog 89 [.agg [.clo o []], .sl (xs.map enc) sp, .agg (enc x)] (.sl ((putL cmp x xs).map enc) []) := by
  refine RetN.ret (ty := 46) (es := 14) ?_
  refine row89 rfl fun hbd => ?_
  have hx := hen x
  have hxs : ∀ z ∈ xs.map enc, z.length = 14 := by intro z hz; obtain ⟨y, _, rfl⟩ := List.mem_map.1 hz; exact hen y
  unfold c89
  have hb1 : (xs.map enc).length * 136 ≤ 140737488355328 := by rw [List.length_map]; omega
  repeat (first
    | refine r_calln (fs := []) rfl rfl rfl (clone133 (xs.map enc) sp hxs hb1) rfl ?_ | refine r_call rfl (find91 enc hen o cmp ho x xs sp) ?_ | refine r_mv_p rfl ?_
    | refine r_loadB rfl rfl ?_ | refine r_sem rfl rfl rfl rfl ?_ | refine r_nil ?_ | refine r_box rfl rfl rfl ?_ | refine r_mv_nil rfl ?_ | refine r_mv_rowA rfl rfl ?_
    | refine run_seq ?_ | refine run_reg ?_ | refine fin_seq ?_)
  refine run_cond rfl (fun h => ?_) (fun h => ?_)
  · obtain ⟨k, hk, hlt⟩ := findB_lt h
    have hL : putL cmp x xs = xs.set k x := by
      have h' : findB (eqQ cmp x) xs = true := h
      have hk' : findI (eqQ cmp x) xs = k := hk
      rw [putL, if_pos h', hk']; rfl
    rw [hk, hL]
    have hlt' : k < (xs.map enc).length := by simpa using hlt
    have hi : (xs.map enc)[k]? = some (enc xs[k]) := by simp [hlt]
    have hlx := hen xs[k]
    repeat (first
      | refine r_store_rp rfl rfl hi rfl rfl (And.intro hx (by omega)) ?_ | refine r_mv_p rfl ?_ | refine r_loadB rfl rfl ?_ | refine r_nil ?_ | refine r_mv_rowA rfl rfl ?_
      | refine r_iad_row rfl rfl (by first | rfl | assumption | omega | (simp; done) | (simp; omega)) rfl (by first | rfl | assumption | omega | (simp; done) | (simp; omega)) ?_
      | refine run_seq ?_ | refine run_reg ?_ | refine run_ret ?_ | refine fin_seq ?_ | refine fin_seq_r ?_)
    refine fin_row rfl (by simp) rfl ?_
    rw [show splice (enc xs[k]) 0 (enc x) = enc x by simp [splice, hlx, hx], List.map_set]
    rfl
  · have h' : ¬ findB (eqQ cmp x) xs = true := by rw [show findB (eqQ cmp x) xs = false from h]; exact Bool.false_ne_true
    have hL : putL cmp x xs = xs.take (putI (gtQ cmp x) xs).toNat ++ x :: xs.drop (putI (gtQ cmp x) xs).toNat := by rw [putL, if_neg h']
    obtain ⟨k, hk, hle⟩ := putI_le (gtQ cmp x) xs
    have hE : (putL cmp x xs).map enc = (xs.map enc).take k ++ enc x :: (xs.map enc).drop k := by rw [hL, hk]; simp
    have hins : ∀ a : Int, a = k → RetI Try.prog 136 46 14 (xs.map enc) [.v (.int .i64 a), .sl [enc x] []] ((xs.map enc).take k ++ enc x :: (xs.map enc).drop k) := fun a ha => insert136 (xs.map enc) (enc x) [] k a ha (by simpa using hle) hx (by simpa using hbig)
    rw [hE]
    repeat (first
      | refine r_callF rfl rfl rfl (indexFunc134 enc hen 135 _ (gtQ cmp x) xs sp (fun y _ => gt135 enc hen o cmp ho x y)) ?_ | refine r_mv_p rfl ?_ | refine r_sem rfl rfl rfl rfl ?_
      | refine r_nil ?_ | refine r_semF rfl rfl rfl rfl ?_ | refine run_seq ?_ | refine run_reg ?_ | refine run_skip ?_ | refine fin_seq ?_)
    refine run_cond rfl (fun h2 => ?_) (fun h2 => ?_)
    · have hk2 : (((xs.map enc).length : Nat) : Int) = k := by
        simp at h2
        rw [List.length_map, ← hk, putI, if_pos h2]
      repeat (first
        | refine r_calli (fs := [36]) rfl rfl rfl rfl rfl rfl (hins _ hk2) (by decide) (Or.inr rfl) ?_ | refine r_mv_p rfl ?_ | refine r_loadB rfl rfl ?_ | refine r_sem rfl rfl rfl rfl ?_
        | refine r_nil ?_ | refine r_bsl1 rfl (by assumption) rfl ?_ | refine r_mv_rowA rfl rfl ?_ | refine run_seq ?_ | refine run_reg ?_ | refine run_ret ?_ | refine fin_seq ?_)
      exact fin_row (by rfl) (by rfl) (by rfl) (by rfl)
    · have hk2 : firstI (gtQ cmp x) xs 0 = k := by
        simp at h2
        rw [← hk, putI, if_neg (by omega)]
      repeat (first
        | refine r_calli (fs := [36]) rfl rfl rfl rfl rfl rfl (hins _ hk2) (by decide) (Or.inr rfl) ?_ | refine r_mv_p rfl ?_ | refine r_loadB rfl rfl ?_ | refine r_nil ?_
        | refine r_bsl1 rfl (by assumption) rfl ?_ | refine r_mv_rowA rfl rfl ?_ | refine run_seq ?_ | refine run_reg ?_ | refine run_skip ?_ | refine run_ret ?_ | refine fin_seq ?_)
      exact fin_row (by rfl) (by rfl) (by rfl) (by rfl)
theorem gt144 {α : Type} (enc : α → List PV) (hen : ∀ x, (enc x).length = 3) (o : FuncId) (cmp : α → α → Int) (ho : ∀ a b, Ret Try.prog o [.agg (enc a), .agg (enc b)] (.v (.int .i64 (cmp a b)))) (x y : α) :
    Ret Try.prog 144 [.agg (enc y), .ref [.clo o []] 0, .ref (enc x) 0] (.v (.bool (gtQ cmp x y))) := by
  refine ret144 rfl fun hbd => ?_
  have h1 := hen x
  have h2 := hen y
  unfold c144
  repeat (first
    | refine r_callv rfl (ho y x) ?_ | refine r_mv_p rfl ?_ | refine r_loadA rfl ?_ | refine r_loadB rfl rfl ?_ | refine r_sem rfl rfl rfl rfl ?_ | refine r_nil ?_
    | refine r_box rfl rfl rfl ?_ | refine run_seq ?_ | refine run_reg ?_ | refine run_ret ?_ | refine fin_seq ?_)
  exact fin_out rfl rfl
theorem put112 {α : Type} (enc : α → List PV) (hen : ∀ x, (enc x).length = 3) (o : FuncId) (cmp : α → α → Int) (ho : ∀ a b, Ret Try.prog o [.agg (enc a), .agg (enc b)] (.v (.int .i64 (cmp a b)))) (x : α) (xs : List α) (sp : List (List PV)) (hbig : (xs.length + 1) * 40 ≤ 140737488355328) :
    Ret Try.prog 112 [.agg [.clo o []], .sl (xs.map enc) sp, .agg (enc x)] (.sl ((putL cmp x xs).map enc) []) := by
  refine RetN.ret (ty := 54) (es := 3) ?_
  refine row112 rfl fun hbd => ?_
  have hx := hen x
  have hxs : ∀ z ∈ xs.map enc, z.length = 3 := by intro z hz; obtain ⟨y, _, rfl⟩ := List.mem_map.1 hz; exact hen y
  unfold c112
  have hb1 : (xs.map enc).length * 40 ≤ 140737488355328 := by rw [List.length_map]; omega
  repeat (first
    | refine r_calln (fs := []) rfl rfl rfl (clone142 (xs.map enc) sp hxs hb1) rfl ?_ | refine r_call rfl (find130 enc hen o cmp ho x xs sp) ?_ | refine r_mv_p rfl ?_
    | refine r_loadB rfl rfl ?_ | refine r_sem rfl rfl rfl rfl ?_ | refine r_nil ?_ | refine r_box rfl rfl rfl ?_ | refine r_mv_nil rfl ?_ | refine r_mv_rowA rfl rfl ?_
    | refine run_seq ?_ | refine run_reg ?_ | refine fin_seq ?_)
  refine run_cond rfl (fun h => ?_) (fun h => ?_)
  · obtain ⟨k, hk, hlt⟩ := findB_lt h
    have hL : putL cmp x xs = xs.set k x := by
      have h' : findB (eqQ cmp x) xs = true := h
      have hk' : findI (eqQ cmp x) xs = k := hk
      rw [putL, if_pos h', hk']; rfl
    rw [hk, hL]
    have hlt' : k < (xs.map enc).length := by simpa using hlt
    have hi : (xs.map enc)[k]? = some (enc xs[k]) := by simp [hlt]
    have hlx := hen xs[k]
    repeat (first
      | refine r_store_rp rfl rfl hi rfl rfl (And.intro hx (by omega)) ?_ | refine r_mv_p rfl ?_ | refine r_loadB rfl rfl ?_ | refine r_nil ?_ | refine r_mv_rowA rfl rfl ?_
      | refine r_iad_row rfl rfl (by first | rfl | assumption | omega | (simp; done) | (simp; omega)) rfl (by first | rfl | assumption | omega | (simp; done) | (simp; omega)) ?_
      | refine run_seq ?_ | refine run_reg ?_ | refine run_ret ?_ | refine fin_seq ?_ | refine fin_seq_r ?_)
    refine fin_row rfl (by simp) rfl ?_
    rw [show splice (enc xs[k]) 0 (enc x) = enc x by simp [splice, hlx, hx], List.map_set]
    rfl
  · have h' : ¬ findB (eqQ cmp x) xs = true := by rw [show findB (eqQ cmp x) xs = false from h]; exact Bool.false_ne_true
    have hL : putL cmp x xs = xs.take (putI (gtQ cmp x) xs).toNat ++ x :: xs.drop (putI (gtQ cmp x) xs).toNat := by rw [putL, if_neg h']
    obtain ⟨k, hk, hle⟩ := putI_le (gtQ cmp x) xs
    have hE : (putL cmp x xs).map enc = (xs.map enc).take k ++ enc x :: (xs.map enc).drop k := by rw [hL, hk]; simp
    have hins : ∀ a : Int, a = k → RetI Try.prog 145 54 3 (xs.map enc) [.v (.int .i64 a), .sl [enc x] []] ((xs.map enc).take k ++ enc x :: (xs.map enc).drop k) := fun a ha => insert145 (xs.map enc) (enc x) [] k a ha (by simpa using hle) hx (by simpa using hbig)
    rw [hE]
    repeat (first
      | refine r_callF rfl rfl rfl (indexFunc143 enc hen 144 _ (gtQ cmp x) xs sp (fun y _ => gt144 enc hen o cmp ho x y)) ?_ | refine r_mv_p rfl ?_ | refine r_sem rfl rfl rfl rfl ?_
      | refine r_nil ?_ | refine r_semF rfl rfl rfl rfl ?_ | refine run_seq ?_ | refine run_reg ?_ | refine run_skip ?_ | refine fin_seq ?_)
    refine run_cond rfl (fun h2 => ?_) (fun h2 => ?_)
    · have hk2 : (((xs.map enc).length : Nat) : Int) = k := by
        simp at h2
        rw [List.length_map, ← hk, putI, if_pos h2]
      repeat (first
        | refine r_calli (fs := [36]) rfl rfl rfl rfl rfl rfl (hins _ hk2) (by decide) (Or.inr rfl) ?_ | refine r_mv_p rfl ?_ | refine r_loadB rfl rfl ?_ | refine r_sem rfl rfl rfl rfl ?_
        | refine r_nil ?_ | refine r_bsl1 rfl (by assumption) rfl ?_ | refine r_mv_rowA rfl rfl ?_ | refine run_seq ?_ | refine run_reg ?_ | refine run_ret ?_ | refine fin_seq ?_)
      exact fin_row (by rfl) (by rfl) (by rfl) (by rfl)
    · have hk2 : firstI (gtQ cmp x) xs 0 = k := by
        simp at h2
        rw [← hk, putI, if_neg (by omega)]
      repeat (first
        | refine r_calli (fs := [36]) rfl rfl rfl rfl rfl rfl (hins _ hk2) (by decide) (Or.inr rfl) ?_ | refine r_mv_p rfl ?_ | refine r_loadB rfl rfl ?_ | refine r_nil ?_
        | refine r_bsl1 rfl (by assumption) rfl ?_ | refine r_mv_rowA rfl rfl ?_ | refine run_seq ?_ | refine run_reg ?_ | refine run_skip ?_ | refine run_ret ?_ | refine fin_seq ?_)
      exact fin_row (by rfl) (by rfl) (by rfl) (by rfl)
theorem gt152 {α : Type} (enc : α → List PV) (hen : ∀ x, (enc x).length = 8) (o : FuncId) (cmp : α → α → Int) (ho : ∀ a b, Ret Try.prog o [.agg (enc a), .agg (enc b)] (.v (.int .i64 (cmp a b)))) (x y : α) :
    Ret Try.prog 152 [.agg (enc y), .ref [.clo o []] 0, .ref (enc x) 0] (.v (.bool (gtQ cmp x y))) := by
  refine ret152 rfl fun hbd => ?_
  have h1 := hen x
  have h2 := hen y
  unfold c152
  repeat (first
    | refine r_callv rfl (ho y x) ?_ | refine r_mv_p rfl ?_ | refine r_loadA rfl ?_ | refine r_loadB rfl rfl ?_ | refine r_sem rfl rfl rfl rfl ?_ | refine r_nil ?_
    | refine r_box rfl rfl rfl ?_ | refine run_seq ?_ | refine run_reg ?_ | refine run_ret ?_ | refine fin_seq ?_)
  exact fin_out rfl rfl
theorem put122 {α : Type} (enc : α → List PV) (hen : ∀ x, (enc x).length = 8) (o : FuncId) (cmp : α → α → Int) (ho : ∀ a b, Ret Try.prog o [.agg (enc a), .agg (enc b)] (.v (.int .i64 (cmp a b)))) (x : α) (xs : List α) (sp : List (List PV)) (hbig : (xs.length + 1) * 80 ≤ 140737488355328) :
    Ret Try.prog 122 [.agg [.clo o []], .sl (xs.map enc) sp, .agg (enc x)] (.sl ((putL cmp x xs).map enc) []) := by
  refine RetN.ret (ty := 82) (es := 8) ?_
  refine row122 rfl fun hbd => ?_
  have hx := hen x
  have hxs : ∀ z ∈ xs.map enc, z.length = 8 := by intro z hz; obtain ⟨y, _, rfl⟩ := List.mem_map.1 hz; exact hen y
  unfold c122
  have hb1 : (xs.map enc).length * 80 ≤ 140737488355328 := by rw [List.length_map]; omega
  repeat (first
    | refine r_calln (fs := []) rfl rfl rfl (clone150 (xs.map enc) sp hxs hb1) rfl ?_ | refine r_call rfl (find129 enc hen o cmp ho x xs sp) ?_ | refine r_mv_p rfl ?_
    | refine r_loadB rfl rfl ?_ | refine r_sem rfl rfl rfl rfl ?_ | refine r_nil ?_ | refine r_box rfl rfl rfl ?_ | refine r_mv_nil rfl ?_ | refine r_mv_rowA rfl rfl ?_
    | refine run_seq ?_ | refine run_reg ?_ | refine fin_seq ?_)
  refine run_cond rfl (fun h => ?_) (fun h => ?_)
  · obtain ⟨k, hk, hlt⟩ := findB_lt h
    have hL : putL cmp x xs = xs.set k x := by
      have h' : findB (eqQ cmp x) xs = true := h
      have hk' : findI (eqQ cmp x) xs = k := hk
      rw [putL, if_pos h', hk']; rfl
    rw [hk, hL]
    have hlt' : k < (xs.map enc).length := by simpa using hlt
    have hi : (xs.map enc)[k]? = some (enc xs[k]) := by simp [hlt]
    have hlx := hen xs[k]
    repeat (first
      | refine r_store_rp rfl rfl hi rfl rfl (And.intro hx (by omega)) ?_ | refine r_mv_p rfl ?_ | refine r_loadB rfl rfl ?_ | refine r_nil ?_ | refine r_mv_rowA rfl rfl ?_
      | refine r_iad_row rfl rfl (by first | rfl | assumption | omega | (simp; done) | (simp; omega)) rfl (by first | rfl | assumption | omega | (simp; done) | (simp; omega)) ?_
      | refine run_seq ?_ | refine run_reg ?_ | refine run_ret ?_ | refine fin_seq ?_ | refine fin_seq_r ?_)
    refine fin_row rfl (by simp) rfl ?_
    rw [show splice (enc xs[k]) 0 (enc x) = enc x by simp [splice, hlx, hx], List.map_set]
    rfl
  · have h' : ¬ findB (eqQ cmp x) xs = true := by rw [show findB (eqQ cmp x) xs = false from h]; exact Bool.false_ne_true
    have hL : putL cmp x xs = xs.take (putI (gtQ cmp x) xs).toNat ++ x :: xs.drop (putI (gtQ cmp x) xs).toNat := by rw [putL, if_neg h']
    obtain ⟨k, hk, hle⟩ := putI_le (gtQ cmp x) xs
    have hE : (putL cmp x xs).map enc = (xs.map enc).take k ++ enc x :: (xs.map enc).drop k := by rw [hL, hk]; simp
    have hins : ∀ a : Int, a = k → RetI Try.prog 153 82 8 (xs.map enc) [.v (.int .i64 a), .sl [enc x] []] ((xs.map enc).take k ++ enc x :: (xs.map enc).drop k) := fun a ha => insert153 (xs.map enc) (enc x) [] k a ha (by simpa using hle) hx (by simpa using hbig)
    rw [hE]
    repeat (first
      | refine r_callF rfl rfl rfl (indexFunc151 enc hen 152 _ (gtQ cmp x) xs sp (fun y _ => gt152 enc hen o cmp ho x y)) ?_ | refine r_mv_p rfl ?_ | refine r_sem rfl rfl rfl rfl ?_
      | refine r_nil ?_ | refine r_semF rfl rfl rfl rfl ?_ | refine run_seq ?_ | refine run_reg ?_ | refine run_skip ?_ | refine fin_seq ?_)
    refine run_cond rfl (fun h2 => ?_) (fun h2 => ?_)
    · have hk2 : (((xs.map enc).length : Nat) : Int) = k := by
        simp at h2
        rw [List.length_map, ← hk, putI, if_pos h2]
      repeat (first
        | refine r_calli (fs := [36]) rfl rfl rfl rfl rfl rfl (hins _ hk2) (by decide) (Or.inr rfl) ?_ | refine r_mv_p rfl ?_ | refine r_loadB rfl rfl ?_ | refine r_sem rfl rfl rfl rfl ?_
        | refine r_nil ?_ | refine r_bsl1 rfl (by assumption) rfl ?_ | refine r_mv_rowA rfl rfl ?_ | refine run_seq ?_ | refine run_reg ?_ | refine run_ret ?_ | refine fin_seq ?_)
      exact fin_row (by rfl) (by rfl) (by rfl) (by rfl)
    · have hk2 : firstI (gtQ cmp x) xs 0 = k := by
        simp at h2
        rw [← hk, putI, if_neg (by omega)]
      repeat (first
        | refine r_calli (fs := [36]) rfl rfl rfl rfl rfl rfl (hins _ hk2) (by decide) (Or.inr rfl) ?_ | refine r_mv_p rfl ?_ | refine r_loadB rfl rfl ?_ | refine r_nil ?_
        | refine r_bsl1 rfl (by assumption) rfl ?_ | refine r_mv_rowA rfl rfl ?_ | refine run_seq ?_ | refine run_reg ?_ | refine run_skip ?_ | refine run_ret ?_ | refine fin_seq ?_)
      exact fin_row (by rfl) (by rfl) (by rfl) (by rfl)
theorem gt160 {α : Type} (enc : α → List PV) (hen : ∀ x, (enc x).length = 2) (o : FuncId) (cmp : α → α → Int) (ho : ∀ a b, Ret Try.prog o [.agg (enc a), .agg (enc b)] (.v (.int .i64 (cmp a b)))) (x y : α) :
    Ret Try.prog 160 [.agg (enc y), .ref [.clo o []] 0, .ref (enc x) 0] (.v (.bool (gtQ cmp x y))) := by
  refine ret160 rfl fun hbd => ?_
  have h1 := hen x
  have h2 := hen y
  unfold c160
  repeat (first
    | refine r_callv rfl (ho y x) ?_ | refine r_mv_p rfl ?_ | refine r_loadA rfl ?_ | refine r_loadB rfl rfl ?_ | refine r_sem rfl rfl rfl rfl ?_ | refine r_nil ?_
    | refine r_box rfl rfl rfl ?_ | refine run_seq ?_ | refine run_reg ?_ | refine run_ret ?_ | refine fin_seq ?_)
  exact fin_out rfl rfl
theorem put126 {α : Type} (enc : α → List PV) (hen : ∀ x, (enc x).length = 2) (o : FuncId) (cmp : α → α → Int) (ho : ∀ a b, Ret Try.prog o [.agg (enc a), .agg (enc b)] (.v (.int .i64 (cmp a b)))) (x : α) (xs : List α) (sp : List (List PV)) (hbig : (xs.length + 1) * 32 ≤ 140737488355328) :
    Ret Try.prog 126 [.agg [.clo o []], .sl (xs.map enc) sp, .agg (enc x)] (.sl ((putL cmp x xs).map enc) []) := by
  refine RetN.ret (ty := 84) (es := 2) ?_
  refine row126 rfl fun hbd => ?_
  have hx := hen x
  have hxs : ∀ z ∈ xs.map enc, z.length = 2 := by intro z hz; obtain ⟨y, _, rfl⟩ := List.mem_map.1 hz; exact hen y
  unfold c126
  have hb1 : (xs.map enc).length * 32 ≤ 140737488355328 := by rw [List.length_map]; omega
  repeat (first
    | refine r_calln (fs := []) rfl rfl rfl (clone158 (xs.map enc) sp hxs hb1) rfl ?_ | refine r_call rfl (find156 enc hen o cmp ho x xs sp) ?_ | refine r_mv_p rfl ?_
    | refine r_loadB rfl rfl ?_ | refine r_sem rfl rfl rfl rfl ?_ | refine r_nil ?_ | refine r_box rfl rfl rfl ?_ | refine r_mv_nil rfl ?_ | refine r_mv_rowA rfl rfl ?_
    | refine run_seq ?_ | refine run_reg ?_ | refine fin_seq ?_)
  refine run_cond rfl (fun h => ?_) (fun h => ?_)
  · obtain ⟨k, hk, hlt⟩ := findB_lt h
    have hL : putL cmp x xs = xs.set k x := by
      have h' : findB (eqQ cmp x) xs = true := h
      have hk' : findI (eqQ cmp x) xs = k := hk
      rw [putL, if_pos h', hk']; rfl
    rw [hk, hL]
    have hlt' : k < (xs.map enc).length := by simpa using hlt
    have hi : (xs.map enc)[k]? = some (enc xs[k]) := by simp [hlt]
    have hlx := hen xs[k]
    repeat (first
      | refine r_store_rp rfl rfl hi rfl rfl (And.intro hx (by omega)) ?_ | refine r_mv_p rfl ?_ | refine r_loadB rfl rfl ?_ | refine r_nil ?_ | refine r_mv_rowA rfl rfl ?_
      | refine r_iad_row rfl rfl (by first | rfl | assumption | omega | (simp; done) | (simp; omega)) rfl (by first | rfl | assumption | omega | (simp; done) | (simp; omega)) ?_
      | refine run_seq ?_ | refine run_reg ?_ | refine run_ret ?_ | refine fin_seq ?_ | refine fin_seq_r ?_)
    refine fin_row rfl (by simp) rfl ?_
    rw [show splice (enc xs[k]) 0 (enc x) = enc x by simp [splice, hlx, hx], List.map_set]
    rfl
  · have h' : ¬ findB (eqQ cmp x) xs = true := by rw [show findB (eqQ cmp x) xs = false from h]; exact Bool.false_ne_true
    have hL : putL cmp x xs = xs.take (putI (gtQ cmp x) xs).toNat ++ x :: xs.drop (putI (gtQ cmp x) xs).toNat := by rw [putL, if_neg h']
    obtain ⟨k, hk, hle⟩ := putI_le (gtQ cmp x) xs
    have hE : (putL cmp x xs).map enc = (xs.map enc).take k ++ enc x :: (xs.map enc).drop k := by rw [hL, hk]; simp
    have hins : ∀ a : Int, a = k → RetI Try.prog 161 84 2 (xs.map enc) [.v (.int .i64 a), .sl [enc x] []] ((xs.map enc).take k ++ enc x :: (xs.map enc).drop k) := fun a ha => insert161 (xs.map enc) (enc x) [] k a ha (by simpa using hle) hx (by simpa using hbig)
    rw [hE]
    repeat (first
      | refine r_callF rfl rfl rfl (indexFunc159 enc hen 160 _ (gtQ cmp x) xs sp (fun y _ => gt160 enc hen o cmp ho x y)) ?_ | refine r_mv_p rfl ?_ | refine r_sem rfl rfl rfl rfl ?_
      | refine r_nil ?_ | refine r_semF rfl rfl rfl rfl ?_ | refine run_seq ?_ | refine run_reg ?_ | refine run_skip ?_ | refine fin_seq ?_)
    refine run_cond rfl (fun h2 => ?_) (fun h2 => ?_)
    · have hk2 : (((xs.map enc).length : Nat) : Int) = k := by
        simp at h2
        rw [List.length_map, ← hk, putI, if_pos h2]
      repeat (first
        | refine r_calli (fs := [36]) rfl rfl rfl rfl rfl rfl (hins _ hk2) (by decide) (Or.inr rfl) ?_ | refine r_mv_p rfl ?_ | refine r_loadB rfl rfl ?_ | refine r_sem rfl rfl rfl rfl ?_
        | refine r_nil ?_ | refine r_bsl1 rfl (by assumption) rfl ?_ | refine r_mv_rowA rfl rfl ?_ | refine run_seq ?_ | refine run_reg ?_ | refine run_ret ?_ | refine fin_seq ?_)
      exact fin_row (by rfl) (by rfl) (by rfl) (by rfl)
    · have hk2 : firstI (gtQ cmp x) xs 0 = k := by
        simp at h2
        rw [← hk, putI, if_neg (by omega)]
      repeat (first
        | refine r_calli (fs := [36]) rfl rfl rfl rfl rfl rfl (hins _ hk2) (by decide) (Or.inr rfl) ?_ | refine r_mv_p rfl ?_ | refine r_loadB rfl rfl ?_ | refine r_nil ?_
        | refine r_bsl1 rfl (by assumption) rfl ?_ | refine r_mv_rowA rfl rfl ?_ | refine run_seq ?_ | refine run_reg ?_ | refine run_skip ?_ | refine run_ret ?_ | refine fin_seq ?_)
      exact fin_row (by rfl) (by rfl) (by rfl) (by rfl)
end Go.Fw
