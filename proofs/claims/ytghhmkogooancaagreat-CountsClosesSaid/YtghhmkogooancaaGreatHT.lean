/-
  How a house's tables find, put and drop: bins, what was counted, quants, totals.
-/
import Derived.Test.YtghhmkogooancaaGreatHK
import Derived.Test.YtghhmkogooancaaGreatIrC
import Derived.Test.YtghhmkogooancaaGreatTa1
import Derived.Test.YtghhmkogooancaaGreatTa2
import Derived.Test.YtghhmkogooancaaGreatTa3
import Derived.Test.YtghhmkogooancaaGreatTa4
set_option linter.unusedVariables false
set_option linter.unusedSimpArgs false
set_option maxRecDepth 10000
namespace Go.Fw
open Go.Proofs

def dropL {α : Type} (cmp : α → α → Int) (x : α) (xs : List α) : List α :=
  if findB (eqQ cmp x) xs = true then xs.take (findI (eqQ cmp x) xs).toNat ++ xs.drop ((findI (eqQ cmp x) xs).toNat + 1) else xs
theorem is145 {α : Type} (enc : α → List PV) (hen : ∀ x, (enc x).length = 8) (o : FuncId) (cmp : α → α → Int) (ho : ∀ a b, Ret Tryz.prog o [.agg (enc a), .agg (enc b)] (.v (.int .i64 (cmp a b)))) (x y : α) :
    Ret Tryz.prog 145 [.agg (enc y), .ref [.clo o []] 0, .ref (enc x) 0] (.v (.bool (decide (cmp y x = 0)))) := by
  refine ret145 rfl fun hbd => ?_
  have h1 := hen x
  have h2 := hen y
  unfold c145
  repeat (first
    | refine r_callv rfl (ho y x) ?_ | refine r_mv_p rfl ?_ | refine r_loadA rfl ?_ | refine r_loadB rfl rfl ?_ | refine r_sem rfl rfl rfl rfl ?_ | refine r_nil ?_
    | refine r_box rfl rfl rfl ?_ | refine run_seq ?_ | refine run_reg ?_ | refine run_ret ?_ | refine fin_seq ?_)
  exact fin_out rfl rfl
theorem indexFunc144 {α : Type} (enc : α → List PV) (hen : ∀ x, (enc x).length = 8) (f : FuncId) (caps : List PV) (q : α → Bool) (xs : List α) (sp : List (List PV)) (hq : ∀ x ∈ xs, Ret Tryz.prog f (.agg (enc x) :: caps) (.v (.bool (q x)))) :
    Ret Tryz.prog 144 [.sl (xs.map enc) sp, .clo f caps] (.v (.int .i64 (firstI q xs 0))) := by
  refine ret144 rfl fun hbd => ?_
  have hb : xs.length ≤ 9223372036854775807 := by
    have := hbd _ (List.mem_cons_self)
    simp only [PV.bd, PV.bd1, List.length_append, List.length_map, maxLen] at this
    omega
  unfold c144
  repeat (first
    | refine r_mv_p rfl ?_ | refine r_sem rfl rfl rfl rfl ?_ | refine r_nil ?_ | refine run_seq ?_ | refine run_reg ?_ | refine run_block ?_ | refine fin_seq ?_)
  refine run_weak (weak_S ?_ ?_) (run_inv (fun i : Nat => S [(0, .p (.sl (xs.map enc) sp)), (1, .p (.clo f caps)), (4, .p (.v (.int .i64 0))), (7, .p (.v (.int .i64 ((xs.map enc).length : Nat)))), (8, .p (.v (.int .i64 (i : Nat))))] [])
    (fun i => i ≤ xs.length ∧ firstI q xs 0 = firstI q (xs.drop i) i) (fun i => xs.length - i) ?_ 0 ⟨Nat.zero_le _, rfl⟩)
  · exact ⟨rfl, rfl, rfl, rfl, rfl, trivial⟩
  · trivial
  intro i hi ih
  obtain ⟨hi, hfst⟩ := hi
  repeat (first
    | refine r_sem rfl rfl rfl rfl ?_ | refine r_nil ?_ | refine run_seq ?_ | refine run_reg ?_ | refine fin_seq ?_)
  refine run_cond rfl (fun h => ?_) (fun h => ?_)
  · have hlt : i < xs.length := by simpa using h
    have hx : (xs.map enc)[i]? = some (enc xs[i]) := by simp [hlt]
    have hdrop : xs.drop i = xs[i] :: xs.drop (i + 1) := List.drop_eq_getElem_cons hlt
    have hen' := hen xs[i]
    repeat (first
      | refine r_callv rfl (hq xs[i] (by simp)) ?_ | refine r_mv_p rfl ?_ | refine r_loadA rfl ?_ | refine r_nil ?_ | refine r_iadA rfl rfl ?_ | refine run_seq ?_ | refine run_reg ?_
      | refine run_block ?_ | refine run_skip ?_ | refine fin_seq ?_)
    refine run_cond rfl (fun h2 => ?_) (fun h2 => ?_)
    · repeat (first
        | refine r_mv_p rfl ?_ | refine r_nil ?_ | refine run_seq ?_ | refine run_reg ?_ | refine run_ret ?_ | refine fin_seq ?_ | refine fin_seq_r ?_ | refine fin_blk_r ?_
        | refine fin_loop_r ?_)
      exact fin_out rfl (by rw [hfst, hdrop]; simp [firstI, h2])
    · repeat (first
        | refine r_mv_p rfl ?_ | refine r_addA rfl rfl ?_ | refine r_nil ?_ | refine run_reg ?_ | refine run_skip ?_ | refine fin_seq ?_ | refine fin_blk ?_)
      refine fin_loop (run_weak (weak_S ?_ ?_) (ih (i + 1) ⟨hlt, ?_⟩ (by omega)))
      · exact ⟨rfl, rfl, rfl, rfl, rfl, trivial⟩
      · trivial
      · rw [hfst, hdrop]; simp [firstI, h2]
  · have hlt : i = xs.length := by simp at h; omega
    repeat (first
      | refine r_mv_p rfl ?_ | refine r_nil ?_ | refine run_seq ?_ | refine run_reg ?_ | refine run_exit ?_ | refine run_ret ?_ | refine fin_seq ?_ | refine fin_seq_e ?_
      | refine fin_blk_e ?_ | refine fin_loop_e ?_)
    exact fin_out rfl (by rw [hfst, hlt]; simp [firstI])
theorem find108 {α : Type} (enc : α → List PV) (hen : ∀ x, (enc x).length = 8) (o : FuncId) (cmp : α → α → Int) (ho : ∀ a b, Ret Tryz.prog o [.agg (enc a), .agg (enc b)] (.v (.int .i64 (cmp a b)))) (x : α) (xs : List α) (sp : List (List PV)) :
    Ret Tryz.prog 108 [.agg [.clo o []], .sl (xs.map enc) sp, .agg (enc x)] (.tup [.v (.int .i64 (findI (fun y => decide (cmp y x = 0)) xs)), .v (.bool (findB (fun y => decide (cmp y x = 0)) xs))]) := by
  refine ret108 rfl fun hbd => ?_
  unfold c108
  repeat (first
    | refine r_call rfl (indexFunc144 enc hen 145 _ (fun y => decide (cmp y x = 0)) xs sp (fun y _ => is145 enc hen o cmp ho x y)) ?_ | refine r_mv_p rfl ?_
    | refine r_sem rfl rfl rfl rfl ?_ | refine r_nil ?_ | refine r_box rfl rfl rfl ?_ | refine r_semF rfl rfl rfl rfl ?_ | refine run_seq ?_ | refine run_reg ?_ | refine fin_seq ?_)
  refine run_cond rfl (fun h => ?_) (fun h => ?_)
  · repeat (first
      | refine r_mv_p rfl ?_ | refine r_nil ?_ | refine run_seq ?_ | refine run_reg ?_ | refine run_ret ?_ | refine fin_seq ?_ | refine fin_seq_r ?_)
    exact fin_out rfl (by simp at h; simp [findI, findB, h])
  · repeat (first
      | refine r_mv_p rfl ?_ | refine r_nil ?_ | refine run_seq ?_ | refine run_reg ?_ | refine run_skip ?_ | refine run_ret ?_ | refine fin_seq ?_)
    exact fin_out rfl (by simp at h; simp [findI, findB, Int.not_le.2 h])
theorem is94 {α : Type} (enc : α → List PV) (hen : ∀ x, (enc x).length = 5) (o : FuncId) (cmp : α → α → Int) (ho : ∀ a b, Ret Tryz.prog o [.agg (enc a), .agg (enc b)] (.v (.int .i64 (cmp a b)))) (x y : α) :
    Ret Tryz.prog 94 [.agg (enc y), .ref [.clo o []] 0, .ref (enc x) 0] (.v (.bool (decide (cmp y x = 0)))) := by
  refine ret94 rfl fun hbd => ?_
  have h1 := hen x
  have h2 := hen y
  unfold c94
  repeat (first
    | refine r_callv rfl (ho y x) ?_ | refine r_mv_p rfl ?_ | refine r_loadA rfl ?_ | refine r_loadB rfl rfl ?_ | refine r_sem rfl rfl rfl rfl ?_ | refine r_nil ?_
    | refine r_box rfl rfl rfl ?_ | refine run_seq ?_ | refine run_reg ?_ | refine run_ret ?_ | refine fin_seq ?_)
  exact fin_out rfl rfl
theorem indexFunc93 {α : Type} (enc : α → List PV) (hen : ∀ x, (enc x).length = 5) (f : FuncId) (caps : List PV) (q : α → Bool) (xs : List α) (sp : List (List PV)) (hq : ∀ x ∈ xs, Ret Tryz.prog f (.agg (enc x) :: caps) (.v (.bool (q x)))) :
    Ret Tryz.prog 93 [.sl (xs.map enc) sp, .clo f caps] (.v (.int .i64 (firstI q xs 0))) := by
  refine ret93 rfl fun hbd => ?_
  have hb : xs.length ≤ 9223372036854775807 := by
    have := hbd _ (List.mem_cons_self)
    simp only [PV.bd, PV.bd1, List.length_append, List.length_map, maxLen] at this
    omega
  unfold c93
  repeat (first
    | refine r_mv_p rfl ?_ | refine r_sem rfl rfl rfl rfl ?_ | refine r_nil ?_ | refine run_seq ?_ | refine run_reg ?_ | refine run_block ?_ | refine fin_seq ?_)
  refine run_weak (weak_S ?_ ?_) (run_inv (fun i : Nat => S [(0, .p (.sl (xs.map enc) sp)), (1, .p (.clo f caps)), (4, .p (.v (.int .i64 0))), (7, .p (.v (.int .i64 ((xs.map enc).length : Nat)))), (8, .p (.v (.int .i64 (i : Nat))))] [])
    (fun i => i ≤ xs.length ∧ firstI q xs 0 = firstI q (xs.drop i) i) (fun i => xs.length - i) ?_ 0 ⟨Nat.zero_le _, rfl⟩)
  · exact ⟨rfl, rfl, rfl, rfl, rfl, trivial⟩
  · trivial
  intro i hi ih
  obtain ⟨hi, hfst⟩ := hi
  repeat (first
    | refine r_sem rfl rfl rfl rfl ?_ | refine r_nil ?_ | refine run_seq ?_ | refine run_reg ?_ | refine fin_seq ?_)
  refine run_cond rfl (fun h => ?_) (fun h => ?_)
  · have hlt : i < xs.length := by simpa using h
    have hx : (xs.map enc)[i]? = some (enc xs[i]) := by simp [hlt]
    have hdrop : xs.drop i = xs[i] :: xs.drop (i + 1) := List.drop_eq_getElem_cons hlt
    have hen' := hen xs[i]
    repeat (first
      | refine r_callv rfl (hq xs[i] (by simp)) ?_ | refine r_mv_p rfl ?_ | refine r_loadA rfl ?_ | refine r_nil ?_ | refine r_iadA rfl rfl ?_ | refine run_seq ?_ | refine run_reg ?_
      | refine run_block ?_ | refine run_skip ?_ | refine fin_seq ?_)
    refine run_cond rfl (fun h2 => ?_) (fun h2 => ?_)
    · repeat (first
        | refine r_mv_p rfl ?_ | refine r_nil ?_ | refine run_seq ?_ | refine run_reg ?_ | refine run_ret ?_ | refine fin_seq ?_ | refine fin_seq_r ?_ | refine fin_blk_r ?_
        | refine fin_loop_r ?_)
      exact fin_out rfl (by rw [hfst, hdrop]; simp [firstI, h2])
    · repeat (first
        | refine r_mv_p rfl ?_ | refine r_addA rfl rfl ?_ | refine r_nil ?_ | refine run_reg ?_ | refine run_skip ?_ | refine fin_seq ?_ | refine fin_blk ?_)
      refine fin_loop (run_weak (weak_S ?_ ?_) (ih (i + 1) ⟨hlt, ?_⟩ (by omega)))
      · exact ⟨rfl, rfl, rfl, rfl, rfl, trivial⟩
      · trivial
      · rw [hfst, hdrop]; simp [firstI, h2]
  · have hlt : i = xs.length := by simp at h; omega
    repeat (first
      | refine r_mv_p rfl ?_ | refine r_nil ?_ | refine run_seq ?_ | refine run_reg ?_ | refine run_exit ?_ | refine run_ret ?_ | refine fin_seq ?_ | refine fin_seq_e ?_
      | refine fin_blk_e ?_ | refine fin_loop_e ?_)
    exact fin_out rfl (by rw [hfst, hlt]; simp [firstI])
theorem find63 {α : Type} (enc : α → List PV) (hen : ∀ x, (enc x).length = 5) (o : FuncId) (cmp : α → α → Int) (ho : ∀ a b, Ret Tryz.prog o [.agg (enc a), .agg (enc b)] (.v (.int .i64 (cmp a b)))) (x : α) (xs : List α) (sp : List (List PV)) :
    Ret Tryz.prog 63 [.agg [.clo o []], .sl (xs.map enc) sp, .agg (enc x)] (.tup [.v (.int .i64 (findI (fun y => decide (cmp y x = 0)) xs)), .v (.bool (findB (fun y => decide (cmp y x = 0)) xs))]) := by
  refine ret63 rfl fun hbd => ?_
  unfold c63
  repeat (first
    | refine r_call rfl (indexFunc93 enc hen 94 _ (fun y => decide (cmp y x = 0)) xs sp (fun y _ => is94 enc hen o cmp ho x y)) ?_ | refine r_mv_p rfl ?_ | refine r_sem rfl rfl rfl rfl ?_
    | refine r_nil ?_ | refine r_box rfl rfl rfl ?_ | refine r_semF rfl rfl rfl rfl ?_ | refine run_seq ?_ | refine run_reg ?_ | refine fin_seq ?_)
  refine run_cond rfl (fun h => ?_) (fun h => ?_)
  · repeat (first
      | refine r_mv_p rfl ?_ | refine r_nil ?_ | refine run_seq ?_ | refine run_reg ?_ | refine run_ret ?_ | refine fin_seq ?_ | refine fin_seq_r ?_)
    exact fin_out rfl (by simp at h; simp [findI, findB, h])
  · repeat (first
      | refine r_mv_p rfl ?_ | refine r_nil ?_ | refine run_seq ?_ | refine run_reg ?_ | refine run_skip ?_ | refine run_ret ?_ | refine fin_seq ?_)
    exact fin_out rfl (by simp at h; simp [findI, findB, Int.not_le.2 h])
theorem is118 {α : Type} (enc : α → List PV) (hen : ∀ x, (enc x).length = 6) (o : FuncId) (cmp : α → α → Int) (ho : ∀ a b, Ret Tryz.prog o [.agg (enc a), .agg (enc b)] (.v (.int .i64 (cmp a b)))) (x y : α) :
    Ret Tryz.prog 118 [.agg (enc y), .ref [.clo o []] 0, .ref (enc x) 0] (.v (.bool (decide (cmp y x = 0)))) := by
  refine ret118 rfl fun hbd => ?_
  have h1 := hen x
  have h2 := hen y
  unfold c118
  repeat (first
    | refine r_callv rfl (ho y x) ?_ | refine r_mv_p rfl ?_ | refine r_loadA rfl ?_ | refine r_loadB rfl rfl ?_ | refine r_sem rfl rfl rfl rfl ?_ | refine r_nil ?_
    | refine r_box rfl rfl rfl ?_ | refine run_seq ?_ | refine run_reg ?_ | refine run_ret ?_ | refine fin_seq ?_)
  exact fin_out rfl rfl
theorem indexFunc117 {α : Type} (enc : α → List PV) (hen : ∀ x, (enc x).length = 6) (f : FuncId) (caps : List PV) (q : α → Bool) (xs : List α) (sp : List (List PV)) (hq : ∀ x ∈ xs, Ret Tryz.prog f (.agg (enc x) :: caps) (.v (.bool (q x)))) :
    Ret Tryz.prog 117 [.sl (xs.map enc) sp, .clo f caps] (.v (.int .i64 (firstI q xs 0))) := by
  refine ret117 rfl fun hbd => ?_
  have hb : xs.length ≤ 9223372036854775807 := by
    have := hbd _ (List.mem_cons_self)
    simp only [PV.bd, PV.bd1, List.length_append, List.length_map, maxLen] at this
    omega
  unfold c117
  repeat (first
    | refine r_mv_p rfl ?_ | refine r_sem rfl rfl rfl rfl ?_ | refine r_nil ?_ | refine run_seq ?_ | refine run_reg ?_ | refine run_block ?_ | refine fin_seq ?_)
  refine run_weak (weak_S ?_ ?_) (run_inv (fun i : Nat => S [(0, .p (.sl (xs.map enc) sp)), (1, .p (.clo f caps)), (4, .p (.v (.int .i64 0))), (7, .p (.v (.int .i64 ((xs.map enc).length : Nat)))), (8, .p (.v (.int .i64 (i : Nat))))] [])
    (fun i => i ≤ xs.length ∧ firstI q xs 0 = firstI q (xs.drop i) i) (fun i => xs.length - i) ?_ 0 ⟨Nat.zero_le _, rfl⟩)
  · exact ⟨rfl, rfl, rfl, rfl, rfl, trivial⟩
  · trivial
  intro i hi ih
  obtain ⟨hi, hfst⟩ := hi
  repeat (first
    | refine r_sem rfl rfl rfl rfl ?_ | refine r_nil ?_ | refine run_seq ?_ | refine run_reg ?_ | refine fin_seq ?_)
  refine run_cond rfl (fun h => ?_) (fun h => ?_)
  · have hlt : i < xs.length := by simpa using h
    have hx : (xs.map enc)[i]? = some (enc xs[i]) := by simp [hlt]
    have hdrop : xs.drop i = xs[i] :: xs.drop (i + 1) := List.drop_eq_getElem_cons hlt
    have hen' := hen xs[i]
    repeat (first
      | refine r_callv rfl (hq xs[i] (by simp)) ?_ | refine r_mv_p rfl ?_ | refine r_loadA rfl ?_ | refine r_nil ?_ | refine r_iadA rfl rfl ?_ | refine run_seq ?_ | refine run_reg ?_
      | refine run_block ?_ | refine run_skip ?_ | refine fin_seq ?_)
    refine run_cond rfl (fun h2 => ?_) (fun h2 => ?_)
    · repeat (first
        | refine r_mv_p rfl ?_ | refine r_nil ?_ | refine run_seq ?_ | refine run_reg ?_ | refine run_ret ?_ | refine fin_seq ?_ | refine fin_seq_r ?_ | refine fin_blk_r ?_
        | refine fin_loop_r ?_)
      exact fin_out rfl (by rw [hfst, hdrop]; simp [firstI, h2])
    · repeat (first
        | refine r_mv_p rfl ?_ | refine r_addA rfl rfl ?_ | refine r_nil ?_ | refine run_reg ?_ | refine run_skip ?_ | refine fin_seq ?_ | refine fin_blk ?_)
      refine fin_loop (run_weak (weak_S ?_ ?_) (ih (i + 1) ⟨hlt, ?_⟩ (by omega)))
      · exact ⟨rfl, rfl, rfl, rfl, rfl, trivial⟩
      · trivial
      · rw [hfst, hdrop]; simp [firstI, h2]
  · have hlt : i = xs.length := by simp at h; omega
    repeat (first
      | refine r_mv_p rfl ?_ | refine r_nil ?_ | refine run_seq ?_ | refine run_reg ?_ | refine run_exit ?_ | refine run_ret ?_ | refine fin_seq ?_ | refine fin_seq_e ?_
      | refine fin_blk_e ?_ | refine fin_loop_e ?_)
    exact fin_out rfl (by rw [hfst, hlt]; simp [firstI])
theorem find86 {α : Type} (enc : α → List PV) (hen : ∀ x, (enc x).length = 6) (o : FuncId) (cmp : α → α → Int) (ho : ∀ a b, Ret Tryz.prog o [.agg (enc a), .agg (enc b)] (.v (.int .i64 (cmp a b)))) (x : α) (xs : List α) (sp : List (List PV)) :
    Ret Tryz.prog 86 [.agg [.clo o []], .sl (xs.map enc) sp, .agg (enc x)] (.tup [.v (.int .i64 (findI (fun y => decide (cmp y x = 0)) xs)), .v (.bool (findB (fun y => decide (cmp y x = 0)) xs))]) := by
  refine ret86 rfl fun hbd => ?_
  unfold c86
  repeat (first
    | refine r_call rfl (indexFunc117 enc hen 118 _ (fun y => decide (cmp y x = 0)) xs sp (fun y _ => is118 enc hen o cmp ho x y)) ?_ | refine r_mv_p rfl ?_
    | refine r_sem rfl rfl rfl rfl ?_ | refine r_nil ?_ | refine r_box rfl rfl rfl ?_ | refine r_semF rfl rfl rfl rfl ?_ | refine run_seq ?_ | refine run_reg ?_ | refine fin_seq ?_)
  refine run_cond rfl (fun h => ?_) (fun h => ?_)
  · repeat (first
      | refine r_mv_p rfl ?_ | refine r_nil ?_ | refine run_seq ?_ | refine run_reg ?_ | refine run_ret ?_ | refine fin_seq ?_ | refine fin_seq_r ?_)
    exact fin_out rfl (by simp at h; simp [findI, findB, h])
  · repeat (first
      | refine r_mv_p rfl ?_ | refine r_nil ?_ | refine run_seq ?_ | refine run_reg ?_ | refine run_skip ?_ | refine run_ret ?_ | refine fin_seq ?_)
    exact fin_out rfl (by simp at h; simp [findI, findB, Int.not_le.2 h])
theorem is136 {α : Type} (enc : α → List PV) (hen : ∀ x, (enc x).length = 6) (o : FuncId) (cmp : α → α → Int) (ho : ∀ a b, Ret Tryz.prog o [.agg (enc a), .agg (enc b)] (.v (.int .i64 (cmp a b)))) (x y : α) :
    Ret Tryz.prog 136 [.agg (enc y), .ref [.clo o []] 0, .ref (enc x) 0] (.v (.bool (decide (cmp y x = 0)))) := by
  refine ret136 rfl fun hbd => ?_
  have h1 := hen x
  have h2 := hen y
  unfold c136
  repeat (first
    | refine r_callv rfl (ho y x) ?_ | refine r_mv_p rfl ?_ | refine r_loadA rfl ?_ | refine r_loadB rfl rfl ?_ | refine r_sem rfl rfl rfl rfl ?_ | refine r_nil ?_
    | refine r_box rfl rfl rfl ?_ | refine run_seq ?_ | refine run_reg ?_ | refine run_ret ?_ | refine fin_seq ?_)
  exact fin_out rfl rfl
theorem indexFunc135 {α : Type} (enc : α → List PV) (hen : ∀ x, (enc x).length = 6) (f : FuncId) (caps : List PV) (q : α → Bool) (xs : List α) (sp : List (List PV)) (hq : ∀ x ∈ xs, Ret Tryz.prog f (.agg (enc x) :: caps) (.v (.bool (q x)))) :
    Ret Tryz.prog 135 [.sl (xs.map enc) sp, .clo f caps] (.v (.int .i64 (firstI q xs 0))) := by
  refine ret135 rfl fun hbd => ?_
  have hb : xs.length ≤ 9223372036854775807 := by
    have := hbd _ (List.mem_cons_self)
    simp only [PV.bd, PV.bd1, List.length_append, List.length_map, maxLen] at this
    omega
  unfold c135
  repeat (first
    | refine r_mv_p rfl ?_ | refine r_sem rfl rfl rfl rfl ?_ | refine r_nil ?_ | refine run_seq ?_ | refine run_reg ?_ | refine run_block ?_ | refine fin_seq ?_)
  refine run_weak (weak_S ?_ ?_) (run_inv (fun i : Nat => S [(0, .p (.sl (xs.map enc) sp)), (1, .p (.clo f caps)), (4, .p (.v (.int .i64 0))), (7, .p (.v (.int .i64 ((xs.map enc).length : Nat)))), (8, .p (.v (.int .i64 (i : Nat))))] [])
    (fun i => i ≤ xs.length ∧ firstI q xs 0 = firstI q (xs.drop i) i) (fun i => xs.length - i) ?_ 0 ⟨Nat.zero_le _, rfl⟩)
  · exact ⟨rfl, rfl, rfl, rfl, rfl, trivial⟩
  · trivial
  intro i hi ih
  obtain ⟨hi, hfst⟩ := hi
  repeat (first
    | refine r_sem rfl rfl rfl rfl ?_ | refine r_nil ?_ | refine run_seq ?_ | refine run_reg ?_ | refine fin_seq ?_)
  refine run_cond rfl (fun h => ?_) (fun h => ?_)
  · have hlt : i < xs.length := by simpa using h
    have hx : (xs.map enc)[i]? = some (enc xs[i]) := by simp [hlt]
    have hdrop : xs.drop i = xs[i] :: xs.drop (i + 1) := List.drop_eq_getElem_cons hlt
    have hen' := hen xs[i]
    repeat (first
      | refine r_callv rfl (hq xs[i] (by simp)) ?_ | refine r_mv_p rfl ?_ | refine r_loadA rfl ?_ | refine r_nil ?_ | refine r_iadA rfl rfl ?_ | refine run_seq ?_ | refine run_reg ?_
      | refine run_block ?_ | refine run_skip ?_ | refine fin_seq ?_)
    refine run_cond rfl (fun h2 => ?_) (fun h2 => ?_)
    · repeat (first
        | refine r_mv_p rfl ?_ | refine r_nil ?_ | refine run_seq ?_ | refine run_reg ?_ | refine run_ret ?_ | refine fin_seq ?_ | refine fin_seq_r ?_ | refine fin_blk_r ?_
        | refine fin_loop_r ?_)
      exact fin_out rfl (by rw [hfst, hdrop]; simp [firstI, h2])
    · repeat (first
        | refine r_mv_p rfl ?_ | refine r_addA rfl rfl ?_ | refine r_nil ?_ | refine run_reg ?_ | refine run_skip ?_ | refine fin_seq ?_ | refine fin_blk ?_)
      refine fin_loop (run_weak (weak_S ?_ ?_) (ih (i + 1) ⟨hlt, ?_⟩ (by omega)))
      · exact ⟨rfl, rfl, rfl, rfl, rfl, trivial⟩
      · trivial
      · rw [hfst, hdrop]; simp [firstI, h2]
  · have hlt : i = xs.length := by simp at h; omega
    repeat (first
      | refine r_mv_p rfl ?_ | refine r_nil ?_ | refine run_seq ?_ | refine run_reg ?_ | refine run_exit ?_ | refine run_ret ?_ | refine fin_seq ?_ | refine fin_seq_e ?_
      | refine fin_blk_e ?_ | refine fin_loop_e ?_)
    exact fin_out rfl (by rw [hfst, hlt]; simp [firstI])
theorem find103 {α : Type} (enc : α → List PV) (hen : ∀ x, (enc x).length = 6) (o : FuncId) (cmp : α → α → Int) (ho : ∀ a b, Ret Tryz.prog o [.agg (enc a), .agg (enc b)] (.v (.int .i64 (cmp a b)))) (x : α) (xs : List α) (sp : List (List PV)) :
    Ret Tryz.prog 103 [.agg [.clo o []], .sl (xs.map enc) sp, .agg (enc x)] (.tup [.v (.int .i64 (findI (fun y => decide (cmp y x = 0)) xs)), .v (.bool (findB (fun y => decide (cmp y x = 0)) xs))]) := by
  refine ret103 rfl fun hbd => ?_
  unfold c103
  repeat (first
    | refine r_call rfl (indexFunc135 enc hen 136 _ (fun y => decide (cmp y x = 0)) xs sp (fun y _ => is136 enc hen o cmp ho x y)) ?_ | refine r_mv_p rfl ?_
    | refine r_sem rfl rfl rfl rfl ?_ | refine r_nil ?_ | refine r_box rfl rfl rfl ?_ | refine r_semF rfl rfl rfl rfl ?_ | refine run_seq ?_ | refine run_reg ?_ | refine fin_seq ?_)
  refine run_cond rfl (fun h => ?_) (fun h => ?_)
  · repeat (first
      | refine r_mv_p rfl ?_ | refine r_nil ?_ | refine run_seq ?_ | refine run_reg ?_ | refine run_ret ?_ | refine fin_seq ?_ | refine fin_seq_r ?_)
    exact fin_out rfl (by simp at h; simp [findI, findB, h])
  · repeat (first
      | refine r_mv_p rfl ?_ | refine r_nil ?_ | refine run_seq ?_ | refine run_reg ?_ | refine run_skip ?_ | refine run_ret ?_ | refine fin_seq ?_)
    exact fin_out rfl (by simp at h; simp [findI, findB, Int.not_le.2 h])
theorem gt148 {α : Type} (enc : α → List PV) (hen : ∀ x, (enc x).length = 8) (o : FuncId) (cmp : α → α → Int) (ho : ∀ a b, Ret Tryz.prog o [.agg (enc a), .agg (enc b)] (.v (.int .i64 (cmp a b)))) (x y : α) :
    Ret Tryz.prog 148 [.agg (enc y), .ref [.clo o []] 0, .ref (enc x) 0] (.v (.bool (gtQ cmp x y))) := by
  refine ret148 rfl fun hbd => ?_
  have h1 := hen x
  have h2 := hen y
  unfold c148
  repeat (first
    | refine r_callv rfl (ho y x) ?_ | refine r_mv_p rfl ?_ | refine r_loadA rfl ?_ | refine r_loadB rfl rfl ?_ | refine r_sem rfl rfl rfl rfl ?_ | refine r_nil ?_
    | refine r_box rfl rfl rfl ?_ | refine run_seq ?_ | refine run_reg ?_ | refine run_ret ?_ | refine fin_seq ?_)
  exact fin_out rfl rfl
theorem put119 {α : Type} (enc : α → List PV) (hen : ∀ x, (enc x).length = 8) (o : FuncId) (cmp : α → α → Int) (ho : ∀ a b, Ret Tryz.prog o [.agg (enc a), .agg (enc b)] (.v (.int .i64 (cmp a b)))) (x : α) (xs : List α) (sp : List (List PV)) (hbig : (xs.length + 1) * 80 ≤ 140737488355328) :
    Ret Tryz.prog 119 [.agg [.clo o []], .sl (xs.map enc) sp, .agg (enc x)] (.sl ((putL cmp x xs).map enc) []) := by
  refine RetN.ret (ty := 53) (es := 8) ?_
  refine row119 rfl fun hbd => ?_
  have hx := hen x
  have hxs : ∀ z ∈ xs.map enc, z.length = 8 := by intro z hz; obtain ⟨y, _, rfl⟩ := List.mem_map.1 hz; exact hen y
  unfold c119
  have hb1 : (xs.map enc).length * 80 ≤ 140737488355328 := by rw [List.length_map]; omega
  repeat (first
    | refine r_calln (fs := []) rfl rfl rfl (clone147 (xs.map enc) sp hxs hb1) rfl ?_ | refine r_call rfl (find108 enc hen o cmp ho x xs sp) ?_ | refine r_mv_p rfl ?_
    | refine r_loadB rfl rfl ?_ | refine r_sem rfl rfl rfl rfl ?_ | refine r_nil ?_ | refine r_box rfl rfl rfl ?_ | refine r_mv_nil rfl ?_ | refine r_mv_rowA rfl rfl ?_
    | refine run_seq ?_ | refine run_reg ?_ | refine fin_seq ?_)
  refine run_cond rfl (fun h => ?_) (fun h => ?_)
  · obtain ⟨k, hk, hlt⟩ := findB_lt h
    have hL : putL cmp x xs = xs.set k x := by
      have h' : findB (eqQ cmp x) xs = true := h
      have hk' : findI (eqQ cmp x) xs = k := hk
      rw [putL, if_pos h', hk']; rfl
    rw [hk, hL]
    have hlt' : k < (xs.map enc).length := by simpa using hlt
    have hi : (xs.map enc)[k]? = some (enc xs[k]) := by simp [hlt]
    have hlx := hen xs[k]
    repeat (first
      | refine r_store_rp rfl rfl hi rfl rfl (And.intro hx (by omega)) ?_ | refine r_mv_p rfl ?_ | refine r_loadB rfl rfl ?_ | refine r_nil ?_ | refine r_mv_rowA rfl rfl ?_
      | refine r_iad_row rfl rfl (by first | rfl | assumption | omega | (simp; done) | (simp; omega)) rfl (by first | rfl | assumption | omega | (simp; done) | (simp; omega)) ?_
      | refine run_seq ?_ | refine run_reg ?_ | refine run_ret ?_ | refine fin_seq ?_ | refine fin_seq_r ?_)
    refine fin_row rfl (by simp) rfl ?_
    rw [show splice (enc xs[k]) 0 (enc x) = enc x by simp [splice, hlx, hx], List.map_set]
    rfl
  · have h' : ¬ findB (eqQ cmp x) xs = true := by rw [show findB (eqQ cmp x) xs = false from h]; exact Bool.false_ne_true
    have hL : putL cmp x xs = xs.take (putI (gtQ cmp x) xs).toNat ++ x :: xs.drop (putI (gtQ cmp x) xs).toNat := by rw [putL, if_neg h']
    obtain ⟨k, hk, hle⟩ := putI_le (gtQ cmp x) xs
    have hE : (putL cmp x xs).map enc = (xs.map enc).take k ++ enc x :: (xs.map enc).drop k := by rw [hL, hk]; simp
    have hins : ∀ a : Int, a = k → RetI Tryz.prog 149 53 8 (xs.map enc) [.v (.int .i64 a), .sl [enc x] []] ((xs.map enc).take k ++ enc x :: (xs.map enc).drop k) := fun a ha => insert149 (xs.map enc) (enc x) [] k a ha (by simpa using hle) hx (by simpa using hbig)
    rw [hE]
    repeat (first
      | refine r_callF rfl rfl rfl (indexFunc144 enc hen 148 _ (gtQ cmp x) xs sp (fun y _ => gt148 enc hen o cmp ho x y)) ?_ | refine r_mv_p rfl ?_ | refine r_sem rfl rfl rfl rfl ?_
      | refine r_nil ?_ | refine r_semF rfl rfl rfl rfl ?_ | refine run_seq ?_ | refine run_reg ?_ | refine run_skip ?_ | refine fin_seq ?_)
    refine run_cond rfl (fun h2 => ?_) (fun h2 => ?_)
    · have hk2 : (((xs.map enc).length : Nat) : Int) = k := by
        simp at h2
        rw [List.length_map, ← hk, putI, if_pos h2]
      repeat (first
        | refine r_calli (fs := [36]) rfl rfl rfl rfl rfl rfl (hins _ hk2) (by decide) (Or.inr rfl) ?_ | refine r_mv_p rfl ?_ | refine r_loadB rfl rfl ?_ | refine r_sem rfl rfl rfl rfl ?_
        | refine r_nil ?_ | refine r_bsl1 rfl (by assumption) rfl ?_ | refine r_mv_rowA rfl rfl ?_ | refine run_seq ?_ | refine run_reg ?_ | refine run_ret ?_ | refine fin_seq ?_)
      exact fin_row (by rfl) (by rfl) (by rfl) (by rfl)
    · have hk2 : firstI (gtQ cmp x) xs 0 = k := by
        simp at h2
        rw [← hk, putI, if_neg (by omega)]
      repeat (first
        | refine r_calli (fs := [36]) rfl rfl rfl rfl rfl rfl (hins _ hk2) (by decide) (Or.inr rfl) ?_ | refine r_mv_p rfl ?_ | refine r_loadB rfl rfl ?_ | refine r_nil ?_
        | refine r_bsl1 rfl (by assumption) rfl ?_ | refine r_mv_rowA rfl rfl ?_ | refine run_seq ?_ | refine run_reg ?_ | refine run_skip ?_ | refine run_ret ?_ | refine fin_seq ?_)
      exact fin_row (by rfl) (by rfl) (by rfl) (by rfl)
theorem gt96 {α : Type} (enc : α → List PV) (hen : ∀ x, (enc x).length = 5) (o : FuncId) (cmp : α → α → Int) (ho : ∀ a b, Ret Tryz.prog o [.agg (enc a), .agg (enc b)] (.v (.int .i64 (cmp a b)))) (x y : α) :
    Ret Tryz.prog 96 [.agg (enc y), .ref [.clo o []] 0, .ref (enc x) 0] (.v (.bool (gtQ cmp x y))) := by
  refine ret96 rfl fun hbd => ?_
  have h1 := hen x
  have h2 := hen y
  unfold c96
  repeat (first
    | refine r_callv rfl (ho y x) ?_ | refine r_mv_p rfl ?_ | refine r_loadA rfl ?_ | refine r_loadB rfl rfl ?_ | refine r_sem rfl rfl rfl rfl ?_ | refine r_nil ?_
    | refine r_box rfl rfl rfl ?_ | refine run_seq ?_ | refine run_reg ?_ | refine run_ret ?_ | refine fin_seq ?_)
  exact fin_out rfl rfl
theorem put64 {α : Type} (enc : α → List PV) (hen : ∀ x, (enc x).length = 5) (o : FuncId) (cmp : α → α → Int) (ho : ∀ a b, Ret Tryz.prog o [.agg (enc a), .agg (enc b)] (.v (.int .i64 (cmp a b)))) (x : α) (xs : List α) (sp : List (List PV)) (hbig : (xs.length + 1) * 64 ≤ 140737488355328) :
    Ret Tryz.prog 64 [.agg [.clo o []], .sl (xs.map enc) sp, .agg (enc x)] (.sl ((putL cmp x xs).map enc) []) := by
  refine RetN.ret (ty := 41) (es := 5) ?_
  refine row64 rfl fun hbd => ?_
  have hx := hen x
  have hxs : ∀ z ∈ xs.map enc, z.length = 5 := by intro z hz; obtain ⟨y, _, rfl⟩ := List.mem_map.1 hz; exact hen y
  unfold c64
  have hb1 : (xs.map enc).length * 64 ≤ 140737488355328 := by rw [List.length_map]; omega
  repeat (first
    | refine r_calln (fs := []) rfl rfl rfl (clone95 (xs.map enc) sp hxs hb1) rfl ?_ | refine r_call rfl (find63 enc hen o cmp ho x xs sp) ?_ | refine r_mv_p rfl ?_
    | refine r_loadB rfl rfl ?_ | refine r_sem rfl rfl rfl rfl ?_ | refine r_nil ?_ | refine r_box rfl rfl rfl ?_ | refine r_mv_nil rfl ?_ | refine r_mv_rowA rfl rfl ?_
    | refine run_seq ?_ | refine run_reg ?_ | refine fin_seq ?_)
  refine run_cond rfl (fun h => ?_) (fun h => ?_)
  · obtain ⟨k, hk, hlt⟩ := findB_lt h
    have hL : putL cmp x xs = xs.set k x := by
      have h' : findB (eqQ cmp x) xs = true := h
      have hk' : findI (eqQ cmp x) xs = k := hk
      rw [putL, if_pos h', hk']; rfl
    rw [hk, hL]
    have hlt' : k < (xs.map enc).length := by simpa using hlt
    have hi : (xs.map enc)[k]? = some (enc xs[k]) := by simp [hlt]
    have hlx := hen xs[k]
    repeat (first
      | refine r_store_rp rfl rfl hi rfl rfl (And.intro hx (by omega)) ?_ | refine r_mv_p rfl ?_ | refine r_loadB rfl rfl ?_ | refine r_nil ?_ | refine r_mv_rowA rfl rfl ?_
      | refine r_iad_row rfl rfl (by first | rfl | assumption | omega | (simp; done) | (simp; omega)) rfl (by first | rfl | assumption | omega | (simp; done) | (simp; omega)) ?_
      | refine run_seq ?_ | refine run_reg ?_ | refine run_ret ?_ | refine fin_seq ?_ | refine fin_seq_r ?_)
    refine fin_row rfl (by simp) rfl ?_
    rw [show splice (enc xs[k]) 0 (enc x) = enc x by simp [splice, hlx, hx], List.map_set]
    rfl
  · have h' : ¬ findB (eqQ cmp x) xs = true := by rw [show findB (eqQ cmp x) xs = false from h]; exact Bool.false_ne_true
    have hL : putL cmp x xs = xs.take (putI (gtQ cmp x) xs).toNat ++ x :: xs.drop (putI (gtQ cmp x) xs).toNat := by rw [putL, if_neg h']
    obtain ⟨k, hk, hle⟩ := putI_le (gtQ cmp x) xs
    have hE : (putL cmp x xs).map enc = (xs.map enc).take k ++ enc x :: (xs.map enc).drop k := by rw [hL, hk]; simp
    have hins : ∀ a : Int, a = k → RetI Tryz.prog 97 41 5 (xs.map enc) [.v (.int .i64 a), .sl [enc x] []] ((xs.map enc).take k ++ enc x :: (xs.map enc).drop k) := fun a ha => insert97 (xs.map enc) (enc x) [] k a ha (by simpa using hle) hx (by simpa using hbig)
    rw [hE]
    repeat (first
      | refine r_callF rfl rfl rfl (indexFunc93 enc hen 96 _ (gtQ cmp x) xs sp (fun y _ => gt96 enc hen o cmp ho x y)) ?_ | refine r_mv_p rfl ?_ | refine r_sem rfl rfl rfl rfl ?_
      | refine r_nil ?_ | refine r_semF rfl rfl rfl rfl ?_ | refine run_seq ?_ | refine run_reg ?_ | refine run_skip ?_ | refine fin_seq ?_)
    refine run_cond rfl (fun h2 => ?_) (fun h2 => ?_)
    · have hk2 : (((xs.map enc).length : Nat) : Int) = k := by
        simp at h2
        rw [List.length_map, ← hk, putI, if_pos h2]
      repeat (first
        | refine r_calli (fs := [36]) rfl rfl rfl rfl rfl rfl (hins _ hk2) (by decide) (Or.inr rfl) ?_ | refine r_mv_p rfl ?_ | refine r_loadB rfl rfl ?_ | refine r_sem rfl rfl rfl rfl ?_
        | refine r_nil ?_ | refine r_bsl1 rfl (by assumption) rfl ?_ | refine r_mv_rowA rfl rfl ?_ | refine run_seq ?_ | refine run_reg ?_ | refine run_ret ?_ | refine fin_seq ?_)
      exact fin_row (by rfl) (by rfl) (by rfl) (by rfl)
    · have hk2 : firstI (gtQ cmp x) xs 0 = k := by
        simp at h2
        rw [← hk, putI, if_neg (by omega)]
      repeat (first
        | refine r_calli (fs := [36]) rfl rfl rfl rfl rfl rfl (hins _ hk2) (by decide) (Or.inr rfl) ?_ | refine r_mv_p rfl ?_ | refine r_loadB rfl rfl ?_ | refine r_nil ?_
        | refine r_bsl1 rfl (by assumption) rfl ?_ | refine r_mv_rowA rfl rfl ?_ | refine run_seq ?_ | refine run_reg ?_ | refine run_skip ?_ | refine run_ret ?_ | refine fin_seq ?_)
      exact fin_row (by rfl) (by rfl) (by rfl) (by rfl)
theorem gt132 {α : Type} (enc : α → List PV) (hen : ∀ x, (enc x).length = 6) (o : FuncId) (cmp : α → α → Int) (ho : ∀ a b, Ret Tryz.prog o [.agg (enc a), .agg (enc b)] (.v (.int .i64 (cmp a b)))) (x y : α) :
    Ret Tryz.prog 132 [.agg (enc y), .ref [.clo o []] 0, .ref (enc x) 0] (.v (.bool (gtQ cmp x y))) := by
  refine ret132 rfl fun hbd => ?_
  have h1 := hen x
  have h2 := hen y
  unfold c132
  repeat (first
    | refine r_callv rfl (ho y x) ?_ | refine r_mv_p rfl ?_ | refine r_loadA rfl ?_ | refine r_loadB rfl rfl ?_ | refine r_sem rfl rfl rfl rfl ?_ | refine r_nil ?_
    | refine r_box rfl rfl rfl ?_ | refine run_seq ?_ | refine run_reg ?_ | refine run_ret ?_ | refine fin_seq ?_)
  exact fin_out rfl rfl
theorem put101 {α : Type} (enc : α → List PV) (hen : ∀ x, (enc x).length = 6) (o : FuncId) (cmp : α → α → Int) (ho : ∀ a b, Ret Tryz.prog o [.agg (enc a), .agg (enc b)] (.v (.int .i64 (cmp a b)))) (x : α) (xs : List α) (sp : List (List PV)) (hbig : (xs.length + 1) * 72 ≤ 140737488355328) :
    Ret Tryz.prog 101 [.agg [.clo o []], .sl (xs.map enc) sp, .agg (enc x)] (.sl ((putL cmp x xs).map enc) []) := by
  refine RetN.ret (ty := 59) (es := 6) ?_
  refine row101 rfl fun hbd => ?_
  have hx := hen x
  have hxs : ∀ z ∈ xs.map enc, z.length = 6 := by intro z hz; obtain ⟨y, _, rfl⟩ := List.mem_map.1 hz; exact hen y
  unfold c101
  have hb1 : (xs.map enc).length * 72 ≤ 140737488355328 := by rw [List.length_map]; omega
  repeat (first
    | refine r_calln (fs := []) rfl rfl rfl (clone130 (xs.map enc) sp hxs hb1) rfl ?_ | refine r_call rfl (find86 enc hen o cmp ho x xs sp) ?_ | refine r_mv_p rfl ?_
    | refine r_loadB rfl rfl ?_ | refine r_sem rfl rfl rfl rfl ?_ | refine r_nil ?_ | refine r_box rfl rfl rfl ?_ | refine r_mv_nil rfl ?_ | refine r_mv_rowA rfl rfl ?_
    | refine run_seq ?_ | refine run_reg ?_ | refine fin_seq ?_)
  refine run_cond rfl (fun h => ?_) (fun h => ?_)
  · obtain ⟨k, hk, hlt⟩ := findB_lt h
    have hL : putL cmp x xs = xs.set k x := by
      have h' : findB (eqQ cmp x) xs = true := h
      have hk' : findI (eqQ cmp x) xs = k := hk
      rw [putL, if_pos h', hk']; rfl
    rw [hk, hL]
    have hlt' : k < (xs.map enc).length := by simpa using hlt
    have hi : (xs.map enc)[k]? = some (enc xs[k]) := by simp [hlt]
    have hlx := hen xs[k]
    repeat (first
      | refine r_store_rp rfl rfl hi rfl rfl (And.intro hx (by omega)) ?_ | refine r_mv_p rfl ?_ | refine r_loadB rfl rfl ?_ | refine r_nil ?_ | refine r_mv_rowA rfl rfl ?_
      | refine r_iad_row rfl rfl (by first | rfl | assumption | omega | (simp; done) | (simp; omega)) rfl (by first | rfl | assumption | omega | (simp; done) | (simp; omega)) ?_
      | refine run_seq ?_ | refine run_reg ?_ | refine run_ret ?_ | refine fin_seq ?_ | refine fin_seq_r ?_)
    refine fin_row rfl (by simp) rfl ?_
    rw [show splice (enc xs[k]) 0 (enc x) = enc x by simp [splice, hlx, hx], List.map_set]
    rfl
  · have h' : ¬ findB (eqQ cmp x) xs = true := by rw [show findB (eqQ cmp x) xs = false from h]; exact Bool.false_ne_true
    have hL : putL cmp x xs = xs.take (putI (gtQ cmp x) xs).toNat ++ x :: xs.drop (putI (gtQ cmp x) xs).toNat := by rw [putL, if_neg h']
    obtain ⟨k, hk, hle⟩ := putI_le (gtQ cmp x) xs
    have hE : (putL cmp x xs).map enc = (xs.map enc).take k ++ enc x :: (xs.map enc).drop k := by rw [hL, hk]; simp
    have hins : ∀ a : Int, a = k → RetI Tryz.prog 133 59 6 (xs.map enc) [.v (.int .i64 a), .sl [enc x] []] ((xs.map enc).take k ++ enc x :: (xs.map enc).drop k) := fun a ha => insert133 (xs.map enc) (enc x) [] k a ha (by simpa using hle) hx (by simpa using hbig)
    rw [hE]
    repeat (first
      | refine r_callF rfl rfl rfl (indexFunc117 enc hen 132 _ (gtQ cmp x) xs sp (fun y _ => gt132 enc hen o cmp ho x y)) ?_ | refine r_mv_p rfl ?_ | refine r_sem rfl rfl rfl rfl ?_
      | refine r_nil ?_ | refine r_semF rfl rfl rfl rfl ?_ | refine run_seq ?_ | refine run_reg ?_ | refine run_skip ?_ | refine fin_seq ?_)
    refine run_cond rfl (fun h2 => ?_) (fun h2 => ?_)
    · have hk2 : (((xs.map enc).length : Nat) : Int) = k := by
        simp at h2
        rw [List.length_map, ← hk, putI, if_pos h2]
      repeat (first
        | refine r_calli (fs := [36]) rfl rfl rfl rfl rfl rfl (hins _ hk2) (by decide) (Or.inr rfl) ?_ | refine r_mv_p rfl ?_ | refine r_loadB rfl rfl ?_ | refine r_sem rfl rfl rfl rfl ?_
        | refine r_nil ?_ | refine r_bsl1 rfl (by assumption) rfl ?_ | refine r_mv_rowA rfl rfl ?_ | refine run_seq ?_ | refine run_reg ?_ | refine run_ret ?_ | refine fin_seq ?_)
      exact fin_row (by rfl) (by rfl) (by rfl) (by rfl)
    · have hk2 : firstI (gtQ cmp x) xs 0 = k := by
        simp at h2
        rw [← hk, putI, if_neg (by omega)]
      repeat (first
        | refine r_calli (fs := [36]) rfl rfl rfl rfl rfl rfl (hins _ hk2) (by decide) (Or.inr rfl) ?_ | refine r_mv_p rfl ?_ | refine r_loadB rfl rfl ?_ | refine r_nil ?_
        | refine r_bsl1 rfl (by assumption) rfl ?_ | refine r_mv_rowA rfl rfl ?_ | refine run_seq ?_ | refine run_reg ?_ | refine run_skip ?_ | refine run_ret ?_ | refine fin_seq ?_)
      exact fin_row (by rfl) (by rfl) (by rfl) (by rfl)
theorem gt138 {α : Type} (enc : α → List PV) (hen : ∀ x, (enc x).length = 6) (o : FuncId) (cmp : α → α → Int) (ho : ∀ a b, Ret Tryz.prog o [.agg (enc a), .agg (enc b)] (.v (.int .i64 (cmp a b)))) (x y : α) :
    Ret Tryz.prog 138 [.agg (enc y), .ref [.clo o []] 0, .ref (enc x) 0] (.v (.bool (gtQ cmp x y))) := by
  refine ret138 rfl fun hbd => ?_
  have h1 := hen x
  have h2 := hen y
  unfold c138
  repeat (first
    | refine r_callv rfl (ho y x) ?_ | refine r_mv_p rfl ?_ | refine r_loadA rfl ?_ | refine r_loadB rfl rfl ?_ | refine r_sem rfl rfl rfl rfl ?_ | refine r_nil ?_
    | refine r_box rfl rfl rfl ?_ | refine run_seq ?_ | refine run_reg ?_ | refine run_ret ?_ | refine fin_seq ?_)
  exact fin_out rfl rfl
theorem put104 {α : Type} (enc : α → List PV) (hen : ∀ x, (enc x).length = 6) (o : FuncId) (cmp : α → α → Int) (ho : ∀ a b, Ret Tryz.prog o [.agg (enc a), .agg (enc b)] (.v (.int .i64 (cmp a b)))) (x : α) (xs : List α) (sp : List (List PV)) (hbig : (xs.length + 1) * 64 ≤ 140737488355328) :
    Ret Tryz.prog 104 [.agg [.clo o []], .sl (xs.map enc) sp, .agg (enc x)] (.sl ((putL cmp x xs).map enc) []) := by
  refine RetN.ret (ty := 69) (es := 6) ?_
  refine row104 rfl fun hbd => ?_
  have hx := hen x
  have hxs : ∀ z ∈ xs.map enc, z.length = 6 := by intro z hz; obtain ⟨y, _, rfl⟩ := List.mem_map.1 hz; exact hen y
  unfold c104
  have hb1 : (xs.map enc).length * 64 ≤ 140737488355328 := by rw [List.length_map]; omega
  repeat (first
    | refine r_calln (fs := []) rfl rfl rfl (clone137 (xs.map enc) sp hxs hb1) rfl ?_ | refine r_call rfl (find103 enc hen o cmp ho x xs sp) ?_ | refine r_mv_p rfl ?_
    | refine r_loadB rfl rfl ?_ | refine r_sem rfl rfl rfl rfl ?_ | refine r_nil ?_ | refine r_box rfl rfl rfl ?_ | refine r_mv_nil rfl ?_ | refine r_mv_rowA rfl rfl ?_
    | refine run_seq ?_ | refine run_reg ?_ | refine fin_seq ?_)
  refine run_cond rfl (fun h => ?_) (fun h => ?_)
  · obtain ⟨k, hk, hlt⟩ := findB_lt h
    have hL : putL cmp x xs = xs.set k x := by
      have h' : findB (eqQ cmp x) xs = true := h
      have hk' : findI (eqQ cmp x) xs = k := hk
      rw [putL, if_pos h', hk']; rfl
    rw [hk, hL]
    have hlt' : k < (xs.map enc).length := by simpa using hlt
    have hi : (xs.map enc)[k]? = some (enc xs[k]) := by simp [hlt]
    have hlx := hen xs[k]
    repeat (first
      | refine r_store_rp rfl rfl hi rfl rfl (And.intro hx (by omega)) ?_ | refine r_mv_p rfl ?_ | refine r_loadB rfl rfl ?_ | refine r_nil ?_ | refine r_mv_rowA rfl rfl ?_
      | refine r_iad_row rfl rfl (by first | rfl | assumption | omega | (simp; done) | (simp; omega)) rfl (by first | rfl | assumption | omega | (simp; done) | (simp; omega)) ?_
      | refine run_seq ?_ | refine run_reg ?_ | refine run_ret ?_ | refine fin_seq ?_ | refine fin_seq_r ?_)
    refine fin_row rfl (by simp) rfl ?_
    rw [show splice (enc xs[k]) 0 (enc x) = enc x by simp [splice, hlx, hx], List.map_set]
    rfl
  · have h' : ¬ findB (eqQ cmp x) xs = true := by rw [show findB (eqQ cmp x) xs = false from h]; exact Bool.false_ne_true
    have hL : putL cmp x xs = xs.take (putI (gtQ cmp x) xs).toNat ++ x :: xs.drop (putI (gtQ cmp x) xs).toNat := by rw [putL, if_neg h']
    obtain ⟨k, hk, hle⟩ := putI_le (gtQ cmp x) xs
    have hE : (putL cmp x xs).map enc = (xs.map enc).take k ++ enc x :: (xs.map enc).drop k := by rw [hL, hk]; simp
    have hins : ∀ a : Int, a = k → RetI Tryz.prog 139 69 6 (xs.map enc) [.v (.int .i64 a), .sl [enc x] []] ((xs.map enc).take k ++ enc x :: (xs.map enc).drop k) := fun a ha => insert139 (xs.map enc) (enc x) [] k a ha (by simpa using hle) hx (by simpa using hbig)
    rw [hE]
    repeat (first
      | refine r_callF rfl rfl rfl (indexFunc135 enc hen 138 _ (gtQ cmp x) xs sp (fun y _ => gt138 enc hen o cmp ho x y)) ?_ | refine r_mv_p rfl ?_ | refine r_sem rfl rfl rfl rfl ?_
      | refine r_nil ?_ | refine r_semF rfl rfl rfl rfl ?_ | refine run_seq ?_ | refine run_reg ?_ | refine run_skip ?_ | refine fin_seq ?_)
    refine run_cond rfl (fun h2 => ?_) (fun h2 => ?_)
    · have hk2 : (((xs.map enc).length : Nat) : Int) = k := by
        simp at h2
        rw [List.length_map, ← hk, putI, if_pos h2]
      repeat (first
        | refine r_calli (fs := [36]) rfl rfl rfl rfl rfl rfl (hins _ hk2) (by decide) (Or.inr rfl) ?_ | refine r_mv_p rfl ?_ | refine r_loadB rfl rfl ?_ | refine r_sem rfl rfl rfl rfl ?_
        | refine r_nil ?_ | refine r_bsl1 rfl (by assumption) rfl ?_ | refine r_mv_rowA rfl rfl ?_ | refine run_seq ?_ | refine run_reg ?_ | refine run_ret ?_ | refine fin_seq ?_)
      exact fin_row (by rfl) (by rfl) (by rfl) (by rfl)
    · have hk2 : firstI (gtQ cmp x) xs 0 = k := by
        simp at h2
        rw [← hk, putI, if_neg (by omega)]
      repeat (first
        | refine r_calli (fs := [36]) rfl rfl rfl rfl rfl rfl (hins _ hk2) (by decide) (Or.inr rfl) ?_ | refine r_mv_p rfl ?_ | refine r_loadB rfl rfl ?_ | refine r_nil ?_
        | refine r_bsl1 rfl (by assumption) rfl ?_ | refine r_mv_rowA rfl rfl ?_ | refine run_seq ?_ | refine run_reg ?_ | refine run_skip ?_ | refine run_ret ?_ | refine fin_seq ?_)
      exact fin_row (by rfl) (by rfl) (by rfl) (by rfl)
theorem drop100 {α : Type} (enc : α → List PV) (hen : ∀ x, (enc x).length = 6) (o : FuncId) (cmp : α → α → Int) (ho : ∀ a b, Ret Tryz.prog o [.agg (enc a), .agg (enc b)] (.v (.int .i64 (cmp a b)))) (x : α) (xs : List α) (sp : List (List PV)) (hbig : xs.length * 72 ≤ 140737488355328) :
    RetN Tryz.prog 100 [.agg [.clo o []], .sl (xs.map enc) sp, .agg (enc x)] 59 6 ((dropL cmp x xs).map enc) := by
  refine row100 rfl fun hbd => ?_
  have hx := hen x
  have hxs : ∀ z ∈ xs.map enc, z.length = 6 := by intro z hz; obtain ⟨y, _, rfl⟩ := List.mem_map.1 hz; exact hen y
  have hb : xs.length ≤ 9223372036854775806 := by omega
  unfold c100
  have hb1 : (xs.map enc).length * 72 ≤ 140737488355328 := by rw [List.length_map]; omega
  repeat (first
    | refine r_calln (fs := []) rfl rfl rfl (clone130 (xs.map enc) sp hxs hb1) rfl ?_ | refine r_call rfl (find86 enc hen o cmp ho x xs sp) ?_ | refine r_mv_p rfl ?_
    | refine r_loadB rfl rfl ?_ | refine r_sem rfl rfl rfl rfl ?_ | refine r_nil ?_ | refine r_box rfl rfl rfl ?_ | refine r_mv_nil rfl ?_ | refine r_mv_rowA rfl rfl ?_
    | refine run_seq ?_ | refine run_reg ?_ | refine fin_seq ?_)
  refine run_cond rfl (fun h => ?_) (fun h => ?_)
  · obtain ⟨k, hk, hlt⟩ := findB_lt h
    have h' : findB (eqQ cmp x) xs = true := h
    have hk' : findI (eqQ cmp x) xs = k := hk
    have hL : (dropL cmp x xs).map enc = (xs.map enc).take k ++ (xs.map enc).drop (k + 1) := by rw [dropL, if_pos h', hk']; simp
    rw [hk, hL]
    have hdel := delete131 (xs.map enc) k k ((k : Int) + 1) rfl rfl (by simpa using hlt)
    repeat (first
      | refine r_calli (fs := []) rfl rfl rfl rfl rfl rfl hdel (by decide) (Or.inr rfl) ?_ | refine r_mv_p rfl ?_ | refine r_addA rfl rfl ?_ | refine r_nil ?_ | refine r_mv_rowA rfl rfl ?_
      | refine run_seq ?_ | refine run_reg ?_ | refine run_ret ?_ | refine fin_seq ?_)
    exact fin_row (by rfl) (by rfl) (by rfl) (by rfl)
  · have h' : ¬ findB (eqQ cmp x) xs = true := by rw [show findB (eqQ cmp x) xs = false from h]; exact Bool.false_ne_true
    have hL : dropL cmp x xs = xs := by rw [dropL, if_neg h']
    rw [hL]
    repeat (first
      | refine r_nil ?_ | refine r_mv_rowA rfl rfl ?_ | refine run_seq ?_ | refine run_reg ?_ | refine run_skip ?_ | refine run_ret ?_ | refine fin_seq ?_)
    exact fin_row (by rfl) (by rfl) (by rfl) (by rfl)
theorem dropR100 {α : Type} (enc : α → List PV) (hen : ∀ x, (enc x).length = 6) (o : FuncId) (cmp : α → α → Int) (ho : ∀ a b, Ret Tryz.prog o [.agg (enc a), .agg (enc b)] (.v (.int .i64 (cmp a b)))) (x : α) (xs : List α) (sp : List (List PV)) (hbig : xs.length * 72 ≤ 140737488355328) :
    Ret Tryz.prog 100 [.agg [.clo o []], .sl (xs.map enc) sp, .agg (enc x)] (.sl ((dropL cmp x xs).map enc) []) := (drop100 enc hen o cmp ho x xs sp hbig).ret
end Go.Fw
