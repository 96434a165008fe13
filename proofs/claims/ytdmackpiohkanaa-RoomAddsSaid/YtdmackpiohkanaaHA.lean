/-
  Contracts: comparing texts.
-/
import Derived.Test.YtdmackpiohkanaaIrA
import Derived.Test.YtdmackpiohkanaaFwV
set_option linter.unusedVariables false
set_option linter.unusedSimpArgs false
set_option maxRecDepth 10000
namespace Go.Fw
open Go.Proofs

theorem isNaN_ok (a : ByteArray) : Ret Try.prog 167 [.v (.string a)] (.v (.bool false)) := by
  refine ret167 rfl fun hbd => ?_
  unfold c167
  repeat (first
    | refine r_mv_p rfl ?_ | refine r_sem rfl rfl rfl rfl ?_ | refine r_nil ?_ | refine run_seq ?_ | refine run_reg ?_ | refine run_ret ?_ | refine fin_seq ?_)
  exact fin_out rfl (by simp)

theorem compare_ok (a b : ByteArray) : Ret Try.prog 132 [.v (.string a), .v (.string b)] (.v (.int .i64 (cmpS a b))) := by
  refine ret132 rfl fun hbd => ?_
  unfold c132
  repeat (first
    | refine r_call rfl (isNaN_ok _) ?_ | refine r_mv_p rfl ?_ | refine r_sem rfl rfl rfl rfl ?_ | refine r_nil ?_ | refine run_seq ?_ | refine run_reg ?_ | refine run_skip ?_
    | refine fin_seq ?_ | refine run_condF rfl ?_)
  refine run_cond rfl (fun h => ?_) (fun h => ?_)
  · repeat (first
      | refine r_mv_p rfl ?_ | refine r_nil ?_ | refine run_seq ?_ | refine run_reg ?_ | refine run_ret ?_ | refine fin_seq ?_ | refine fin_seq_r ?_)
    exact fin_out rfl (by simp [cmpS, h])
  · repeat (first
      | refine r_mv_p rfl ?_ | refine r_sem rfl rfl rfl rfl ?_ | refine r_nil ?_ | refine run_seq ?_ | refine run_reg ?_ | refine run_skip ?_ | refine fin_seq ?_)
    refine run_cond rfl (fun h2 => ?_) (fun h2 => ?_)
    · repeat (first
        | refine r_mv_p rfl ?_ | refine r_nil ?_ | refine run_seq ?_ | refine run_reg ?_ | refine run_ret ?_ | refine fin_seq ?_ | refine fin_seq_r ?_)
      exact fin_out rfl (by
        simp at h2
        have h3 : slt b a = true := by
          cases h4 : slt b a with
          | true => rfl
          | false => exact absurd (slt_total h h4) h2.2
        simp [cmpS, h, h3])
    · repeat (first
        | refine r_mv_p rfl ?_ | refine r_nil ?_ | refine run_seq ?_ | refine run_reg ?_ | refine run_skip ?_ | refine run_ret ?_ | refine fin_seq ?_)
      exact fin_out rfl (by rw [h] at h2; simp at h2; subst h2; simp [cmpS, slt_irrefl])

theorem indexFunc134 {α : Type} (enc : α → List PV) (hen : ∀ x, (enc x).length = 14) (f : FuncId) (caps : List PV) (q : α → Bool) (xs : List α) (sp : List (List PV)) (hq : ∀ x ∈ xs, Ret Try.prog f (.agg (enc x) :: caps) (.v (.bool (q x)))) :
    Ret Try.prog 134 [.sl (xs.map enc) sp, .clo f caps] (.v (.int .i64 (firstI q xs 0))) := by
  refine ret134 rfl fun hbd => ?_
  have hb : xs.length ≤ 9223372036854775807 := by
    have := hbd _ (List.mem_cons_self)
    simp only [PV.bd, PV.bd1, List.length_append, List.length_map, maxLen] at this
    omega
  unfold c134
  repeat (first
    | refine r_mv_p rfl ?_ | refine r_sem rfl rfl rfl rfl ?_ | refine r_nil ?_ | refine run_seq ?_ | refine run_reg ?_ | refine run_block ?_ | refine fin_seq ?_)
  refine run_weak (weak_S ?_ ?_) (run_inv (fun i : Nat => S [(0, .p (.sl (xs.map enc) sp)), (1, .p (.clo f caps)), (4, .p (.v (.int .i64 0))), (7, .p (.v (.int .i64 ((xs.map enc).length : Nat)))), (8, .p (.v (.int .i64 (i : Nat))))] [])
    (fun i => i ≤ xs.length ∧ firstI q xs 0 = firstI q (xs.drop i) i) (fun i => xs.length - i) ?_ 0 ⟨Nat.zero_le _, rfl⟩)
  · exact ⟨rfl, rfl, rfl, rfl, rfl, trivial⟩
  · trivial
  intro i hi ih
  obtain ⟨hi, hfst⟩ := hi
  repeat (first
    | refine r_sem rfl rfl rfl rfl ?_ | refine r_nil ?_ | refine run_seq ?_ | refine run_reg ?_ | refine fin_seq ?_)
  refine run_cond rfl (fun h => ?_) (fun h => ?_)
  · have hlt : i < xs.length := by simpa using h
    have hx : (xs.map enc)[i]? = some (enc xs[i]) := by simp [hlt]
    have hdrop : xs.drop i = xs[i] :: xs.drop (i + 1) := List.drop_eq_getElem_cons hlt
    have hen' := hen xs[i]
    repeat (first
      | refine r_callv rfl (hq xs[i] (by simp)) ?_ | refine r_mv_p rfl ?_ | refine r_loadA rfl ?_ | refine r_nil ?_ | refine r_iadA rfl rfl ?_ | refine run_seq ?_ | refine run_reg ?_
      | refine run_block ?_ | refine run_skip ?_ | refine fin_seq ?_)
    refine run_cond rfl (fun h2 => ?_) (fun h2 => ?_)
    · repeat (first
        | refine r_mv_p rfl ?_ | refine r_nil ?_ | refine run_seq ?_ | refine run_reg ?_ | refine run_ret ?_ | refine fin_seq ?_ | refine fin_seq_r ?_ | refine fin_blk_r ?_
        | refine fin_loop_r ?_)
      exact fin_out rfl (by rw [hfst, hdrop]; simp [firstI, h2])
    · repeat (first
        | refine r_mv_p rfl ?_ | refine r_addA rfl rfl ?_ | refine r_nil ?_ | refine run_reg ?_ | refine run_skip ?_ | refine fin_seq ?_ | refine fin_blk ?_)
      refine fin_loop (run_weak (weak_S ?_ ?_) (ih (i + 1) ⟨hlt, ?_⟩ (by omega)))
      · exact ⟨rfl, rfl, rfl, rfl, rfl, trivial⟩
      · trivial
      · rw [hfst, hdrop]; simp [firstI, h2]
  · have hlt : i = xs.length := by simp at h; omega
    repeat (first
      | refine r_mv_p rfl ?_ | refine r_nil ?_ | refine run_seq ?_ | refine run_reg ?_ | refine run_exit ?_ | refine run_ret ?_ | refine fin_seq ?_ | refine fin_seq_e ?_
      | refine fin_blk_e ?_ | refine fin_loop_e ?_)
    exact fin_out rfl (by rw [hfst, hlt]; simp [firstI])
end Go.Fw
