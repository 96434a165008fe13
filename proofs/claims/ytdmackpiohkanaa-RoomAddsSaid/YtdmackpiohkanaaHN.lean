/-
  Names, by the program and by the document.
-/
import Derived.Test.YtdmackpiohkanaaHL
import Derived.Test.YtdmackpiohkanaaIrD
set_option linter.unusedVariables false
set_option linter.unusedSimpArgs false
set_option maxRecDepth 10000
namespace Go.Fw
open Go.Proofs

theorem r_sidx {P : Program} {Q : Ex → St → Prop} {ks : List Kf} {rs : List RG} {l : List (Nat × T)} {m : List (Nat × Option Own)} {d : Nat} {x y : Opd} {s : ByteArray} {k : IntKind} {j : Int} {b : UInt8} (hx : (S l m).ev x = .p (.v (.string s))) (hy : (S l m).ev y = .p (.v (.int k j))) (h0 : 0 ≤ j) (hb : s.data.toList[j.toNat]? = some b)
    (h : RunR P Q ks rs (S ((d, .p (.v (.int .u8 ((b.toNat : Nat) : Int)))) :: l) m)) : RunR P Q ks (⟨some d, .sidx, [x, y], none⟩ :: rs) (S l m) := by
  have hlt : j.toNat < s.size := by
    have := (List.getElem?_eq_some_iff.1 hb).1
    simpa using this
  have hg : s[j.toNat]'hlt = b := by
    obtain ⟨h1, h2⟩ := List.getElem?_eq_some_iff.1 hb
    rw [← h2]; rfl
  exact r_sem («as» := [.p (.v (.string s)), .p (.v (.int k j))]) rfl (by simp only [St.resL, St.res, hx, hy, lookT]; rfl) (by simp only [sem]; rw [dif_pos ⟨h0, hlt⟩, hg]) rfl h
theorem size_len (s : Str) : s.data.toList.length = s.size := by simp
def oddTo (s : Str) (i : Nat) : Bool := decide (s = ⟨#[]⟩) || (s.data.toList.take i).any badB
theorem oddTo_succ {s : Str} {i : Nat} {b : UInt8} (hb : s.data.toList[i]? = some b) : oddTo s (i + 1) = (oddTo s i || badB b) := by
  obtain ⟨hlt, rfl⟩ := List.getElem?_eq_some_iff.1 hb
  unfold oddTo
  rw [← List.take_append_getElem hlt, List.any_append, ← Bool.or_assoc]
  simp
set_option maxHeartbeats 2000000 in
theorem nums106 (s : Str) : Ret Try.prog 106 [.v (.string s)] (.v (.int .i64 (nameE s))) := by
  refine ret106 rfl fun hbd => ?_
  unfold c106
  repeat (first
    | refine r_mv_p rfl ?_ | refine r_sem rfl rfl rfl rfl ?_ | refine r_nil ?_ | refine run_seq ?_ | refine run_reg ?_ | refine fin_seq ?_)
  refine run_cond rfl (fun h => ?_) (fun h => ?_)
  · repeat (first
      | refine r_mv_p rfl ?_ | refine r_nil ?_ | refine run_seq ?_ | refine run_reg ?_ | refine run_ret ?_ | refine fin_seq ?_ | refine fin_seq_r ?_)
    exact fin_out rfl (by rw [nameE, if_pos (of_decide_eq_true h)])
  have hs12 : s.size ≤ 12 := by have := of_decide_eq_false h; omega
  have hE : nameE s = if nameBad s = true then 3 else 0 := by rw [nameE, if_neg (of_decide_eq_false h)]
  repeat (first
    | refine r_mv_p rfl ?_ | refine r_sem rfl rfl rfl rfl ?_ | refine r_nil ?_ | refine run_seq ?_ | refine run_reg ?_ | refine run_block ?_ | refine run_skip ?_ | refine fin_seq ?_)
  refine run_weak (weak_S ?_ ?_) (run_inv (fun i : Nat => S [(0, .p (.v (.string s))), (3, .p (.v (.bool (oddTo s i)))), (11, .p (.v (.int .i64 (s.size : Nat)))), (12, .p (.v (.int .i64 (i : Nat))))] [])
    (fun i => i ≤ s.size) (fun i => s.size - i) ?_ 0 (Nat.zero_le _))
  · exact ⟨rfl, tb rfl (by simp [oddTo]), rfl, rfl, trivial⟩
  · trivial
  intro i hi ih
  repeat (first
    | refine r_sem rfl rfl rfl rfl ?_ | refine r_nil ?_ | refine run_seq ?_ | refine run_reg ?_ | refine fin_seq ?_)
  refine run_cond rfl (fun h2 => ?_) (fun h2 => ?_)
  · have hlt : i < s.size := by simpa using h2
    obtain ⟨b, hb⟩ : ∃ b, s.data.toList[i]? = some b := ⟨_, List.getElem?_eq_getElem (by rw [size_len]; exact hlt)⟩
    have hsuc := oddTo_succ hb
    obtain ⟨o, ho⟩ : ∃ o, o = oddTo s i := ⟨_, rfl⟩
    rw [← ho] at hsuc ⊢
    cases o with
    | true =>
      repeat (first
        | refine r_mv_p rfl ?_ | refine r_skipA rfl ?_ | refine r_addA rfl rfl ?_ | refine r_pickT rfl rfl rfl ?_ | refine r_nil ?_ | refine run_seq ?_ | refine run_reg ?_
        | refine run_block ?_ | refine run_skip ?_ | refine fin_seq ?_ | refine fin_blk ?_)
      refine fin_loop (run_weak (weak_S ?_ ?_) (ih (i + 1) hlt (by omega)))
      · exact ⟨rfl, tb rfl (by rw [hsuc]; rfl), rfl, rfl, trivial⟩
      · trivial
    | false =>
      cases hb1 : decide ((b.toNat : Int) ≤ 32) with
      | true =>
        repeat (first
          | refine r_sidx rfl rfl (by omega) hb ?_ | refine r_mv_p rfl ?_ | refine r_doA rfl ?_ | refine r_skipA rfl ?_ | refine r_addA rfl rfl ?_ | refine r_pickT rfl rfl rfl ?_
          | refine r_pickF rfl rfl rfl ?_ | refine r_sem rfl rfl rfl rfl ?_ | refine r_nil ?_ | refine run_seq ?_ | refine run_reg ?_ | refine run_block ?_ | refine run_skip ?_
          | refine fin_seq ?_ | refine fin_blk ?_)
        refine fin_loop (run_weak (weak_S ?_ ?_) (ih (i + 1) hlt (by omega)))
        · exact ⟨rfl, tb rfl (by rw [hsuc, badB, hb1]; rfl), rfl, rfl, trivial⟩
        · trivial
      | false =>
        repeat (first
          | refine r_sidx rfl rfl (by omega) hb ?_ | refine r_mv_p rfl ?_ | refine r_doA rfl ?_ | refine r_addA rfl rfl ?_ | refine r_pickF rfl rfl rfl ?_ | refine r_sem rfl rfl rfl rfl ?_
          | refine r_nil ?_ | refine run_seq ?_ | refine run_reg ?_ | refine run_block ?_ | refine run_skip ?_ | refine fin_seq ?_ | refine fin_blk ?_)
        refine fin_loop (run_weak (weak_S ?_ ?_) (ih (i + 1) hlt (by omega)))
        · exact ⟨rfl, tb rfl (by rw [hsuc, badB, hb1]; rfl), rfl, rfl, trivial⟩
        · trivial
  · have hlt : i = s.size := by simp at h2; omega
    have hO : oddTo s i = nameBad s := by rw [hlt, oddTo, nameBad, List.take_of_length_le (by rw [size_len]; omega)]
    rw [hO, hE]
    cases hn : nameBad s with
    | true =>
      repeat (first
        | refine r_mv_p rfl ?_ | refine r_nil ?_ | refine run_seq ?_ | refine run_reg ?_ | refine run_exit ?_ | refine run_ret ?_ | refine fin_seq ?_ | refine fin_seq_e ?_
        | refine fin_seq_r ?_ | refine fin_blk_e ?_ | refine fin_loop_e ?_ | refine run_condT rfl ?_)
      exact fin_out rfl rfl
    | false =>
      repeat (first
        | refine r_mv_p rfl ?_ | refine r_nil ?_ | refine run_seq ?_ | refine run_reg ?_ | refine run_skip ?_ | refine run_exit ?_ | refine run_ret ?_ | refine fin_seq ?_
        | refine fin_seq_e ?_ | refine fin_blk_e ?_ | refine fin_loop_e ?_ | refine run_condF rfl ?_)
      exact fin_out rfl rfl
set_option maxHeartbeats 2000000 in
theorem refName109 (s : Str) : Ret Try.prog 109 [.v (.string s)] (.v (.int .i64 (nameE s))) := by
  refine ret109 rfl fun hbd => ?_
  unfold c109
  repeat (first
    | refine r_mv_p rfl ?_ | refine r_sem rfl rfl rfl rfl ?_ | refine r_nil ?_ | refine run_seq ?_ | refine run_reg ?_ | refine fin_seq ?_)
  refine run_cond rfl (fun h => ?_) (fun h => ?_)
  · repeat (first
      | refine r_mv_p rfl ?_ | refine r_nil ?_ | refine run_seq ?_ | refine run_reg ?_ | refine run_ret ?_ | refine fin_seq ?_ | refine fin_seq_r ?_)
    exact fin_out rfl (by rw [nameE, if_pos (of_decide_eq_true h)])
  have hs12 : s.size ≤ 12 := by have := of_decide_eq_false h; omega
  have hE : nameE s = if nameBad s = true then 3 else 0 := by rw [nameE, if_neg (of_decide_eq_false h)]
  repeat (first
    | refine r_mv_p rfl ?_ | refine r_nil ?_ | refine run_seq ?_ | refine run_reg ?_ | refine run_block ?_ | refine run_skip ?_ | refine fin_seq ?_)
  refine run_weak (weak_S ?_ ?_) (run_inv (fun i : Nat => S [(0, .p (.v (.string s))), (3, .p (.v (.int .i64 (i : Nat))))] [])
    (fun i => i ≤ s.size ∧ (s.data.toList.take i).any badB = false) (fun i => s.size - i) ?_ 0 ⟨Nat.zero_le _, by simp⟩)
  · exact ⟨rfl, rfl, trivial⟩
  · trivial
  rintro i ⟨hi, hno⟩ ih
  repeat (first
    | refine r_mv_p rfl ?_ | refine r_sem rfl rfl rfl rfl ?_ | refine r_nil ?_ | refine run_seq ?_ | refine run_reg ?_ | refine fin_seq ?_)
  refine run_cond rfl (fun h2 => ?_) (fun h2 => ?_)
  · have hlt : i < s.size := by simpa using h2
    obtain ⟨b, hb⟩ : ∃ b, s.data.toList[i]? = some b := ⟨_, List.getElem?_eq_getElem (by rw [size_len]; exact hlt)⟩
    obtain ⟨hlt', hbe⟩ := List.getElem?_eq_some_iff.1 hb
    have hbad : badB b = true → nameE s = 3 := fun e => by
      rw [hE, if_pos]
      rw [nameBad, List.any_eq_true.2 ⟨b, List.mem_of_getElem? hb, e⟩, Bool.or_true]
    have hgood : badB b = false → (s.data.toList.take (i + 1)).any badB = false := fun e => by
      rw [← List.take_append_getElem hlt', hbe, List.any_append, hno]; simp [e]
    have hdd : decide ((b.toNat : Int) < 33) = decide ((b.toNat : Int) ≤ 32) := by rw [decide_eq_decide]; omega
    cases hb1 : decide ((b.toNat : Int) < 33) with
    | true =>
      rw [hbad (by rw [badB, ← hdd, hb1]; rfl)]
      repeat (first
        | refine r_sidx rfl rfl (by omega) hb ?_ | refine r_mv_p rfl ?_ | refine r_skipA rfl ?_ | refine r_pickT rfl rfl rfl ?_ | refine r_sem rfl rfl rfl rfl ?_ | refine r_nil ?_
        | refine run_seq ?_ | refine run_reg ?_ | refine run_block ?_ | refine run_skip ?_ | refine run_ret ?_ | refine fin_seq ?_ | refine fin_seq_r ?_ | refine fin_blk_r ?_
        | refine fin_loop_r ?_ | refine run_condT rfl ?_)
      exact fin_out rfl rfl
    | false =>
      cases hb2 : decide ((126 : Int) < (b.toNat : Int)) with
      | true =>
        rw [hbad (by rw [badB, hb2, Bool.or_true])]
        repeat (first
          | refine r_sidx rfl rfl (by omega) hb ?_ | refine r_mv_p rfl ?_ | refine r_doA rfl ?_ | refine r_pickF rfl rfl rfl ?_ | refine r_sem rfl rfl rfl rfl ?_ | refine r_nil ?_
          | refine run_seq ?_ | refine run_reg ?_ | refine run_block ?_ | refine run_skip ?_ | refine run_ret ?_ | refine fin_seq ?_ | refine fin_seq_r ?_ | refine fin_blk_r ?_
          | refine fin_loop_r ?_ | refine run_condT rfl ?_)
        exact fin_out rfl rfl
      | false =>
        repeat (first
          | refine r_sidx rfl rfl (by omega) hb ?_ | refine r_mv_p rfl ?_ | refine r_doA rfl ?_ | refine r_addA rfl rfl ?_ | refine r_pickF rfl rfl rfl ?_ | refine r_sem rfl rfl rfl rfl ?_
          | refine r_nil ?_ | refine run_seq ?_ | refine run_reg ?_ | refine run_block ?_ | refine run_skip ?_ | refine fin_seq ?_ | refine fin_blk ?_ | refine run_condF rfl ?_)
        refine fin_loop (run_weak (weak_S ?_ ?_) (ih (i + 1) ⟨hlt, hgood (by rw [badB, ← hdd, hb1, hb2]; rfl)⟩ (by omega)))
        · exact ⟨rfl, rfl, trivial⟩
        · trivial
  · have hlt : i = s.size := by simp at h2; omega
    have hO : nameBad s = decide (s = ⟨#[]⟩) := by
      rw [List.take_of_length_le (by rw [size_len]; omega)] at hno
      rw [nameBad, hno, Bool.or_false]
    rw [hE, hO]
    cases hn : decide (s = (⟨#[]⟩ : ByteArray)) with
    | true =>
      repeat (first
        | refine r_mv_p rfl ?_ | refine r_sem rfl rfl rfl rfl ?_ | refine r_nil ?_ | refine run_seq ?_ | refine run_reg ?_ | refine run_exit ?_ | refine run_ret ?_ | refine fin_seq ?_
        | refine fin_seq_e ?_ | refine fin_seq_r ?_ | refine fin_blk_e ?_ | refine fin_loop_e ?_ | refine run_condT rfl ?_)
      exact fin_out rfl rfl
    | false =>
      repeat (first
        | refine r_mv_p rfl ?_ | refine r_sem rfl rfl rfl rfl ?_ | refine r_nil ?_ | refine run_seq ?_ | refine run_reg ?_ | refine run_skip ?_ | refine run_exit ?_ | refine run_ret ?_
        | refine fin_seq ?_ | refine fin_seq_e ?_ | refine fin_blk_e ?_ | refine fin_loop_e ?_ | refine run_condF rfl ?_)
      exact fin_out rfl rfl
end Go.Fw
