/-
  Room: which bins are overfull; other sizes, other capacities; by the program and by the document.
-/
import Derived.Test.YtdmackpiohkanaaHZ
set_option linter.unusedVariables false
set_option linter.unusedSimpArgs false
set_option maxRecDepth 10000
namespace Go.Fw
open Go.Proofs

/-- A box may be told as frozen. -/
theorem weak_fzB {l : List (Nat × T)} {m : List (Nat × Option Own)} {d : Nat} {cs : List PV} {fz : Bool} (ho : ol m d = some (.box cs fz)) : Weak (S l m) (S l ((d, some (.box cs true)) :: m)) := by
  rintro B w0 F0 nt a w ⟨F, mp, hi⟩
  obtain ⟨F', hi', _, _⟩ := hi.frz [d]
  have e : frzO (ol m) [d] = ol ((d, some (.box cs true)) :: m) := by
    funext n
    simp only [frzO, ol, List.mem_singleton]
    by_cases h : n = d
    · subst h; simp [ho, Own.freeze]
    · simp [h]
  refine ⟨F', mp, ?_⟩
  have e2 : S l ((d, some (.box cs true)) :: m) = ⟨tl l, frzO (ol m) [d]⟩ := by rw [e]
  rw [e2]; exact hi'

/-! ### Which bins are overfull -/
theorem texts51 (xs ys : List Str) (s1 s2 : List (List PV)) (hsame : xs = ys) : Ret Try.prog 51 [.sl (xs.map one) s1, .sl (ys.map one) s2] (.v (.bool true)) := by
  subst hsame
  refine ret51 rfl fun hbd => ?_
  have hb : xs.length ≤ 9223372036854775807 := by
    have := hbd _ (List.mem_cons_self)
    simp only [PV.bd, PV.bd1, List.length_append, List.length_map, maxLen] at this
    omega
  have h0 : (!decide ((((xs.map one).length : Nat) : Int) = (((xs.map one).length : Nat) : Int))) = false := by simp
  unfold c51
  repeat (first
    | refine r_mv_p rfl ?_ | refine r_sem rfl rfl rfl rfl ?_ | refine r_nil ?_ | refine run_seq ?_ | refine run_reg ?_ | refine run_block ?_ | refine run_skip ?_ | refine fin_seq ?_
    | refine run_condF rfl ?_)
  refine run_weak (weak_S ?_ ?_) (run_inv (fun i : Nat => S [(0, .p (.sl (xs.map one) s1)), (1, .p (.sl (xs.map one) s2)), (4, .p (.v (.bool false))), (5, .p (.v (.int .i64 (i : Nat))))] [])
    (fun i => i ≤ xs.length) (fun i => xs.length - i) ?_ 0 (Nat.zero_le _))
  · exact ⟨rfl, rfl, rfl, rfl, trivial⟩
  · trivial
  intro i hi ih
  repeat (first
    | refine r_mv_p rfl ?_ | refine r_sem rfl rfl rfl rfl ?_ | refine r_nil ?_ | refine run_seq ?_ | refine run_reg ?_ | refine fin_seq ?_)
  refine run_cond rfl (fun h => ?_) (fun h => ?_)
  · have hlt : i < xs.length := by simpa using h
    have hx : (xs.map one)[i]? = some (one xs[i]) := by simp [hlt]
    have hs : (!decide (xs[i] = xs[i])) = false := by simp
    repeat (first
      | refine r_mv_p rfl ?_ | refine r_addA rfl rfl ?_ | refine r_sem rfl rfl rfl rfl ?_ | refine r_nil ?_ | refine r_iadA rfl rfl ?_ | refine run_seq ?_ | refine run_reg ?_
      | refine run_regd rfl ?_ | refine run_block ?_ | refine run_skip ?_ | refine fin_seq ?_ | refine fin_blk ?_ | refine run_condF rfl ?_)
    refine fin_loop (run_weak (weak_S ?_ ?_) (ih (i + 1) hlt (by omega)))
    · exact ⟨rfl, rfl, rfl, rfl, trivial⟩
    · trivial
  · repeat (first
      | refine r_mv_p rfl ?_ | refine r_nil ?_ | refine run_seq ?_ | refine run_reg ?_ | refine run_exit ?_ | refine run_ret ?_ | refine fin_seq ?_ | refine fin_seq_e ?_
      | refine fin_blk_e ?_ | refine fin_loop_e ?_)
    exact fin_out rfl rfl
def overTo (h : House) (i : Nat) : List Str := ((h.bins.xs.take i).filter h.full).map Bin.code
theorem overTo_len (h : House) (i : Nat) : (overTo h i).length ≤ i := by
  unfold overTo
  rw [List.length_map]
  exact Nat.le_trans (List.length_filter_le _ _) (by simp; omega)
theorem overTo_succ (h : House) (i : Nat) (hi : i < h.bins.xs.length) : overTo h (i + 1) = if h.full h.bins.xs[i] = true then overTo h i ++ [h.bins.xs[i].code] else overTo h i := by
  unfold overTo
  rw [← List.take_append_getElem hi, List.filter_append]
  split
  · rename_i hf; simp [hf]
  · rename_i hf; simp [hf]
theorem overTo_all (h : House) {i : Nat} (hi : i = h.bins.xs.length) : overTo h i = h.over := by
  unfold overTo House.over
  rw [List.take_of_length_le (by omega)]
set_option maxHeartbeats 4000000 in
theorem over52 (h : House) (hbig : h.bins.xs.length * 16 ≤ 140737488355328) : Ret Try.prog 52 [.agg h.enc] (.sl (h.over.map one) []) := by
  refine RetN.ret (ty := 9) (es := 1) ?_
  refine row52 rfl fun hbd => ?_
  unfold c52
  repeat (first
    | refine r_mv_p rfl ?_ | refine r_fad rfl rfl ?_ | refine r_sem rfl rfl rfl rfl ?_ | refine r_nil ?_ | refine r_box rfl rfl rfl ?_ | refine r_mv_nil rfl ?_ | refine run_seq ?_
    | refine run_reg ?_ | refine run_block ?_ | refine fin_seq ?_)
  refine run_weak (weak_nilRow 3 23 9 1 rfl rfl) (run_weak (weak_S ?_ ?_) (run_inv (fun i : Nat => S [(1, .own 1 0), (2, .nil), (3, .row 23 ((overTo h i).map one).length), (7, .p (.sl (h.bins.xs.map Bin.enc) h.bins.sp)), (8, .p (.v (.int .i64 ((h.bins.xs.map Bin.enc).length : Nat)))), (9, .p (.v (.int .i64 (i : Nat))))] [(1, some (.box h.enc false)), (23, some (.row 9 1 ((overTo h i).map one) false))])
    (fun i => i ≤ h.bins.xs.length) (fun i => h.bins.xs.length - i) ?_ 0 (Nat.zero_le _)))
  · exact ⟨rfl, rfl, rfl, rfl, rfl, rfl, trivial⟩
  · exact ⟨rfl, rfl, trivial⟩
  intro i hi ih
  repeat (first
    | refine r_sem rfl rfl rfl rfl ?_ | refine r_nil ?_ | refine run_seq ?_ | refine run_reg ?_ | refine fin_seq ?_)
  refine run_cond rfl (fun h1 => ?_) (fun h1 => ?_)
  · have hlt : i < h.bins.xs.length := by simpa using h1
    have hx : (h.bins.xs.map Bin.enc)[i]? = some h.bins.xs[i].enc := by simp [hlt]
    have hs := overTo_succ h i hlt
    obtain ⟨b, hb⟩ : ∃ b, b = h.bins.xs[i] := ⟨_, rfl⟩
    rw [← hb] at hx hs
    have hol := overTo_len h i
    obtain ⟨o, ho⟩ : ∃ o, o = overTo h i := ⟨_, rfl⟩
    rw [← ho] at hs hol ⊢
    have h2 : Ret Try.prog 117 [.agg (amEnc (h.load b.code)), .agg b.enc] (.v (.bool (h.full b))) := beyond117 (h.load b.code) b
    cases hf : h.full b with
    | true =>
      rw [hf] at h2
      have hE : overTo h (i + 1) = o ++ [b.code] := by rw [hs, if_pos hf]
      have he : ∀ z ∈ [one b.code], z.length = 1 := by intro z hz; simp at hz; subst hz; rfl
      have hl : ((o.map one).length + [one b.code].length) * 16 ≤ 140737488355328 := by
        simp only [List.length_map, List.length_cons, List.length_nil]; omega
      repeat (first
        | refine r_call rfl (load115 h b.code) ?_ | refine r_call rfl (h2) ?_ | refine r_appRow (fs := [22]) rfl rfl rfl rfl rfl rfl he hl (by decide) (Or.inl rfl) ?_ | refine r_mv_p rfl ?_
        | refine r_fad rfl rfl ?_ | refine r_addA rfl rfl ?_ | refine r_loadA rfl ?_ | refine r_loadB rfl rfl ?_ | refine r_sem rfl rfl rfl rfl ?_ | refine r_nil ?_ | refine r_iadA rfl rfl ?_
        | refine r_storeAll rfl rfl rfl rfl rfl rfl ?_ | refine r_alloc rfl ?_ | refine r_bsl rfl rfl rfl rfl rfl rfl ?_ | refine r_mv_rowA rfl rfl ?_ | refine run_seq ?_ | refine run_reg ?_
        | refine run_regd rfl ?_ | refine run_block ?_ | refine run_skip ?_ | refine fin_seq ?_ | refine fin_blk ?_ | refine run_condT rfl ?_)
      refine fin_loop (run_weak (weak_S ?_ ?_) (ih (i + 1) hlt (by omega)))
      · exact ⟨rfl, rfl, by rw [hE, List.map_append, List.length_append]; rfl, rfl, rfl, rfl, trivial⟩
      · exact ⟨rfl, by rw [hE, List.map_append]; rfl, trivial⟩
    | false =>
      rw [hf] at h2
      have hE : overTo h (i + 1) = o := by rw [hs, if_neg (by rw [hf]; exact Bool.false_ne_true)]
      repeat (first
        | refine r_call rfl (load115 h b.code) ?_ | refine r_call rfl (h2) ?_ | refine r_mv_p rfl ?_ | refine r_fad rfl rfl ?_ | refine r_addA rfl rfl ?_ | refine r_loadA rfl ?_
        | refine r_loadB rfl rfl ?_ | refine r_sem rfl rfl rfl rfl ?_ | refine r_nil ?_ | refine r_iadA rfl rfl ?_ | refine r_storeAll rfl rfl rfl rfl rfl rfl ?_ | refine r_alloc rfl ?_
        | refine run_seq ?_ | refine run_reg ?_ | refine run_regd rfl ?_ | refine run_block ?_ | refine run_skip ?_ | refine fin_seq ?_ | refine fin_blk ?_ | refine run_condF rfl ?_)
      refine fin_loop (run_weak (weak_S ?_ ?_) (ih (i + 1) hlt (by omega)))
      · exact ⟨rfl, rfl, by rw [hE]; rfl, rfl, rfl, rfl, trivial⟩
      · exact ⟨rfl, by rw [hE]; rfl, trivial⟩
  · have hlt : i = h.bins.xs.length := by simp at h1; omega
    rw [overTo_all h hlt]
    repeat (first
      | refine r_nil ?_ | refine r_mv_rowA rfl rfl ?_ | refine run_seq ?_ | refine run_reg ?_ | refine run_exit ?_ | refine run_ret ?_ | refine fin_seq ?_ | refine fin_seq_e ?_
      | refine fin_blk_e ?_ | refine fin_loop_e ?_)
    exact fin_row rfl rfl rfl rfl
set_option maxHeartbeats 4000000 in
theorem refOver53 (h : House) (hbig : h.bins.xs.length * 16 ≤ 140737488355328) : Ret Try.prog 53 [.agg h.enc] (.sl (h.over.map one) []) := by
  refine RetN.ret (ty := 9) (es := 1) ?_
  refine row53 rfl fun hbd => ?_
  unfold c53
  repeat (first
    | refine r_mv_p rfl ?_ | refine r_nil ?_ | refine r_box rfl rfl rfl ?_ | refine r_mv_nil rfl ?_ | refine run_seq ?_ | refine run_reg ?_ | refine run_block ?_ | refine fin_seq ?_)
  refine run_weak (weak_nilRow 3 27 9 1 rfl rfl) (run_weak (weak_S ?_ ?_) (run_inv (fun i : Nat => S [(1, .own 1 0), (2, .nil), (3, .row 27 ((overTo h i).map one).length), (4, .p (.v (.int .i64 (i : Nat))))] [(1, some (.box h.enc false)), (27, some (.row 9 1 ((overTo h i).map one) false))])
    (fun i => i ≤ h.bins.xs.length) (fun i => h.bins.xs.length - i) ?_ 0 (Nat.zero_le _)))
  · exact ⟨rfl, rfl, rfl, rfl, trivial⟩
  · exact ⟨rfl, rfl, trivial⟩
  intro i hi ih
  repeat (first
    | refine r_mv_p rfl ?_ | refine r_fad rfl rfl ?_ | refine r_sem rfl rfl rfl rfl ?_ | refine r_nil ?_ | refine run_seq ?_ | refine run_reg ?_ | refine fin_seq ?_)
  refine run_cond rfl (fun h1 => ?_) (fun h1 => ?_)
  · have hlt : i < h.bins.xs.length := by simpa using h1
    have hx : (h.bins.xs.map Bin.enc)[i]? = some h.bins.xs[i].enc := by simp [hlt]
    have hs := overTo_succ h i hlt
    obtain ⟨b, hb⟩ : ∃ b, b = h.bins.xs[i] := ⟨_, rfl⟩
    rw [← hb] at hx hs
    have hol := overTo_len h i
    obtain ⟨o, ho⟩ : ∃ o, o = overTo h i := ⟨_, rfl⟩
    rw [← ho] at hs hol ⊢
    have h2 := full118 h b
    cases hf : h.full b with
    | true =>
      rw [hf] at h2
      have hE : overTo h (i + 1) = o ++ [b.code] := by rw [hs, if_pos hf]
      have he : ∀ z ∈ [one b.code], z.length = 1 := by intro z hz; simp at hz; subst hz; rfl
      have hl : ((o.map one).length + [one b.code].length) * 16 ≤ 140737488355328 := by
        simp only [List.length_map, List.length_cons, List.length_nil]; omega
      repeat (first
        | refine r_call rfl (h2) ?_ | refine r_appRow (fs := [26]) rfl rfl rfl rfl rfl rfl he hl (by decide) (Or.inl rfl) ?_ | refine r_mv_p rfl ?_ | refine r_fad rfl rfl ?_
        | refine r_addA rfl rfl ?_ | refine r_loadA rfl ?_ | refine r_loadB rfl rfl ?_ | refine r_sem rfl rfl rfl rfl ?_ | refine r_nil ?_ | refine r_iadA rfl rfl ?_
        | refine r_bsl rfl rfl rfl rfl rfl rfl ?_ | refine r_mv_rowA rfl rfl ?_ | refine run_seq ?_ | refine run_reg ?_ | refine run_regd rfl ?_ | refine run_block ?_ | refine run_skip ?_
        | refine fin_seq ?_ | refine fin_blk ?_ | refine run_condT rfl ?_)
      refine fin_loop (run_weak (weak_S ?_ ?_) (ih (i + 1) hlt (by omega)))
      · exact ⟨rfl, rfl, by rw [hE, List.map_append, List.length_append]; rfl, rfl, trivial⟩
      · exact ⟨rfl, by rw [hE, List.map_append]; rfl, trivial⟩
    | false =>
      rw [hf] at h2
      have hE : overTo h (i + 1) = o := by rw [hs, if_neg (by rw [hf]; exact Bool.false_ne_true)]
      repeat (first
        | refine r_call rfl (h2) ?_ | refine r_mv_p rfl ?_ | refine r_fad rfl rfl ?_ | refine r_addA rfl rfl ?_ | refine r_loadA rfl ?_ | refine r_loadB rfl rfl ?_
        | refine r_sem rfl rfl rfl rfl ?_ | refine r_nil ?_ | refine r_iadA rfl rfl ?_ | refine run_seq ?_ | refine run_reg ?_ | refine run_regd rfl ?_ | refine run_block ?_
        | refine run_skip ?_ | refine fin_seq ?_ | refine fin_blk ?_ | refine run_condF rfl ?_)
      refine fin_loop (run_weak (weak_S ?_ ?_) (ih (i + 1) hlt (by omega)))
      · exact ⟨rfl, rfl, by rw [hE]; rfl, rfl, trivial⟩
      · exact ⟨rfl, by rw [hE]; rfl, trivial⟩
  · have hlt : i = h.bins.xs.length := by simp at h1; omega
    rw [overTo_all h hlt]
    repeat (first
      | refine r_nil ?_ | refine r_mv_rowA rfl rfl ?_ | refine run_seq ?_ | refine run_reg ?_ | refine run_exit ?_ | refine run_ret ?_ | refine fin_seq ?_ | refine fin_seq_e ?_
      | refine fin_blk_e ?_ | refine fin_loop_e ?_)
    exact fin_row rfl rfl rfl rfl

end Go.Fw
