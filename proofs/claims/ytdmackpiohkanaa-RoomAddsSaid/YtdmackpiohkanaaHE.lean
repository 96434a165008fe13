/-
  Lots: when one ends, and what fits.
-/
import Derived.Test.YtdmackpiohkanaaHD
set_option linter.unusedVariables false
set_option linter.unusedSimpArgs false
set_option maxRecDepth 10000
namespace Go.Fw
open Go.Proofs

def House.day (h : House) (i c : Str) : Int := if ((h.lot? i c).getD Lot.zero).expiry = 0 then 100001 else ((h.lot? i c).getD Lot.zero).expiry
theorem lotsDay (h : House) (i c : Str) : Ret Try.prog 31 [.agg h.enc, .v (.string i), .v (.string c)] (.v (.int .i64 (h.day i c))) := by
  refine ret31 rfl fun hbd => ?_
  unfold c31
  repeat (first
    | refine r_call rfl (lotsFind h i c) ?_ | refine r_mv_p rfl ?_ | refine r_fad rfl rfl ?_ | refine r_loadB rfl rfl ?_ | refine r_sem rfl rfl rfl rfl ?_ | refine r_nil ?_
    | refine r_storeAll rfl rfl rfl rfl rfl rfl ?_ | refine r_alloc rfl ?_ | refine r_box rfl rfl rfl ?_ | refine run_seq ?_ | refine run_reg ?_ | refine fin_seq ?_)
  refine run_cond rfl (fun h1 => ?_) (fun h1 => ?_)
  · repeat (first
      | refine r_mv_p rfl ?_ | refine r_fad rfl rfl ?_ | refine r_sem rfl rfl rfl rfl ?_ | refine r_nil ?_ | refine run_seq ?_ | refine run_reg ?_ | refine run_ret ?_ | refine fin_seq ?_
      | refine fin_seq_r ?_)
    exact fin_out rfl (by simp at h1; simp [House.day, h1])
  · repeat (first
      | refine r_mv_p rfl ?_ | refine r_nil ?_ | refine run_seq ?_ | refine run_reg ?_ | refine run_skip ?_ | refine run_ret ?_ | refine fin_seq ?_)
    exact fin_out rfl (by simp at h1; simp [House.day, h1])
theorem refDay (h : House) (i c : Str) : Ret Try.prog 32 [.agg h.enc, .v (.string i), .v (.string c)] (.v (.int .i64 (h.day i c))) := by
  refine ret32 rfl fun hbd => ?_
  unfold c32
  repeat (first
    | refine r_call rfl (refFindLot h i c) ?_ | refine r_mv_p rfl ?_ | refine r_fad rfl rfl ?_ | refine r_loadB rfl rfl ?_ | refine r_sem rfl rfl rfl rfl ?_ | refine r_nil ?_
    | refine r_storeAll rfl rfl rfl rfl rfl rfl ?_ | refine r_alloc rfl ?_ | refine r_box rfl rfl rfl ?_ | refine run_seq ?_ | refine run_reg ?_ | refine fin_seq ?_)
  refine run_cond rfl (fun h1 => ?_) (fun h1 => ?_)
  · repeat (first
      | refine r_mv_p rfl ?_ | refine r_nil ?_ | refine run_seq ?_ | refine run_reg ?_ | refine run_ret ?_ | refine fin_seq ?_ | refine fin_seq_r ?_)
    exact fin_out rfl (by simp at h1; simp [House.day, h1])
  · repeat (first
      | refine r_mv_p rfl ?_ | refine r_fad rfl rfl ?_ | refine r_sem rfl rfl rfl rfl ?_ | refine r_nil ?_ | refine run_seq ?_ | refine run_reg ?_ | refine run_skip ?_ | refine run_ret ?_
      | refine fin_seq ?_)
    exact fin_out rfl (by simp at h1; simp [House.day, h1])

def addQ (i c : Str) (n : Int) (q : Quant) : Int := if q.item = i ∧ q.lot = c then IntKind.i64.wrap (n + q.qty) else n
def House.fits (h : House) (i c : Str) (qty : Int) : Int :=
  if (h.item? i).isSome = false then 12
  else if (((h.item? i).getD Item.zero).lots && !(h.lot? i c).isSome || !((h.item? i).getD Item.zero).lots && !decide (c = ⟨#[]⟩)) = true then 21
  else if (((h.item? i).getD Item.zero).serial && decide (1 < h.quants.xs.foldl (addQ i c) qty)) = true then 22
  else 0

set_option maxHeartbeats 1000000 in
theorem lotsFits (h : House) (i0 c : Str) (qty : Int) : Ret Try.prog 30 [.agg h.enc, .v (.string i0), .v (.string c), .v (.int .i64 qty)] (.v (.int .i64 (h.fits i0 c qty))) := by
  refine ret30 rfl fun hbd => ?_
  have hb := bd_quants (hbd _ (List.mem_cons_self))
  unfold c30
  repeat (first
    | refine r_call rfl (itemsFind h i0) ?_ | refine r_mv_p rfl ?_ | refine r_loadB rfl rfl ?_ | refine r_sem rfl rfl rfl rfl ?_ | refine r_nil ?_
    | refine r_storeAll rfl rfl rfl rfl rfl rfl ?_ | refine r_alloc rfl ?_ | refine r_box rfl rfl rfl ?_ | refine run_seq ?_ | refine run_reg ?_ | refine fin_seq ?_)
  refine run_cond rfl (fun h1 => ?_) (fun h1 => ?_)
  · repeat (first
      | refine r_mv_p rfl ?_ | refine r_nil ?_ | refine run_seq ?_ | refine run_reg ?_ | refine run_ret ?_ | refine fin_seq ?_ | refine fin_seq_r ?_)
    exact fin_out rfl (by simp at h1; simp [House.fits, h1])
  repeat (first
    | refine r_call rfl (lotsFind h i0 c) ?_ | refine r_mv_p rfl ?_ | refine r_fad rfl rfl ?_ | refine r_loadB rfl rfl ?_ | refine r_sem rfl rfl rfl rfl ?_ | refine r_nil ?_
    | refine r_storeAll rfl rfl rfl rfl rfl rfl ?_ | refine r_alloc rfl ?_ | refine run_seq ?_ | refine run_reg ?_ | refine run_skip ?_ | refine fin_seq ?_)
  refine run_reg_join (S [(0, .p (.agg h.enc)), (1, .p (.v (.string i0))), (2, .p (.v (.string c))), (3, .p (.v (.int .i64 qty))), (4, .own 4 0), (9, .own 9 0), (44, .p (.v (.bool (((h.item? i0).getD Item.zero).lots && !(h.lot? i0 c).isSome || !((h.item? i0).getD Item.zero).lots && !decide (c = ⟨#[]⟩)))))]
    [(4, some (.box h.enc false)), (9, some (.box ((h.item? i0).getD Item.zero).enc false))]) ?_ ?_
  · repeat' (first
      | refine r_mv_p rfl ?_ | refine r_doA rfl ?_ | refine r_skipA rfl ?_ | refine r_skipU rfl ?_ | refine r_fad rfl rfl ?_ | refine r_pickT rfl rfl rfl ?_ | refine r_pickF rfl rfl rfl ?_
      | refine r_sem rfl rfl rfl rfl ?_ | refine r_nil ?_ | refine r_split rfl (fun hs => ?_) (fun hs => ?_))
    all_goals refine ⟨weak_S ?_ ?_⟩
    all_goals first | exact ⟨rfl, rfl, trivial⟩ | exact ⟨rfl, rfl, rfl, rfl, rfl, rfl, tb rfl (by simp_all), trivial⟩
  skip
  refine run_cond rfl (fun h2 => ?_) (fun h2 => ?_)
  · repeat (first
      | refine r_mv_p rfl ?_ | refine r_nil ?_ | refine run_seq ?_ | refine run_reg ?_ | refine run_ret ?_ | refine fin_seq ?_ | refine fin_seq_r ?_)
    exact fin_out rfl (by simp only [House.fits, h2, if_true]; simp at h1; simp [h1])
  repeat (first
    | refine r_mv_p rfl ?_ | refine r_fad rfl rfl ?_ | refine r_sem rfl rfl rfl rfl ?_ | refine r_nil ?_ | refine run_seq ?_ | refine run_reg ?_ | refine run_block ?_ | refine run_skip ?_
    | refine fin_seq ?_)
  refine run_weak (weak_S ?_ ?_) (run_inv (fun i : Nat × Int => S [(1, .p (.v (.string i0))), (2, .p (.v (.string c))), (3, .p (.v (.int .i64 i.2))), (9, .own 9 0), (46, .p (.sl (h.quants.xs.map Quant.enc) h.quants.sp)), (47, .p (.v (.int .i64 ((h.quants.xs.map Quant.enc).length : Nat)))), (48, .p (.v (.int .i64 (i.1 : Nat))))] [(9, some (.box ((h.item? i0).getD Item.zero).enc false))])
    (fun i => i.1 ≤ h.quants.xs.length ∧ h.quants.xs.foldl (addQ i0 c) qty = (h.quants.xs.drop i.1).foldl (addQ i0 c) i.2) (fun i => h.quants.xs.length - i.1) ?_ (0, qty) ⟨Nat.zero_le _, rfl⟩)
  · exact ⟨rfl, rfl, rfl, rfl, rfl, rfl, rfl, trivial⟩
  · exact ⟨rfl, trivial⟩
  rintro ⟨i, acc⟩ hi ih
  obtain ⟨hi, hfst⟩ := hi
  repeat (first
    | refine r_sem rfl rfl rfl rfl ?_ | refine r_nil ?_ | refine run_seq ?_ | refine run_reg ?_ | refine fin_seq ?_)
  refine run_cond rfl (fun h3 => ?_) (fun h3 => ?_)
  · have hlt : i < h.quants.xs.length := by simpa using h3
    have hx : (h.quants.xs.map Quant.enc)[i]? = some h.quants.xs[i].enc := by simp [hlt]
    have hdrop : h.quants.xs.drop i = h.quants.xs[i] :: h.quants.xs.drop (i + 1) := List.drop_eq_getElem_cons hlt
    have next : ∀ n, addQ i0 c acc h.quants.xs[i] = n → h.quants.xs.foldl (addQ i0 c) qty = (h.quants.xs.drop (i + 1)).foldl (addQ i0 c) n := fun n hn => by
      rw [hfst, hdrop, List.foldl_cons, hn]
    repeat' (first
      | refine r_mv_p rfl ?_ | refine r_doA rfl ?_ | refine r_skipA rfl ?_ | refine r_fad rfl rfl ?_ | refine r_addA rfl rfl ?_ | refine r_loadA rfl ?_ | refine r_pickT rfl rfl rfl ?_
      | refine r_pickF rfl rfl rfl ?_ | refine r_sem rfl rfl rfl rfl ?_ | refine r_nil ?_ | refine r_iadA rfl rfl ?_ | refine r_storeAll rfl rfl rfl rfl rfl rfl ?_ | refine r_alloc rfl ?_
      | refine run_seq ?_ | refine run_reg ?_ | refine run_block ?_ | refine run_skip ?_ | refine fin_seq ?_ | refine fin_blk ?_ | refine run_condF rfl ?_
      | refine r_split rfl (fun hs => ?_) (fun hs => ?_) | refine run_cond rfl (fun hs => ?_) (fun hs => ?_))
    all_goals refine fin_loop (run_weak (weak_S ?_ ?_) (ih (i + 1, addQ i0 c acc h.quants.xs[i]) ⟨hlt, next _ rfl⟩ (by simp only; omega)))
    all_goals first | exact ⟨rfl, trivial⟩ | exact ⟨rfl, rfl, ti rfl (by clear ih next hfst; simp_all [addQ]), rfl, rfl, rfl, rfl, trivial⟩
  · have hlt : i = h.quants.xs.length := by simp at h3; omega
    have hsum : h.quants.xs.foldl (addQ i0 c) qty = acc := by rw [hfst]; simp [hlt]
    have h1' : (h.item? i0).isSome = true := by simpa using h1
    repeat (first
      | refine r_mv_p rfl ?_ | refine r_fad rfl rfl ?_ | refine r_sem rfl rfl rfl rfl ?_ | refine run_seq ?_ | refine run_reg ?_ | refine run_exit ?_ | refine fin_seq ?_
      | refine fin_seq_e ?_ | refine fin_blk_e ?_ | refine fin_loop_e ?_)
    refine run_reg_join (S [(74, .p (.v (.bool (((h.item? i0).getD Item.zero).serial && decide (1 < acc)))))] []) ?_ ?_
    · repeat' (first
        | refine r_mv_p rfl ?_ | refine r_doA rfl ?_ | refine r_skipA rfl ?_ | refine r_pickT rfl rfl rfl ?_ | refine r_pickF rfl rfl rfl ?_ | refine r_sem rfl rfl rfl rfl ?_
        | refine r_nil ?_ | refine r_split rfl (fun hs => ?_) (fun hs => ?_))
      all_goals refine ⟨weak_S ?_ ?_⟩
      all_goals first | exact trivial | exact ⟨tb rfl (by simp_all), trivial⟩
    skip
    refine run_cond rfl (fun h4 => ?_) (fun h4 => ?_)
    · repeat (first
        | refine r_mv_p rfl ?_ | refine r_nil ?_ | refine run_seq ?_ | refine run_reg ?_ | refine run_ret ?_ | refine fin_seq ?_ | refine fin_seq_r ?_)
      exact fin_out rfl (by simp only [House.fits, hsum, h1', h2, h4]; simp)
    · repeat (first
        | refine r_mv_p rfl ?_ | refine r_nil ?_ | refine run_seq ?_ | refine run_reg ?_ | refine run_skip ?_ | refine run_ret ?_ | refine fin_seq ?_)
      exact fin_out rfl (by simp only [House.fits, hsum, h1', h2, h4]; simp)

set_option maxHeartbeats 1000000 in
theorem refFits (h : House) (i0 c : Str) (qty : Int) : Ret Try.prog 33 [.agg h.enc, .v (.string i0), .v (.string c), .v (.int .i64 qty)] (.v (.int .i64 (h.fits i0 c qty))) := by
  refine ret33 rfl fun hbd => ?_
  have hb := bd_quants (hbd _ (List.mem_cons_self))
  unfold c33
  repeat (first
    | refine r_call rfl (refFindItem h i0) ?_ | refine r_mv_p rfl ?_ | refine r_loadB rfl rfl ?_ | refine r_sem rfl rfl rfl rfl ?_ | refine r_nil ?_
    | refine r_storeAll rfl rfl rfl rfl rfl rfl ?_ | refine r_alloc rfl ?_ | refine r_box rfl rfl rfl ?_ | refine run_seq ?_ | refine run_reg ?_ | refine fin_seq ?_)
  refine run_cond rfl (fun h1 => ?_) (fun h1 => ?_)
  · repeat (first
      | refine r_mv_p rfl ?_ | refine r_nil ?_ | refine run_seq ?_ | refine run_reg ?_ | refine run_ret ?_ | refine fin_seq ?_ | refine fin_seq_r ?_)
    exact fin_out rfl (by simp at h1; simp [House.fits, h1])
  repeat (first
    | refine r_call rfl (refFindLot h i0 c) ?_ | refine r_mv_p rfl ?_ | refine r_fad rfl rfl ?_ | refine r_loadB rfl rfl ?_ | refine r_sem rfl rfl rfl rfl ?_ | refine r_nil ?_
    | refine r_storeAll rfl rfl rfl rfl rfl rfl ?_ | refine r_alloc rfl ?_ | refine run_seq ?_ | refine run_reg ?_ | refine run_skip ?_ | refine fin_seq ?_)
  refine run_reg_join (S [(0, .p (.agg h.enc)), (1, .p (.v (.string i0))), (2, .p (.v (.string c))), (3, .p (.v (.int .i64 qty))), (4, .own 4 0), (9, .own 9 0), (44, .p (.v (.bool (((h.item? i0).getD Item.zero).lots && !(h.lot? i0 c).isSome || !((h.item? i0).getD Item.zero).lots && !decide (c = ⟨#[]⟩)))))]
    [(4, some (.box h.enc false)), (9, some (.box ((h.item? i0).getD Item.zero).enc false))]) ?_ ?_
  · repeat' (first
      | refine r_mv_p rfl ?_ | refine r_doA rfl ?_ | refine r_skipA rfl ?_ | refine r_skipU rfl ?_ | refine r_fad rfl rfl ?_ | refine r_pickT rfl rfl rfl ?_ | refine r_pickF rfl rfl rfl ?_
      | refine r_sem rfl rfl rfl rfl ?_ | refine r_nil ?_ | refine r_split rfl (fun hs => ?_) (fun hs => ?_))
    all_goals refine ⟨weak_S ?_ ?_⟩
    all_goals first | exact ⟨rfl, rfl, trivial⟩ | exact ⟨rfl, rfl, rfl, rfl, rfl, rfl, tb rfl (by simp_all), trivial⟩
  have h1' : (h.item? i0).isSome = true := by simpa using h1
  skip
  refine run_cond rfl (fun h2 => ?_) (fun h2 => ?_)
  · repeat (first
      | refine r_mv_p rfl ?_ | refine r_nil ?_ | refine run_seq ?_ | refine run_reg ?_ | refine run_ret ?_ | refine fin_seq ?_ | refine fin_seq_r ?_)
    exact fin_out rfl (by simp only [House.fits, h2, if_true]; simp [h1'])
  repeat (first
    | refine r_fad rfl rfl ?_ | refine r_sem rfl rfl rfl rfl ?_ | refine r_nil ?_ | refine run_seq ?_ | refine run_reg ?_ | refine run_skip ?_ | refine fin_seq ?_)
  refine run_cond rfl (fun h5 => ?_) (fun h5 => ?_)
  · repeat (first
      | refine r_mv_p rfl ?_ | refine r_nil ?_ | refine run_seq ?_ | refine run_reg ?_ | refine run_block ?_ | refine fin_seq ?_)
    refine run_weak (weak_S ?_ ?_) (run_inv (fun i : Nat × Int => S [(1, .p (.v (.string i0))), (2, .p (.v (.string c))), (4, .own 4 0), (13, .p (.v (.int .i64 i.2))), (14, .p (.v (.int .i64 (i.1 : Nat))))] [(4, some (.box h.enc false))])
      (fun i => i.1 ≤ h.quants.xs.length ∧ h.quants.xs.foldl (addQ i0 c) qty = (h.quants.xs.drop i.1).foldl (addQ i0 c) i.2) (fun i => h.quants.xs.length - i.1) ?_ (0, qty) ⟨Nat.zero_le _, rfl⟩)
    · exact ⟨rfl, rfl, rfl, rfl, rfl, trivial⟩
    · exact ⟨rfl, trivial⟩
    rintro ⟨i, acc⟩ hi ih
    obtain ⟨hi, hfst⟩ := hi
    repeat (first
      | refine r_mv_p rfl ?_ | refine r_fad rfl rfl ?_ | refine r_sem rfl rfl rfl rfl ?_ | refine r_nil ?_ | refine run_seq ?_ | refine run_reg ?_ | refine fin_seq ?_)
    refine run_cond rfl (fun h3 => ?_) (fun h3 => ?_)
    · have hlt : i < h.quants.xs.length := by simpa using h3
      have hx : (h.quants.xs.map Quant.enc)[i]? = some h.quants.xs[i].enc := by simp [hlt]
      have hdrop : h.quants.xs.drop i = h.quants.xs[i] :: h.quants.xs.drop (i + 1) := List.drop_eq_getElem_cons hlt
      have next : ∀ n, addQ i0 c acc h.quants.xs[i] = n → h.quants.xs.foldl (addQ i0 c) qty = (h.quants.xs.drop (i + 1)).foldl (addQ i0 c) n := fun n hn => by
        rw [hfst, hdrop, List.foldl_cons, hn]
      repeat' (first
        | refine r_mv_p rfl ?_ | refine r_doA rfl ?_ | refine r_skipA rfl ?_ | refine r_fad rfl rfl ?_ | refine r_addA rfl rfl ?_ | refine r_pickT rfl rfl rfl ?_
        | refine r_pickF rfl rfl rfl ?_ | refine r_sem rfl rfl rfl rfl ?_ | refine r_nil ?_ | refine r_iadA rfl rfl ?_ | refine run_seq ?_ | refine run_reg ?_ | refine run_block ?_
        | refine run_skip ?_ | refine fin_seq ?_ | refine fin_blk ?_ | refine run_condF rfl ?_ | refine r_split rfl (fun hs => ?_) (fun hs => ?_)
        | refine run_cond rfl (fun hs => ?_) (fun hs => ?_))
      all_goals refine fin_loop (run_weak (weak_S ?_ ?_) (ih (i + 1, addQ i0 c acc h.quants.xs[i]) ⟨hlt, next _ rfl⟩ (by simp only; omega)))
      all_goals first | exact ⟨rfl, trivial⟩ | exact ⟨rfl, rfl, rfl, ti rfl (by clear ih next hfst; simp_all [addQ]), rfl, trivial⟩
    · have hlt : i = h.quants.xs.length := by simp at h3; omega
      have hsum : h.quants.xs.foldl (addQ i0 c) qty = acc := by rw [hfst]; simp [hlt]
      repeat (first
        | refine r_mv_p rfl ?_ | refine r_sem rfl rfl rfl rfl ?_ | refine r_nil ?_ | refine run_seq ?_ | refine run_reg ?_ | refine run_exit ?_ | refine fin_seq ?_ | refine fin_seq_e ?_
        | refine fin_blk_e ?_ | refine fin_loop_e ?_)
      refine run_cond rfl (fun h4 => ?_) (fun h4 => ?_)
      · repeat (first
          | refine r_mv_p rfl ?_ | refine r_nil ?_ | refine run_seq ?_ | refine run_reg ?_ | refine run_ret ?_ | refine fin_seq ?_ | refine fin_seq_r ?_)
        exact fin_out rfl (by simp only [House.fits, hsum, h1', h2, h4, h5]; simp)
      · repeat (first
          | refine r_mv_p rfl ?_ | refine r_nil ?_ | refine run_seq ?_ | refine run_reg ?_ | refine run_skip ?_ | refine run_ret ?_ | refine fin_seq ?_)
        exact fin_out rfl (by simp only [House.fits, hsum, h1', h2, h4, h5]; simp)
  · repeat (first
      | refine r_mv_p rfl ?_ | refine r_nil ?_ | refine run_seq ?_ | refine run_reg ?_ | refine run_skip ?_ | refine run_ret ?_ | refine fin_seq ?_)
    exact fin_out rfl (by simp only [House.fits, h1', h2, h5]; simp)
end Go.Fw
