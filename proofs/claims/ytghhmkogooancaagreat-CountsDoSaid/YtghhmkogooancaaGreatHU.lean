/-
  How things stand, by the program and by the document, and how the document puts them.
-/
import Derived.Test.YtghhmkogooancaaGreatHT
set_option linter.unusedVariables false
set_option linter.unusedSimpArgs false
set_option maxRecDepth 10000
namespace Go.Fw
open Go.Proofs

/-! ### Orders -/
def one (s : Str) : List PV := [.v (.string s)]
def cmpT : List Str → List Str → Int
  | a :: as', b :: bs => if slt a b = true then -1 else if a = b then cmpT as' bs else 1
  | _, _ => 0
theorem texts146 (xs ys : List Str) (s1 s2 : List (List PV)) (hl : xs.length = ys.length) : Ret Tryz.prog 146 [.sl (xs.map one) s1, .sl (ys.map one) s2] (.v (.int .i64 (cmpT xs ys))) := by
  refine ret146 rfl fun hbd => ?_
  have hb : xs.length ≤ 9223372036854775807 := by
    have := hbd _ (List.mem_cons_self)
    simp only [PV.bd, PV.bd1, List.length_append, List.length_map, maxLen] at this
    omega
  unfold c146
  repeat (first
    | refine r_mv_p rfl ?_ | refine r_nil ?_ | refine run_seq ?_ | refine run_reg ?_ | refine run_block ?_ | refine fin_seq ?_)
  refine run_weak (weak_S ?_ ?_) (run_inv (fun i : Nat => S [(0, .p (.sl (xs.map one) s1)), (1, .p (.sl (ys.map one) s2)), (4, .p (.v (.int .i64 0))), (5, .p (.v (.int .i64 (i : Nat))))] [])
    (fun i => i ≤ xs.length ∧ cmpT xs ys = cmpT (xs.drop i) (ys.drop i)) (fun i => xs.length - i) ?_ 0 ⟨Nat.zero_le _, rfl⟩)
  · exact ⟨rfl, rfl, rfl, rfl, trivial⟩
  · trivial
  intro i hi ih
  obtain ⟨hi, hfst⟩ := hi
  repeat (first
    | refine r_mv_p rfl ?_ | refine r_sem rfl rfl rfl rfl ?_ | refine r_nil ?_ | refine run_seq ?_ | refine run_reg ?_ | refine fin_seq ?_)
  refine run_cond rfl (fun h => ?_) (fun h => ?_)
  · have hlt : i < xs.length := by simpa using h
    have hlt2 : i < ys.length := by omega
    have hx : (xs.map one)[i]? = some (one xs[i]) := by simp [hlt]
    have hy : (ys.map one)[i]? = some (one ys[i]) := by simp [hlt2]
    have hd1 : xs.drop i = xs[i] :: xs.drop (i + 1) := List.drop_eq_getElem_cons hlt
    have hd2 : ys.drop i = ys[i] :: ys.drop (i + 1) := List.drop_eq_getElem_cons hlt2
    repeat (first
      | refine r_mv_p rfl ?_ | refine r_sem rfl rfl rfl rfl ?_ | refine r_nil ?_ | refine r_iadA rfl rfl ?_ | refine run_seq ?_ | refine run_regd rfl ?_ | refine run_block ?_
      | refine run_skip ?_ | refine fin_seq ?_)
    refine run_cond rfl (fun h2 => ?_) (fun h2 => ?_)
    · repeat (first
        | refine r_mv_p rfl ?_ | refine r_nil ?_ | refine run_seq ?_ | refine run_reg ?_ | refine run_ret ?_ | refine fin_seq ?_ | refine fin_seq_r ?_ | refine fin_blk_r ?_
        | refine fin_loop_r ?_)
      exact fin_out rfl (by rw [hfst, hd1, hd2]; simp [cmpT, h2])
    · repeat (first
        | refine r_mv_p rfl ?_ | refine r_sem rfl rfl rfl rfl ?_ | refine r_nil ?_ | refine r_iadA rfl rfl ?_ | refine run_seq ?_ | refine run_regd rfl ?_ | refine run_skip ?_
        | refine fin_seq ?_)
      refine run_cond rfl (fun h3 => ?_) (fun h3 => ?_)
      · repeat (first
          | refine r_mv_p rfl ?_ | refine r_nil ?_ | refine run_seq ?_ | refine run_reg ?_ | refine run_ret ?_ | refine fin_seq ?_ | refine fin_seq_r ?_ | refine fin_blk_r ?_
          | refine fin_loop_r ?_)
        exact fin_out rfl (by rw [hfst, hd1, hd2]; rw [h2] at h3; simp at h3; simp [cmpT, h2, h3])
      · repeat (first
          | refine r_mv_p rfl ?_ | refine r_addA rfl rfl ?_ | refine r_nil ?_ | refine run_reg ?_ | refine run_skip ?_ | refine fin_seq ?_ | refine fin_blk ?_)
        refine fin_loop (run_weak (weak_S ?_ ?_) (ih (i + 1) ⟨hlt, ?_⟩ (by omega)))
        · exact ⟨rfl, rfl, rfl, rfl, trivial⟩
        · trivial
        · rw [h2] at h3
          simp at h3
          rw [hfst, hd1, hd2]
          show (if slt xs[i] ys[i] = true then -1 else if xs[i] = ys[i] then _ else 1) = _
          rw [h2, if_neg Bool.false_ne_true, if_pos h3]
  · have hlt : i = xs.length := by simp at h; omega
    repeat (first
      | refine r_mv_p rfl ?_ | refine r_nil ?_ | refine run_seq ?_ | refine run_reg ?_ | refine run_exit ?_ | refine run_ret ?_ | refine fin_seq ?_ | refine fin_seq_e ?_
      | refine fin_blk_e ?_ | refine fin_loop_e ?_)
    exact fin_out rfl (by rw [hfst, hlt]; simp [cmpT])
theorem cmpT_one (a b : Str) : cmpT [a] [b] = cmpS a b := by
  unfold cmpT cmpS
  cases h : slt a b with
  | true => rfl
  | false =>
    by_cases e : a = b
    · subst e; simp [cmpT, slt_irrefl]
    · cases h2 : slt b a with
      | true => simp [e]
      | false => exact absurd (slt_total h h2) e
theorem cmpT_two (a b c d : Str) : cmpT [a, c] [b, d] = orI [cmpS a b, cmpS c d] := by
  have h1 := cmpT_one c d
  show (if slt a b = true then -1 else if a = b then cmpT [c] [d] else 1) = _
  rw [h1]
  unfold cmpS
  cases h : slt a b with
  | true => rfl
  | false =>
    by_cases e : a = b
    · subst e
      rw [slt_irrefl]
      simp only [Bool.false_eq_true, if_false, if_true, orI]
      split <;> split <;> simp_all [orI]
    · cases h2 : slt b a with
      | true => simp [e, orI]
      | false => exact absurd (slt_total h h2) e
theorem cmpT_three (a b c d e f : Str) : cmpT [a, c, e] [b, d, f] = orI [cmpS a b, cmpS c d, cmpS e f] := by
  have h1 := cmpT_two c d e f
  show (if slt a b = true then -1 else if a = b then cmpT [c, e] [d, f] else 1) = _
  rw [h1]
  unfold cmpS
  cases h : slt a b with
  | true => rfl
  | false =>
    by_cases e : a = b
    · subst e
      rw [slt_irrefl]
      simp only [Bool.false_eq_true, if_false, if_true, orI]
    · cases h2 : slt b a with
      | true => simp [e, orI]
      | false => exact absurd (slt_total h h2) e
def cmpN (a b : Int) : Int := if a < b then -1 else if b < a then 1 else 0
theorem cmpN_eq {a b : Int} : cmpN a b = 0 ↔ a = b := by
  unfold cmpN
  constructor
  · intro h
    split at h
    · cases h
    · split at h
      · cases h
      · omega
  · rintro rfl; simp
theorem isNaN154 (a : Int) : Ret Tryz.prog 154 [.v (.int .i64 a)] (.v (.bool false)) := by
  refine ret154 rfl fun hbd => ?_
  have h : (!decide (a = a)) = false := by simp
  unfold c154
  repeat (first
    | refine r_mv_p rfl ?_ | refine r_sem rfl rfl rfl rfl ?_ | refine r_nil ?_ | refine run_seq ?_ | refine run_reg ?_ | refine run_ret ?_ | refine fin_seq ?_)
  exact fin_out rfl (by simp)
set_option maxHeartbeats 4000000 in
theorem compare126 (a b : Int) : Ret Tryz.prog 126 [.v (.int .i64 a), .v (.int .i64 b)] (.v (.int .i64 (cmpN a b))) := by
  refine ret126 rfl fun hbd => ?_
  unfold c126
  unfold cmpN
  cases h1 : decide (a < b) with
  | true =>
    repeat (first
      | refine r_call rfl (isNaN154 _) ?_ | refine r_mv_p rfl ?_ | refine r_sem rfl rfl rfl rfl ?_ | refine r_nil ?_ | refine run_seq ?_ | refine run_reg ?_ | refine run_skip ?_
      | refine run_ret ?_ | refine fin_seq ?_ | refine fin_seq_r ?_ | refine run_condT rfl ?_ | refine run_condF rfl ?_)
    exact fin_out rfl (by rw [if_pos (of_decide_eq_true h1)])
  | false =>
    cases h2 : decide (b < a) with
    | true =>
      repeat (first
        | refine r_call rfl (isNaN154 _) ?_ | refine r_mv_p rfl ?_ | refine r_sem rfl rfl rfl rfl ?_ | refine r_nil ?_ | refine run_seq ?_ | refine run_reg ?_ | refine run_skip ?_
        | refine run_ret ?_ | refine fin_seq ?_ | refine fin_seq_r ?_ | refine run_condT rfl ?_ | refine run_condF rfl ?_)
      exact fin_out rfl (by rw [if_neg (of_decide_eq_false h1), if_pos (of_decide_eq_true h2)])
    | false =>
      repeat (first
        | refine r_call rfl (isNaN154 _) ?_ | refine r_mv_p rfl ?_ | refine r_sem rfl rfl rfl rfl ?_ | refine r_nil ?_ | refine run_seq ?_ | refine run_reg ?_ | refine run_skip ?_
        | refine run_ret ?_ | refine fin_seq ?_ | refine run_condF rfl ?_)
      exact fin_out rfl (by rw [if_neg (of_decide_eq_false h1), if_neg (of_decide_eq_false h2)])

/-! ### Names of quants -/
structure Key where
  bin : Str
  item : Str
  lot : Str
  status : Int
def Key.enc (k : Key) : List PV := [.v (.string k.bin), .v (.string k.item), .v (.string k.lot), .v (.int .i64 k.status)]
def Quant.key (q : Quant) : Key := ⟨q.bin, q.item, q.lot, q.status⟩
def Counted.key (q : Counted) : Key := ⟨q.bin, q.item, q.lot, q.status⟩
theorem Key.ext' {a b : Key} : a = b ↔ a.bin = b.bin ∧ a.item = b.item ∧ a.lot = b.lot ∧ a.status = b.status := by
  cases a; cases b; simp
instance : DecidableEq Key := fun a b => decidable_of_iff _ Key.ext'.symm
def keyCmp (a b : Key) : Int := orI [cmpS a.bin b.bin, cmpS a.item b.item, cmpS a.lot b.lot, cmpN a.status b.status]
theorem orI_iff : ∀ {l : List Int}, orI l = 0 ↔ ∀ x ∈ l, x = 0
  | [] => by simp [orI]
  | y :: l => by
    unfold orI
    split
    · rename_i h; rw [orI_iff]; simp [h]
    · rename_i h; simp [h]
theorem keyCmp_eq {a b : Key} : keyCmp a b = 0 ↔ a = b := by
  unfold keyCmp
  rw [orI_iff, Key.ext']
  simp [cmpS_eq, cmpN_eq]
def quantCmp (a b : Quant) : Int := keyCmp a.key b.key
def countedCmp (a b : Counted) : Int := keyCmp a.key b.key
def totalCmp (a b : Total) : Int := orI [cmpS a.item b.item, cmpS a.lot b.lot]
set_option maxHeartbeats 4000000 in
theorem keys92 (a b : Key) : Ret Tryz.prog 92 [.agg a.enc, .agg b.enc] (.v (.int .i64 (keyCmp a b))) := by
  refine ret92 rfl fun hbd => ?_
  unfold c92
  repeat (first
    | refine r_call rfl (compare_ok _ _) ?_ | refine r_call rfl (compare126 _ _) ?_
    | refine r_callF rfl rfl rfl (or_ok [cmpS a.bin b.bin, cmpS a.item b.item, cmpS a.lot b.lot, cmpN a.status b.status] []) ?_ | refine r_mv_p rfl ?_ | refine r_fad rfl rfl ?_
    | refine r_sem rfl rfl rfl rfl ?_ | refine r_nil ?_ | refine r_box rfl rfl rfl ?_ | refine r_bsl rfl rfl rfl rfl rfl rfl ?_ | refine run_seq ?_ | refine run_reg ?_
    | refine run_regd rfl ?_ | refine run_ret ?_ | refine fin_seq ?_)
  exact fin_out rfl rfl
set_option maxHeartbeats 4000000 in
theorem texts3 (a b c d e f : Str) : Ret Tryz.prog 146 [.sl [one a, one b, one c] [], .sl [one d, one e, one f] []] (.v (.int .i64 (orI [cmpS a d, cmpS b e, cmpS c f]))) := by
  have h := texts146 [a, b, c] [d, e, f] [] [] rfl
  rw [cmpT_three] at h; exact h
set_option maxHeartbeats 4000000 in
theorem rkeys129 (a b : Key) : Ret Tryz.prog 129 [.agg a.enc, .agg b.enc] (.v (.int .i64 (keyCmp a b))) := by
  refine ret129 rfl fun hbd => ?_
  have h := texts3 a.bin a.item a.lot b.bin b.item b.lot
  have hK : keyCmp a b = if orI [cmpS a.bin b.bin, cmpS a.item b.item, cmpS a.lot b.lot] = 0 then cmpN a.status b.status else orI [cmpS a.bin b.bin, cmpS a.item b.item, cmpS a.lot b.lot] := by
    unfold keyCmp
    simp only [orI]
    repeat' split
    all_goals simp_all
  rw [hK]
  unfold c129
  generalize orI [cmpS a.bin b.bin, cmpS a.item b.item, cmpS a.lot b.lot] = n at *
  cases h0 : decide (n = 0) with
  | false =>
    have h0' : (!decide (n = 0)) = true := by rw [h0]; rfl
    repeat (first
      | refine r_callF rfl rfl rfl (h) ?_ | refine r_mv_p rfl ?_ | refine r_fad rfl rfl ?_ | refine r_sem rfl rfl rfl rfl ?_ | refine r_nil ?_ | refine r_box rfl rfl rfl ?_
      | refine r_bsl rfl rfl rfl rfl rfl rfl ?_ | refine run_seq ?_ | refine run_reg ?_ | refine run_ret ?_ | refine fin_seq ?_ | refine fin_seq_r ?_ | refine run_condT rfl ?_)
    exact fin_out rfl (by rw [if_neg (of_decide_eq_false h0)])
  | true =>
    have h0' : (!decide (n = 0)) = false := by rw [h0]; rfl
    rw [if_pos (of_decide_eq_true h0)]
    unfold cmpN
    cases h1 : decide (a.status < b.status) with
    | true =>
      repeat (first
        | refine r_callF rfl rfl rfl (h) ?_ | refine r_mv_p rfl ?_ | refine r_fad rfl rfl ?_ | refine r_sem rfl rfl rfl rfl ?_ | refine r_nil ?_ | refine r_box rfl rfl rfl ?_
        | refine r_bsl rfl rfl rfl rfl rfl rfl ?_ | refine run_seq ?_ | refine run_reg ?_ | refine run_skip ?_ | refine run_ret ?_ | refine fin_seq ?_ | refine fin_seq_r ?_
        | refine run_condT rfl ?_ | refine run_condF rfl ?_)
      exact fin_out rfl (by rw [if_pos (of_decide_eq_true h1)])
    | false =>
      cases h2 : decide (b.status < a.status) with
      | true =>
        repeat (first
          | refine r_callF rfl rfl rfl (h) ?_ | refine r_mv_p rfl ?_ | refine r_fad rfl rfl ?_ | refine r_sem rfl rfl rfl rfl ?_ | refine r_nil ?_ | refine r_box rfl rfl rfl ?_
          | refine r_bsl rfl rfl rfl rfl rfl rfl ?_ | refine run_seq ?_ | refine run_reg ?_ | refine run_skip ?_ | refine run_ret ?_ | refine fin_seq ?_ | refine fin_seq_r ?_
          | refine run_condT rfl ?_ | refine run_condF rfl ?_)
        exact fin_out rfl (by rw [if_neg (of_decide_eq_false h1), if_pos (of_decide_eq_true h2)])
      | false =>
        repeat (first
          | refine r_callF rfl rfl rfl (h) ?_ | refine r_mv_p rfl ?_ | refine r_fad rfl rfl ?_ | refine r_sem rfl rfl rfl rfl ?_ | refine r_nil ?_ | refine r_box rfl rfl rfl ?_
          | refine r_bsl rfl rfl rfl rfl rfl rfl ?_ | refine run_seq ?_ | refine run_reg ?_ | refine run_skip ?_ | refine run_ret ?_ | refine fin_seq ?_ | refine run_condF rfl ?_)
        exact fin_out rfl (by rw [if_neg (of_decide_eq_false h1), if_neg (of_decide_eq_false h2)])
theorem order116 (a b : Quant) : Ret Tryz.prog 116 [.agg a.enc, .agg b.enc] (.v (.int .i64 (quantCmp a b))) := by
  refine ret116 rfl fun hbd => ?_
  unfold c116
  repeat (first
    | refine r_call rfl (keys92 a.key b.key) ?_ | refine r_mv_p rfl ?_ | refine r_fad rfl rfl ?_ | refine r_sem rfl rfl rfl rfl ?_ | refine r_nil ?_ | refine r_box rfl rfl rfl ?_
    | refine run_seq ?_ | refine run_reg ?_ | refine run_ret ?_ | refine fin_seq ?_)
  exact fin_out rfl rfl
theorem rorder110 (a b : Quant) : Ret Tryz.prog 110 [.agg a.enc, .agg b.enc] (.v (.int .i64 (quantCmp a b))) := by
  refine ret110 rfl fun hbd => ?_
  unfold c110
  repeat (first
    | refine r_call rfl (rkeys129 a.key b.key) ?_ | refine r_mv_p rfl ?_ | refine r_fad rfl rfl ?_ | refine r_sem rfl rfl rfl rfl ?_ | refine r_nil ?_ | refine r_box rfl rfl rfl ?_
    | refine run_seq ?_ | refine run_reg ?_ | refine run_ret ?_ | refine fin_seq ?_)
  exact fin_out rfl rfl
theorem rows85 : Ret Tryz.prog 85 [] (.agg [.clo 116 []]) := by
  refine ret85 rfl fun hbd => ?_
  unfold c85
  repeat (first
    | refine r_sem rfl rfl rfl rfl ?_ | refine r_nil ?_ | refine r_storeAll rfl rfl rfl rfl rfl rfl ?_ | refine r_alloc rfl ?_ | refine run_seq ?_ | refine run_reg ?_ | refine run_ret ?_
    | refine fin_seq ?_)
  exact fin_out rfl rfl
theorem order91 (a b : Counted) : Ret Tryz.prog 91 [.agg a.enc, .agg b.enc] (.v (.int .i64 (countedCmp a b))) := by
  refine ret91 rfl fun hbd => ?_
  unfold c91
  repeat (first
    | refine r_call rfl (keys92 a.key b.key) ?_ | refine r_mv_p rfl ?_ | refine r_fad rfl rfl ?_ | refine r_sem rfl rfl rfl rfl ?_ | refine r_nil ?_ | refine r_box rfl rfl rfl ?_
    | refine run_seq ?_ | refine run_reg ?_ | refine run_ret ?_ | refine fin_seq ?_)
  exact fin_out rfl rfl
theorem rorder99 (a b : Counted) : Ret Tryz.prog 99 [.agg a.enc, .agg b.enc] (.v (.int .i64 (countedCmp a b))) := by
  refine ret99 rfl fun hbd => ?_
  unfold c99
  repeat (first
    | refine r_call rfl (rkeys129 a.key b.key) ?_ | refine r_mv_p rfl ?_ | refine r_fad rfl rfl ?_ | refine r_sem rfl rfl rfl rfl ?_ | refine r_nil ?_ | refine r_box rfl rfl rfl ?_
    | refine run_seq ?_ | refine run_reg ?_ | refine run_ret ?_ | refine fin_seq ?_)
  exact fin_out rfl rfl
theorem rows62 : Ret Tryz.prog 62 [] (.agg [.clo 91 []]) := by
  refine ret62 rfl fun hbd => ?_
  unfold c62
  repeat (first
    | refine r_sem rfl rfl rfl rfl ?_ | refine r_nil ?_ | refine r_storeAll rfl rfl rfl rfl rfl rfl ?_ | refine r_alloc rfl ?_ | refine run_seq ?_ | refine run_reg ?_ | refine run_ret ?_
    | refine fin_seq ?_)
  exact fin_out rfl rfl
theorem rorder121 (a b : Bin) : Ret Tryz.prog 121 [.agg a.enc, .agg b.enc] (.v (.int .i64 (binCmp a b))) := by
  refine ret121 rfl fun hbd => ?_
  have h := texts146 [a.code] [b.code] [] [] rfl
  rw [cmpT_one] at h
  unfold c121
  repeat (first
    | refine r_callF rfl rfl rfl (h) ?_ | refine r_mv_p rfl ?_ | refine r_fad rfl rfl ?_ | refine r_sem rfl rfl rfl rfl ?_ | refine r_nil ?_ | refine r_box rfl rfl rfl ?_
    | refine r_bsl rfl rfl rfl rfl rfl rfl ?_ | refine run_seq ?_ | refine run_reg ?_ | refine run_ret ?_ | refine fin_seq ?_)
  exact fin_out rfl rfl
theorem rorder113 (a b : Total) : Ret Tryz.prog 113 [.agg a.enc, .agg b.enc] (.v (.int .i64 (totalCmp a b))) := by
  refine ret113 rfl fun hbd => ?_
  have h := texts146 [a.item, a.lot] [b.item, b.lot] [] [] rfl
  rw [cmpT_two] at h
  unfold c113
  repeat (first
    | refine r_callF rfl rfl rfl (h) ?_ | refine r_mv_p rfl ?_ | refine r_fad rfl rfl ?_ | refine r_sem rfl rfl rfl rfl ?_ | refine r_nil ?_ | refine r_box rfl rfl rfl ?_
    | refine r_bsl rfl rfl rfl rfl rfl rfl ?_ | refine run_seq ?_ | refine run_reg ?_ | refine run_ret ?_ | refine fin_seq ?_)
  exact fin_out rfl rfl
theorem order143 (a b : Bin) : Ret Tryz.prog 143 [.agg a.enc, .agg b.enc] (.v (.int .i64 (binCmp a b))) := by
  refine ret143 rfl fun hbd => ?_
  unfold c143
  repeat (first
    | refine r_call rfl (compare_ok _ _) ?_ | refine r_mv_p rfl ?_ | refine r_fad rfl rfl ?_ | refine r_sem rfl rfl rfl rfl ?_ | refine r_nil ?_ | refine r_box rfl rfl rfl ?_
    | refine run_seq ?_ | refine run_reg ?_ | refine run_ret ?_ | refine fin_seq ?_)
  exact fin_out rfl rfl
theorem order134 (a b : Total) : Ret Tryz.prog 134 [.agg a.enc, .agg b.enc] (.v (.int .i64 (totalCmp a b))) := by
  refine ret134 rfl fun hbd => ?_
  unfold c134
  repeat (first
    | refine r_call rfl (compare_ok _ _) ?_ | refine r_callF rfl rfl rfl (or_ok [cmpS a.item b.item, cmpS a.lot b.lot] []) ?_ | refine r_mv_p rfl ?_ | refine r_fad rfl rfl ?_
    | refine r_sem rfl rfl rfl rfl ?_ | refine r_nil ?_ | refine r_box rfl rfl rfl ?_ | refine r_bsl rfl rfl rfl rfl rfl rfl ?_ | refine run_seq ?_ | refine run_reg ?_
    | refine run_regd rfl ?_ | refine run_ret ?_ | refine fin_seq ?_)
  exact fin_out rfl rfl
theorem rows107 : Ret Tryz.prog 107 [] (.agg [.clo 143 []]) := by
  refine ret107 rfl fun hbd => ?_
  unfold c107
  repeat (first
    | refine r_sem rfl rfl rfl rfl ?_ | refine r_nil ?_ | refine r_storeAll rfl rfl rfl rfl rfl rfl ?_ | refine r_alloc rfl ?_ | refine run_seq ?_ | refine run_reg ?_ | refine run_ret ?_
    | refine fin_seq ?_)
  exact fin_out rfl rfl
theorem rows102 : Ret Tryz.prog 102 [] (.agg [.clo 134 []]) := by
  refine ret102 rfl fun hbd => ?_
  unfold c102
  repeat (first
    | refine r_sem rfl rfl rfl rfl ?_ | refine r_nil ?_ | refine r_storeAll rfl rfl rfl rfl rfl rfl ?_ | refine r_alloc rfl ?_ | refine run_seq ?_ | refine run_reg ?_ | refine run_ret ?_
    | refine fin_seq ?_)
  exact fin_out rfl rfl
theorem total0 (y x : Total) : totalCmp y x = 0 ↔ (y.item, y.lot) = (x.item, x.lot) := by
  unfold totalCmp
  rw [orI_iff]
  simp [cmpS_eq]
theorem quant0 (y x : Quant) : quantCmp y x = 0 ↔ y.key = x.key := keyCmp_eq
theorem counted0 (y x : Counted) : countedCmp y x = 0 ↔ y.key = x.key := keyCmp_eq

end Go.Fw
