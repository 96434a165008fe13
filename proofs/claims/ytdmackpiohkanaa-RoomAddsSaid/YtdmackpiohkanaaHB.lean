/-
  The rows of a house; how its tables find.
-/
import Derived.Test.YtdmackpiohkanaaHA
set_option linter.unusedVariables false
set_option linter.unusedSimpArgs false
set_option maxRecDepth 10000
namespace Go.Fw
open Go.Proofs

/-! ### Rows -/
abbrev Str := ByteArray
structure Item where
  code : Str
  u0 : Str
  f0 : Int
  u1 : Str
  f1 : Int
  u2 : Str
  f2 : Int
  u3 : Str
  f3 : Int
  volume : Int
  weight : Int
  lots : Bool
  serial : Bool
  check : Bool
def Item.enc (x : Item) : List PV := [.v (.string x.code), .v (.string x.u0), .v (.int .i64 x.f0), .v (.string x.u1), .v (.int .i64 x.f1), .v (.string x.u2), .v (.int .i64 x.f2), .v (.string x.u3), .v (.int .i64 x.f3), .v (.int .i64 x.volume), .v (.int .i64 x.weight), .v (.bool x.lots), .v (.bool x.serial), .v (.bool x.check)]
structure Lot where
  item : Str
  code : Str
  expiry : Int
def Lot.enc (x : Lot) : List PV := [.v (.string x.item), .v (.string x.code), .v (.int .i64 x.expiry)]

/-! ### How rows stand -/
def itemCmp (a b : Item) : Int := cmpS a.code b.code
theorem items_order (a b : Item) : Ret Try.prog 131 [.agg a.enc, .agg b.enc] (.v (.int .i64 (itemCmp a b))) := by
  refine ret131 rfl fun hbd => ?_
  unfold c131
  repeat (first
    | refine r_call rfl (compare_ok _ _) ?_ | refine r_mv_p rfl ?_ | refine r_fad rfl rfl ?_ | refine r_sem rfl rfl rfl rfl ?_ | refine r_nil ?_ | refine r_box rfl rfl rfl ?_
    | refine run_seq ?_ | refine run_reg ?_ | refine run_ret ?_ | refine fin_seq ?_)
  exact fin_out rfl rfl

def orI : List Int → Int
  | [] => 0
  | n :: r => if n = 0 then orI r else n
theorem or_ok (xs : List Int) (sp : List (List PV)) : Ret Try.prog 141 [.sl (xs.map fun n => [.v (.int .i64 n)]) sp] (.v (.int .i64 (orI xs))) := by
  refine ret141 rfl fun hbd => ?_
  have hb : xs.length ≤ 9223372036854775807 := by
    have := hbd _ (List.mem_cons_self)
    simp only [PV.bd, PV.bd1, List.length_append, List.length_map, maxLen] at this
    omega
  unfold c141
  repeat (first
    | refine r_mv_p rfl ?_ | refine r_sem rfl rfl rfl rfl ?_ | refine r_nil ?_ | refine run_seq ?_ | refine run_reg ?_ | refine run_block ?_ | refine fin_seq ?_)
  refine run_weak (weak_S ?_ ?_) (run_inv (fun i : Nat => S [(3, .p (.v (.int .i64 0))), (6, .p (.sl (xs.map fun n => [.v (.int .i64 n)]) sp)), (7, .p (.v (.int .i64 ((xs.map fun n => [PV.v (.int .i64 n)]).length : Nat)))), (8, .p (.v (.int .i64 (i : Nat))))] [])
    (fun i => i ≤ xs.length ∧ orI xs = orI (xs.drop i)) (fun i => xs.length - i) ?_ 0 ⟨Nat.zero_le _, rfl⟩)
  · exact ⟨rfl, rfl, rfl, rfl, trivial⟩
  · trivial
  intro i hi ih
  obtain ⟨hi, hfst⟩ := hi
  repeat (first
    | refine r_sem rfl rfl rfl rfl ?_ | refine r_nil ?_ | refine run_seq ?_ | refine run_reg ?_ | refine fin_seq ?_)
  refine run_cond rfl (fun h => ?_) (fun h => ?_)
  · have hlt : i < xs.length := by simpa using h
    have hx : (xs.map fun n => [PV.v (.int .i64 n)])[i]? = some [.v (.int .i64 xs[i])] := by simp [hlt]
    have hdrop : xs.drop i = xs[i] :: xs.drop (i + 1) := List.drop_eq_getElem_cons hlt
    repeat (first
      | refine r_mv_p rfl ?_ | refine r_sem rfl rfl rfl rfl ?_ | refine r_nil ?_ | refine r_iadA rfl rfl ?_ | refine run_seq ?_ | refine run_reg ?_ | refine run_block ?_
      | refine run_skip ?_ | refine fin_seq ?_)
    refine run_cond rfl (fun h2 => ?_) (fun h2 => ?_)
    · repeat (first
        | refine r_mv_p rfl ?_ | refine r_nil ?_ | refine run_seq ?_ | refine run_reg ?_ | refine run_ret ?_ | refine fin_seq ?_ | refine fin_seq_r ?_ | refine fin_blk_r ?_
        | refine fin_loop_r ?_)
      exact fin_out rfl (by rw [hfst, hdrop]; simp at h2; simp [orI, h2])
    · repeat (first
        | refine r_mv_p rfl ?_ | refine r_addA rfl rfl ?_ | refine r_nil ?_ | refine run_reg ?_ | refine run_skip ?_ | refine fin_seq ?_ | refine fin_blk ?_)
      refine fin_loop (run_weak (weak_S ?_ ?_) (ih (i + 1) ⟨hlt, ?_⟩ (by omega)))
      · exact ⟨rfl, rfl, rfl, rfl, trivial⟩
      · trivial
      · rw [hfst, hdrop]; simp at h2; simp [orI, h2]
  · have hlt : i = xs.length := by simp at h; omega
    repeat (first
      | refine r_mv_p rfl ?_ | refine r_nil ?_ | refine run_seq ?_ | refine run_reg ?_ | refine run_exit ?_ | refine run_ret ?_ | refine fin_seq ?_ | refine fin_seq_e ?_
      | refine fin_blk_e ?_ | refine fin_loop_e ?_)
    exact fin_out rfl (by rw [hfst, hlt]; simp [orI])

def lotCmp (a b : Lot) : Int := orI [cmpS a.item b.item, cmpS a.code b.code]
theorem lots_order (a b : Lot) : Ret Try.prog 140 [.agg a.enc, .agg b.enc] (.v (.int .i64 (lotCmp a b))) := by
  refine ret140 rfl fun hbd => ?_
  unfold c140
  repeat (first
    | refine r_call rfl (compare_ok _ _) ?_ | refine r_callF rfl rfl rfl (or_ok [cmpS a.item b.item, cmpS a.code b.code] []) ?_ | refine r_mv_p rfl ?_ | refine r_fad rfl rfl ?_
    | refine r_sem rfl rfl rfl rfl ?_ | refine r_nil ?_ | refine r_box rfl rfl rfl ?_ | refine r_bsl rfl rfl rfl rfl rfl rfl ?_ | refine run_seq ?_ | refine run_reg ?_
    | refine run_regd rfl ?_ | refine run_ret ?_ | refine fin_seq ?_)
  exact fin_out rfl rfl

/-! ### Tables -/
/-- How a table finds: the place, and whether there is one. -/
def findI {α : Type} (q : α → Bool) (xs : List α) : Int := if 0 ≤ firstI q xs 0 then firstI q xs 0 else 0
def findB {α : Type} (q : α → Bool) (xs : List α) : Bool := decide (0 ≤ firstI q xs 0)
theorem is139 {α : Type} (enc : α → List PV) (hen : ∀ x, (enc x).length = 14) (o : FuncId) (cmp : α → α → Int) (ho : ∀ a b, Ret Try.prog o [.agg (enc a), .agg (enc b)] (.v (.int .i64 (cmp a b)))) (x y : α) :
    Ret Try.prog 139 [.agg (enc y), .ref [.clo o []] 0, .ref (enc x) 0] (.v (.bool (decide (cmp y x = 0)))) := by
  refine ret139 rfl fun hbd => ?_
  have h1 := hen x
  have h2 := hen y
  unfold c139
  repeat (first
    | refine r_callv rfl (ho y x) ?_ | refine r_mv_p rfl ?_ | refine r_loadA rfl ?_ | refine r_loadB rfl rfl ?_ | refine r_sem rfl rfl rfl rfl ?_ | refine r_nil ?_
    | refine r_box rfl rfl rfl ?_ | refine run_seq ?_ | refine run_reg ?_ | refine run_ret ?_ | refine fin_seq ?_)
  exact fin_out rfl rfl
theorem is166 {α : Type} (enc : α → List PV) (hen : ∀ x, (enc x).length = 3) (o : FuncId) (cmp : α → α → Int) (ho : ∀ a b, Ret Try.prog o [.agg (enc a), .agg (enc b)] (.v (.int .i64 (cmp a b)))) (x y : α) :
    Ret Try.prog 166 [.agg (enc y), .ref [.clo o []] 0, .ref (enc x) 0] (.v (.bool (decide (cmp y x = 0)))) := by
  refine ret166 rfl fun hbd => ?_
  have h1 := hen x
  have h2 := hen y
  unfold c166
  repeat (first
    | refine r_callv rfl (ho y x) ?_ | refine r_mv_p rfl ?_ | refine r_loadA rfl ?_ | refine r_loadB rfl rfl ?_ | refine r_sem rfl rfl rfl rfl ?_ | refine r_nil ?_
    | refine r_box rfl rfl rfl ?_ | refine run_seq ?_ | refine run_reg ?_ | refine run_ret ?_ | refine fin_seq ?_)
  exact fin_out rfl rfl
theorem indexFunc143 {α : Type} (enc : α → List PV) (hen : ∀ x, (enc x).length = 3) (f : FuncId) (caps : List PV) (q : α → Bool) (xs : List α) (sp : List (List PV)) (hq : ∀ x ∈ xs, Ret Try.prog f (.agg (enc x) :: caps) (.v (.bool (q x)))) :
    Ret Try.prog 143 [.sl (xs.map enc) sp, .clo f caps] (.v (.int .i64 (firstI q xs 0))) := by
  refine ret143 rfl fun hbd => ?_
  have hb : xs.length ≤ 9223372036854775807 := by
    have := hbd _ (List.mem_cons_self)
    simp only [PV.bd, PV.bd1, List.length_append, List.length_map, maxLen] at this
    omega
  unfold c143
  repeat (first
    | refine r_mv_p rfl ?_ | refine r_sem rfl rfl rfl rfl ?_ | refine r_nil ?_ | refine run_seq ?_ | refine run_reg ?_ | refine run_block ?_ | refine fin_seq ?_)
  refine run_weak (weak_S ?_ ?_) (run_inv (fun i : Nat => S [(0, .p (.sl (xs.map enc) sp)), (1, .p (.clo f caps)), (4, .p (.v (.int .i64 0))), (7, .p (.v (.int .i64 ((xs.map enc).length : Nat)))), (8, .p (.v (.int .i64 (i : Nat))))] [])
    (fun i => i ≤ xs.length ∧ firstI q xs 0 = firstI q (xs.drop i) i) (fun i => xs.length - i) ?_ 0 ⟨Nat.zero_le _, rfl⟩)
  · exact ⟨rfl, rfl, rfl, rfl, rfl, trivial⟩
  · trivial
  intro i hi ih
  obtain ⟨hi, hfst⟩ := hi
  repeat (first
    | refine r_sem rfl rfl rfl rfl ?_ | refine r_nil ?_ | refine run_seq ?_ | refine run_reg ?_ | refine fin_seq ?_)
  refine run_cond rfl (fun h => ?_) (fun h => ?_)
  · have hlt : i < xs.length := by simpa using h
    have hx : (xs.map enc)[i]? = some (enc xs[i]) := by simp [hlt]
    have hdrop : xs.drop i = xs[i] :: xs.drop (i + 1) := List.drop_eq_getElem_cons hlt
    have hen' := hen xs[i]
    repeat (first
      | refine r_callv rfl (hq xs[i] (by simp)) ?_ | refine r_mv_p rfl ?_ | refine r_loadA rfl ?_ | refine r_nil ?_ | refine r_iadA rfl rfl ?_ | refine run_seq ?_ | refine run_reg ?_
      | refine run_block ?_ | refine run_skip ?_ | refine fin_seq ?_)
    refine run_cond rfl (fun h2 => ?_) (fun h2 => ?_)
    · repeat (first
        | refine r_mv_p rfl ?_ | refine r_nil ?_ | refine run_seq ?_ | refine run_reg ?_ | refine run_ret ?_ | refine fin_seq ?_ | refine fin_seq_r ?_ | refine fin_blk_r ?_
        | refine fin_loop_r ?_)
      exact fin_out rfl (by rw [hfst, hdrop]; simp [firstI, h2])
    · repeat (first
        | refine r_mv_p rfl ?_ | refine r_addA rfl rfl ?_ | refine r_nil ?_ | refine run_reg ?_ | refine run_skip ?_ | refine fin_seq ?_ | refine fin_blk ?_)
      refine fin_loop (run_weak (weak_S ?_ ?_) (ih (i + 1) ⟨hlt, ?_⟩ (by omega)))
      · exact ⟨rfl, rfl, rfl, rfl, rfl, trivial⟩
      · trivial
      · rw [hfst, hdrop]; simp [firstI, h2]
  · have hlt : i = xs.length := by simp at h; omega
    repeat (first
      | refine r_mv_p rfl ?_ | refine r_nil ?_ | refine run_seq ?_ | refine run_reg ?_ | refine run_exit ?_ | refine run_ret ?_ | refine fin_seq ?_ | refine fin_seq_e ?_
      | refine fin_blk_e ?_ | refine fin_loop_e ?_)
    exact fin_out rfl (by rw [hfst, hlt]; simp [firstI])
theorem find91 {α : Type} (enc : α → List PV) (hen : ∀ x, (enc x).length = 14) (o : FuncId) (cmp : α → α → Int) (ho : ∀ a b, Ret Try.prog o [.agg (enc a), .agg (enc b)] (.v (.int .i64 (cmp a b)))) (x : α) (xs : List α) (sp : List (List PV)) :
    Ret Try.prog 91 [.agg [.clo o []], .sl (xs.map enc) sp, .agg (enc x)] (.tup [.v (.int .i64 (findI (fun y => decide (cmp y x = 0)) xs)), .v (.bool (findB (fun y => decide (cmp y x = 0)) xs))]) := by
  refine ret91 rfl fun hbd => ?_
  unfold c91
  repeat (first
    | refine r_call rfl (indexFunc134 enc hen 139 _ (fun y => decide (cmp y x = 0)) xs sp (fun y _ => is139 enc hen o cmp ho x y)) ?_ | refine r_mv_p rfl ?_
    | refine r_sem rfl rfl rfl rfl ?_ | refine r_nil ?_ | refine r_box rfl rfl rfl ?_ | refine r_semF rfl rfl rfl rfl ?_ | refine run_seq ?_ | refine run_reg ?_ | refine fin_seq ?_)
  refine run_cond rfl (fun h => ?_) (fun h => ?_)
  · repeat (first
      | refine r_mv_p rfl ?_ | refine r_nil ?_ | refine run_seq ?_ | refine run_reg ?_ | refine run_ret ?_ | refine fin_seq ?_ | refine fin_seq_r ?_)
    exact fin_out rfl (by simp at h; simp [findI, findB, h])
  · repeat (first
      | refine r_mv_p rfl ?_ | refine r_nil ?_ | refine run_seq ?_ | refine run_reg ?_ | refine run_skip ?_ | refine run_ret ?_ | refine fin_seq ?_)
    exact fin_out rfl (by simp at h; simp [findI, findB, Int.not_le.2 h])
theorem find130 {α : Type} (enc : α → List PV) (hen : ∀ x, (enc x).length = 3) (o : FuncId) (cmp : α → α → Int) (ho : ∀ a b, Ret Try.prog o [.agg (enc a), .agg (enc b)] (.v (.int .i64 (cmp a b)))) (x : α) (xs : List α) (sp : List (List PV)) :
    Ret Try.prog 130 [.agg [.clo o []], .sl (xs.map enc) sp, .agg (enc x)] (.tup [.v (.int .i64 (findI (fun y => decide (cmp y x = 0)) xs)), .v (.bool (findB (fun y => decide (cmp y x = 0)) xs))]) := by
  refine ret130 rfl fun hbd => ?_
  unfold c130
  repeat (first
    | refine r_call rfl (indexFunc143 enc hen 166 _ (fun y => decide (cmp y x = 0)) xs sp (fun y _ => is166 enc hen o cmp ho x y)) ?_ | refine r_mv_p rfl ?_
    | refine r_sem rfl rfl rfl rfl ?_ | refine r_nil ?_ | refine r_box rfl rfl rfl ?_ | refine r_semF rfl rfl rfl rfl ?_ | refine run_seq ?_ | refine run_reg ?_ | refine fin_seq ?_)
  refine run_cond rfl (fun h => ?_) (fun h => ?_)
  · repeat (first
      | refine r_mv_p rfl ?_ | refine r_nil ?_ | refine run_seq ?_ | refine run_reg ?_ | refine run_ret ?_ | refine fin_seq ?_ | refine fin_seq_r ?_)
    exact fin_out rfl (by simp at h; simp [findI, findB, h])
  · repeat (first
      | refine r_mv_p rfl ?_ | refine r_nil ?_ | refine run_seq ?_ | refine run_reg ?_ | refine run_skip ?_ | refine run_ret ?_ | refine fin_seq ?_)
    exact fin_out rfl (by simp at h; simp [findI, findB, Int.not_le.2 h])
theorem rowsItems : Ret Try.prog 88 [] (.agg [.clo 131 []]) := by
  refine ret88 rfl fun hbd => ?_
  unfold c88
  repeat (first
    | refine r_sem rfl rfl rfl rfl ?_ | refine r_nil ?_ | refine r_storeAll rfl rfl rfl rfl rfl rfl ?_ | refine r_alloc rfl ?_ | refine run_seq ?_ | refine run_reg ?_ | refine run_ret ?_
    | refine fin_seq ?_)
  exact fin_out rfl rfl
theorem rowsLots : Ret Try.prog 111 [] (.agg [.clo 140 []]) := by
  refine ret111 rfl fun hbd => ?_
  unfold c111
  repeat (first
    | refine r_sem rfl rfl rfl rfl ?_ | refine r_nil ?_ | refine r_storeAll rfl rfl rfl rfl rfl rfl ?_ | refine r_alloc rfl ?_ | refine run_seq ?_ | refine run_reg ?_ | refine run_ret ?_
    | refine fin_seq ?_)
  exact fin_out rfl rfl
end Go.Fw
