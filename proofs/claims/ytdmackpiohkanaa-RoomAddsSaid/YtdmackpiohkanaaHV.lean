/-
  Lists that are copied, with something behind their lengths, and held against one another.
-/
import Derived.Test.YtdmackpiohkanaaHG
import Derived.Test.YtdmackpiohkanaaIrD
set_option linter.unusedVariables false
set_option linter.unusedSimpArgs false
set_option maxRecDepth 10000
namespace Go.Fw
open Go.Proofs

theorem out_row {l : List (Nat × T)} {m : List (Nat × Option Own)} {t n len ty es : Nat} {xs : List (List PV)} {fz : Bool} (ht : tl l t = .row n len) (ho : ol m n = some (.row ty es xs fz)) (hl : len ≤ xs.length) : (S l m).out [.t t] = some (.sl (xs.take len) (xs.drop len), [n]) := by
  have h1 : (S l m).res (.t t) = some (.row n len es xs) := by
    simp only [St.res, St.ev, ht, lookT]
    rw [ho]; simp [hl]
  simp only [St.out, St.outV, h1, Option.bind_some, RA.pv, Option.map_some, RA.frz]
theorem r_eqs {P : Program} {Q : Ex → St → Prop} {ks : List Kf} {rs : List RG} {l : List (Nat × T)} {m : List (Nat × Option Own)} {d : Nat} {cks : List Ck} {x y : Opd} {a b : List PV} (hx : (S l m).ev x = .p (.agg a)) (hy : (S l m).ev y = .p (.agg b)) (he : cellsEq cks a b = some true)
    (h : RunR P Q ks rs (S ((d, .p (.v (.bool false))) :: l) m)) : RunR P Q ks (⟨some d, .eqs true cks, [x, y], none⟩ :: rs) (S l m) :=
  r_sem («as» := [.p (.agg a), .p (.agg b)]) rfl (by simp only [St.resL, St.res, hx, hy, lookT]; rfl) (by simp only [sem, he, Option.map_some]; rfl) rfl h
theorem r_slcK {P : Program} {Q : Ex → St → Prop} {ks : List Kf} {rs : List RG} {l : List (Nat × T)} {m : List (Nat × Option Own)} {d es : Nat} {x y : Opd} {xs : List (List PV)} {b : List PV} (hx : (S l m).ev x = .p (.sl xs [b])) (hy : (S l m).ev y = .p (.v (.int .i64 (((xs.length : Nat) : Int) + 1))))
    (h : RunR P Q ks rs (S ((d, .p (.sl (xs ++ [b]) [])) :: l) m)) : RunR P Q ks (⟨some d, .slc es false true, [x, y], none⟩ :: rs) (S l m) := by
  refine r_slc (rs' := [.p (.v (.int .i64 (((xs.length : Nat) : Int) + 1)))]) (i := 0) (j := xs.length + 1) hx (by simp only [St.resL, St.res, hy, lookT]; rfl) (by simp only [bnds]; rw [if_pos (by omega)]; congr 2) ⟨Nat.zero_le _, by simp, .inl rfl⟩ ?_
  have e1 : ((xs ++ [b]).take (xs.length + 1)).drop 0 = xs ++ [b] := by rw [List.drop_zero, List.take_of_length_le (by simp)]
  have e2 : (xs ++ [b]).drop (xs.length + 1) = [] := List.drop_eq_nil_of_le (by simp)
  rw [e1, e2]; exact h
theorem r_slcR {P : Program} {Q : Ex → St → Prop} {ks : List Kf} {rs : List RG} {l : List (Nat × T)} {m : List (Nat × Option Own)} {d es n len es' ty j : Nat} {x y : Opd} {xs : List (List PV)} {fz : Bool} (hx : (S l m).ev x = .row n len) (ho : ol m n = some (.row ty es' xs fz)) (hle : len ≤ xs.length) (hy : (S l m).ev y = .p (.v (.int .i64 ((j : Nat) : Int)))) (hij : j ≤ xs.length)
    (h : RunR P Q ks rs (S ((d, .row n j) :: l) m)) : RunR P Q ks (⟨some d, .slc es false true, [x, y], none⟩ :: rs) (S l m) :=
  r_slc_row (rs' := [.p (.v (.int .i64 ((j : Nat) : Int)))]) hx ho hle (by simp only [St.resL, St.res, hy, lookT]; rfl) (by simp only [bnds]; rw [if_pos (by omega)]; rfl) hij h

theorem lent74 {α : Type} (enc : α → List PV) (b : List PV) (hb : b.length = 14) (xs : List α) (sp : List (List PV)) (hen : ∀ x ∈ xs, (enc x).length = 14) (hbig : (xs.length + 1) * 136 ≤ 140737488355328) : Ret Try.prog 74 [.sl (xs.map enc) sp, .agg b] (.sl (xs.map enc) [b]) := by
  refine ret74 rfl fun hbd => ?_
  have hxs : ∀ z ∈ xs.map enc, z.length = 14 := by intro z hz; obtain ⟨y, hy, rfl⟩ := List.mem_map.1 hz; exact hen y hy
  have hlm : (xs.map enc).length = xs.length := List.length_map ..
  have h1 : ((List.replicate (0 : Int).toNat ([] : List PV)).length + (xs.map enc).length) * 136 ≤ 140737488355328 := by
    rw [hlm]; show (0 + xs.length) * 136 ≤ _; omega
  have h2 : ∀ z ∈ [b], z.length = 14 := by intro z hz; simp at hz; subst hz; exact hb
  have hmk : (0 : Int) ≤ 0 ∧ (0 : Int) ≤ (((xs.map enc).length : Nat) : Int) + 1 ∧ ((((xs.map enc).length : Nat) : Int) + 1) * (136 : Nat) ≤ 140737488355328 := by rw [hlm]; omega
  have h3 : ((([] : List (List PV)) ++ xs.map enc).length + [b].length) * 136 ≤ 140737488355328 := by
    rw [List.nil_append, hlm]; exact hbig
  have hj : ∀ (A C : List (List PV)), (xs.map enc).length ≤ ((A ++ xs.map enc) ++ C).length := fun A C => by rw [List.length_append, List.length_append]; omega
  have hj2 : ∀ (A C : List (List PV)), A.length + C.length ≤ (A ++ C).length := fun A C => by rw [List.length_append]; exact Nat.le_refl _
  unfold c74
  repeat (first
    | refine r_mks rfl rfl hmk rfl ?_ | refine r_appRow (fs := []) rfl rfl rfl rfl rfl rfl hxs h1 (by decide) (Or.inr rfl) ?_
    | refine r_appRow (fs := [15]) rfl rfl List.length_append.symm rfl rfl rfl h2 h3 (by decide) (Or.inr rfl) ?_ | refine r_slcR rfl rfl (hj2 _ _) rfl (hj _ _) ?_ | refine r_mv_p rfl ?_
    | refine r_addA rfl rfl ?_ | refine r_loadB rfl rfl ?_ | refine r_sem rfl rfl rfl rfl ?_ | refine r_nil ?_ | refine r_box rfl rfl rfl ?_ | refine r_bsl1 rfl (by assumption) rfl ?_
    | refine r_mv_nil rfl ?_ | refine r_mv_rowA rfl rfl ?_ | refine run_seq ?_ | refine run_reg ?_ | refine run_ret ?_ | refine fin_seq ?_)
  refine fin_out (out_row rfl rfl (hj _ _)) ?_
  simp
theorem lent75 {α : Type} (enc : α → List PV) (b : List PV) (hb : b.length = 3) (xs : List α) (sp : List (List PV)) (hen : ∀ x ∈ xs, (enc x).length = 3) (hbig : (xs.length + 1) * 40 ≤ 140737488355328) : Ret Try.prog 75 [.sl (xs.map enc) sp, .agg b] (.sl (xs.map enc) [b]) := by
  refine ret75 rfl fun hbd => ?_
  have hxs : ∀ z ∈ xs.map enc, z.length = 3 := by intro z hz; obtain ⟨y, hy, rfl⟩ := List.mem_map.1 hz; exact hen y hy
  have hlm : (xs.map enc).length = xs.length := List.length_map ..
  have h1 : ((List.replicate (0 : Int).toNat ([] : List PV)).length + (xs.map enc).length) * 40 ≤ 140737488355328 := by
    rw [hlm]; show (0 + xs.length) * 40 ≤ _; omega
  have h2 : ∀ z ∈ [b], z.length = 3 := by intro z hz; simp at hz; subst hz; exact hb
  have hmk : (0 : Int) ≤ 0 ∧ (0 : Int) ≤ (((xs.map enc).length : Nat) : Int) + 1 ∧ ((((xs.map enc).length : Nat) : Int) + 1) * (40 : Nat) ≤ 140737488355328 := by rw [hlm]; omega
  have h3 : ((([] : List (List PV)) ++ xs.map enc).length + [b].length) * 40 ≤ 140737488355328 := by
    rw [List.nil_append, hlm]; exact hbig
  have hj : ∀ (A C : List (List PV)), (xs.map enc).length ≤ ((A ++ xs.map enc) ++ C).length := fun A C => by rw [List.length_append, List.length_append]; omega
  have hj2 : ∀ (A C : List (List PV)), A.length + C.length ≤ (A ++ C).length := fun A C => by rw [List.length_append]; exact Nat.le_refl _
  unfold c75
  repeat (first
    | refine r_mks rfl rfl hmk rfl ?_ | refine r_appRow (fs := []) rfl rfl rfl rfl rfl rfl hxs h1 (by decide) (Or.inr rfl) ?_
    | refine r_appRow (fs := [15]) rfl rfl List.length_append.symm rfl rfl rfl h2 h3 (by decide) (Or.inr rfl) ?_ | refine r_slcR rfl rfl (hj2 _ _) rfl (hj _ _) ?_ | refine r_mv_p rfl ?_
    | refine r_addA rfl rfl ?_ | refine r_loadB rfl rfl ?_ | refine r_sem rfl rfl rfl rfl ?_ | refine r_nil ?_ | refine r_box rfl rfl rfl ?_ | refine r_bsl1 rfl (by assumption) rfl ?_
    | refine r_mv_nil rfl ?_ | refine r_mv_rowA rfl rfl ?_ | refine run_seq ?_ | refine run_reg ?_ | refine run_ret ?_ | refine fin_seq ?_)
  refine fin_out (out_row rfl rfl (hj _ _)) ?_
  simp
theorem lent76 {α : Type} (enc : α → List PV) (b : List PV) (hb : b.length = 2) (xs : List α) (sp : List (List PV)) (hen : ∀ x ∈ xs, (enc x).length = 2) (hbig : (xs.length + 1) * 32 ≤ 140737488355328) : Ret Try.prog 76 [.sl (xs.map enc) sp, .agg b] (.sl (xs.map enc) [b]) := by
  refine ret76 rfl fun hbd => ?_
  have hxs : ∀ z ∈ xs.map enc, z.length = 2 := by intro z hz; obtain ⟨y, hy, rfl⟩ := List.mem_map.1 hz; exact hen y hy
  have hlm : (xs.map enc).length = xs.length := List.length_map ..
  have h1 : ((List.replicate (0 : Int).toNat ([] : List PV)).length + (xs.map enc).length) * 32 ≤ 140737488355328 := by
    rw [hlm]; show (0 + xs.length) * 32 ≤ _; omega
  have h2 : ∀ z ∈ [b], z.length = 2 := by intro z hz; simp at hz; subst hz; exact hb
  have hmk : (0 : Int) ≤ 0 ∧ (0 : Int) ≤ (((xs.map enc).length : Nat) : Int) + 1 ∧ ((((xs.map enc).length : Nat) : Int) + 1) * (32 : Nat) ≤ 140737488355328 := by rw [hlm]; omega
  have h3 : ((([] : List (List PV)) ++ xs.map enc).length + [b].length) * 32 ≤ 140737488355328 := by
    rw [List.nil_append, hlm]; exact hbig
  have hj : ∀ (A C : List (List PV)), (xs.map enc).length ≤ ((A ++ xs.map enc) ++ C).length := fun A C => by rw [List.length_append, List.length_append]; omega
  have hj2 : ∀ (A C : List (List PV)), A.length + C.length ≤ (A ++ C).length := fun A C => by rw [List.length_append]; exact Nat.le_refl _
  unfold c76
  repeat (first
    | refine r_mks rfl rfl hmk rfl ?_ | refine r_appRow (fs := []) rfl rfl rfl rfl rfl rfl hxs h1 (by decide) (Or.inr rfl) ?_
    | refine r_appRow (fs := [15]) rfl rfl List.length_append.symm rfl rfl rfl h2 h3 (by decide) (Or.inr rfl) ?_ | refine r_slcR rfl rfl (hj2 _ _) rfl (hj _ _) ?_ | refine r_mv_p rfl ?_
    | refine r_addA rfl rfl ?_ | refine r_loadB rfl rfl ?_ | refine r_sem rfl rfl rfl rfl ?_ | refine r_nil ?_ | refine r_box rfl rfl rfl ?_ | refine r_bsl1 rfl (by assumption) rfl ?_
    | refine r_mv_nil rfl ?_ | refine r_mv_rowA rfl rfl ?_ | refine run_seq ?_ | refine run_reg ?_ | refine run_ret ?_ | refine fin_seq ?_)
  refine fin_out (out_row rfl rfl (hj _ _)) ?_
  simp
theorem lent77 {α : Type} (enc : α → List PV) (b : List PV) (hb : b.length = 8) (xs : List α) (sp : List (List PV)) (hen : ∀ x ∈ xs, (enc x).length = 8) (hbig : (xs.length + 1) * 80 ≤ 140737488355328) : Ret Try.prog 77 [.sl (xs.map enc) sp, .agg b] (.sl (xs.map enc) [b]) := by
  refine ret77 rfl fun hbd => ?_
  have hxs : ∀ z ∈ xs.map enc, z.length = 8 := by intro z hz; obtain ⟨y, hy, rfl⟩ := List.mem_map.1 hz; exact hen y hy
  have hlm : (xs.map enc).length = xs.length := List.length_map ..
  have h1 : ((List.replicate (0 : Int).toNat ([] : List PV)).length + (xs.map enc).length) * 80 ≤ 140737488355328 := by
    rw [hlm]; show (0 + xs.length) * 80 ≤ _; omega
  have h2 : ∀ z ∈ [b], z.length = 8 := by intro z hz; simp at hz; subst hz; exact hb
  have hmk : (0 : Int) ≤ 0 ∧ (0 : Int) ≤ (((xs.map enc).length : Nat) : Int) + 1 ∧ ((((xs.map enc).length : Nat) : Int) + 1) * (80 : Nat) ≤ 140737488355328 := by rw [hlm]; omega
  have h3 : ((([] : List (List PV)) ++ xs.map enc).length + [b].length) * 80 ≤ 140737488355328 := by
    rw [List.nil_append, hlm]; exact hbig
  have hj : ∀ (A C : List (List PV)), (xs.map enc).length ≤ ((A ++ xs.map enc) ++ C).length := fun A C => by rw [List.length_append, List.length_append]; omega
  have hj2 : ∀ (A C : List (List PV)), A.length + C.length ≤ (A ++ C).length := fun A C => by rw [List.length_append]; exact Nat.le_refl _
  unfold c77
  repeat (first
    | refine r_mks rfl rfl hmk rfl ?_ | refine r_appRow (fs := []) rfl rfl rfl rfl rfl rfl hxs h1 (by decide) (Or.inr rfl) ?_
    | refine r_appRow (fs := [15]) rfl rfl List.length_append.symm rfl rfl rfl h2 h3 (by decide) (Or.inr rfl) ?_ | refine r_slcR rfl rfl (hj2 _ _) rfl (hj _ _) ?_ | refine r_mv_p rfl ?_
    | refine r_addA rfl rfl ?_ | refine r_loadB rfl rfl ?_ | refine r_sem rfl rfl rfl rfl ?_ | refine r_nil ?_ | refine r_box rfl rfl rfl ?_ | refine r_bsl1 rfl (by assumption) rfl ?_
    | refine r_mv_nil rfl ?_ | refine r_mv_rowA rfl rfl ?_ | refine run_seq ?_ | refine run_reg ?_ | refine run_ret ?_ | refine fin_seq ?_)
  refine fin_out (out_row rfl rfl (hj _ _)) ?_
  simp
theorem lent78 {α : Type} (enc : α → List PV) (b : List PV) (hb : b.length = 6) (xs : List α) (sp : List (List PV)) (hen : ∀ x ∈ xs, (enc x).length = 6) (hbig : (xs.length + 1) * 72 ≤ 140737488355328) : Ret Try.prog 78 [.sl (xs.map enc) sp, .agg b] (.sl (xs.map enc) [b]) := by
  refine ret78 rfl fun hbd => ?_
  have hxs : ∀ z ∈ xs.map enc, z.length = 6 := by intro z hz; obtain ⟨y, hy, rfl⟩ := List.mem_map.1 hz; exact hen y hy
  have hlm : (xs.map enc).length = xs.length := List.length_map ..
  have h1 : ((List.replicate (0 : Int).toNat ([] : List PV)).length + (xs.map enc).length) * 72 ≤ 140737488355328 := by
    rw [hlm]; show (0 + xs.length) * 72 ≤ _; omega
  have h2 : ∀ z ∈ [b], z.length = 6 := by intro z hz; simp at hz; subst hz; exact hb
  have hmk : (0 : Int) ≤ 0 ∧ (0 : Int) ≤ (((xs.map enc).length : Nat) : Int) + 1 ∧ ((((xs.map enc).length : Nat) : Int) + 1) * (72 : Nat) ≤ 140737488355328 := by rw [hlm]; omega
  have h3 : ((([] : List (List PV)) ++ xs.map enc).length + [b].length) * 72 ≤ 140737488355328 := by
    rw [List.nil_append, hlm]; exact hbig
  have hj : ∀ (A C : List (List PV)), (xs.map enc).length ≤ ((A ++ xs.map enc) ++ C).length := fun A C => by rw [List.length_append, List.length_append]; omega
  have hj2 : ∀ (A C : List (List PV)), A.length + C.length ≤ (A ++ C).length := fun A C => by rw [List.length_append]; exact Nat.le_refl _
  unfold c78
  repeat (first
    | refine r_mks rfl rfl hmk rfl ?_ | refine r_appRow (fs := []) rfl rfl rfl rfl rfl rfl hxs h1 (by decide) (Or.inr rfl) ?_
    | refine r_appRow (fs := [15]) rfl rfl List.length_append.symm rfl rfl rfl h2 h3 (by decide) (Or.inr rfl) ?_ | refine r_slcR rfl rfl (hj2 _ _) rfl (hj _ _) ?_ | refine r_mv_p rfl ?_
    | refine r_addA rfl rfl ?_ | refine r_loadB rfl rfl ?_ | refine r_sem rfl rfl rfl rfl ?_ | refine r_nil ?_ | refine r_box rfl rfl rfl ?_ | refine r_bsl1 rfl (by assumption) rfl ?_
    | refine r_mv_nil rfl ?_ | refine r_mv_rowA rfl rfl ?_ | refine run_seq ?_ | refine run_reg ?_ | refine run_ret ?_ | refine fin_seq ?_)
  refine fin_out (out_row rfl rfl (hj _ _)) ?_
  simp
theorem lent79 {α : Type} (enc : α → List PV) (b : List PV) (hb : b.length = 3) (xs : List α) (sp : List (List PV)) (hen : ∀ x ∈ xs, (enc x).length = 3) (hbig : (xs.length + 1) * 40 ≤ 140737488355328) : Ret Try.prog 79 [.sl (xs.map enc) sp, .agg b] (.sl (xs.map enc) [b]) := by
  refine ret79 rfl fun hbd => ?_
  have hxs : ∀ z ∈ xs.map enc, z.length = 3 := by intro z hz; obtain ⟨y, hy, rfl⟩ := List.mem_map.1 hz; exact hen y hy
  have hlm : (xs.map enc).length = xs.length := List.length_map ..
  have h1 : ((List.replicate (0 : Int).toNat ([] : List PV)).length + (xs.map enc).length) * 40 ≤ 140737488355328 := by
    rw [hlm]; show (0 + xs.length) * 40 ≤ _; omega
  have h2 : ∀ z ∈ [b], z.length = 3 := by intro z hz; simp at hz; subst hz; exact hb
  have hmk : (0 : Int) ≤ 0 ∧ (0 : Int) ≤ (((xs.map enc).length : Nat) : Int) + 1 ∧ ((((xs.map enc).length : Nat) : Int) + 1) * (40 : Nat) ≤ 140737488355328 := by rw [hlm]; omega
  have h3 : ((([] : List (List PV)) ++ xs.map enc).length + [b].length) * 40 ≤ 140737488355328 := by
    rw [List.nil_append, hlm]; exact hbig
  have hj : ∀ (A C : List (List PV)), (xs.map enc).length ≤ ((A ++ xs.map enc) ++ C).length := fun A C => by rw [List.length_append, List.length_append]; omega
  have hj2 : ∀ (A C : List (List PV)), A.length + C.length ≤ (A ++ C).length := fun A C => by rw [List.length_append]; exact Nat.le_refl _
  unfold c79
  repeat (first
    | refine r_mks rfl rfl hmk rfl ?_ | refine r_appRow (fs := []) rfl rfl rfl rfl rfl rfl hxs h1 (by decide) (Or.inr rfl) ?_
    | refine r_appRow (fs := [15]) rfl rfl List.length_append.symm rfl rfl rfl h2 h3 (by decide) (Or.inr rfl) ?_ | refine r_slcR rfl rfl (hj2 _ _) rfl (hj _ _) ?_ | refine r_mv_p rfl ?_
    | refine r_addA rfl rfl ?_ | refine r_loadB rfl rfl ?_ | refine r_sem rfl rfl rfl rfl ?_ | refine r_nil ?_ | refine r_box rfl rfl rfl ?_ | refine r_bsl1 rfl (by assumption) rfl ?_
    | refine r_mv_nil rfl ?_ | refine r_mv_rowA rfl rfl ?_ | refine run_seq ?_ | refine run_reg ?_ | refine run_ret ?_ | refine fin_seq ?_)
  refine fin_out (out_row rfl rfl (hj _ _)) ?_
  simp
theorem lent80 {α : Type} (enc : α → List PV) (b : List PV) (hb : b.length = 51) (xs : List α) (sp : List (List PV)) (hen : ∀ x ∈ xs, (enc x).length = 51) (hbig : (xs.length + 1) * 488 ≤ 140737488355328) : Ret Try.prog 80 [.sl (xs.map enc) sp, .agg b] (.sl (xs.map enc) [b]) := by
  refine ret80 rfl fun hbd => ?_
  have hxs : ∀ z ∈ xs.map enc, z.length = 51 := by intro z hz; obtain ⟨y, hy, rfl⟩ := List.mem_map.1 hz; exact hen y hy
  have hlm : (xs.map enc).length = xs.length := List.length_map ..
  have h1 : ((List.replicate (0 : Int).toNat ([] : List PV)).length + (xs.map enc).length) * 488 ≤ 140737488355328 := by
    rw [hlm]; show (0 + xs.length) * 488 ≤ _; omega
  have h2 : ∀ z ∈ [b], z.length = 51 := by intro z hz; simp at hz; subst hz; exact hb
  have hmk : (0 : Int) ≤ 0 ∧ (0 : Int) ≤ (((xs.map enc).length : Nat) : Int) + 1 ∧ ((((xs.map enc).length : Nat) : Int) + 1) * (488 : Nat) ≤ 140737488355328 := by rw [hlm]; omega
  have h3 : ((([] : List (List PV)) ++ xs.map enc).length + [b].length) * 488 ≤ 140737488355328 := by
    rw [List.nil_append, hlm]; exact hbig
  have hj : ∀ (A C : List (List PV)), (xs.map enc).length ≤ ((A ++ xs.map enc) ++ C).length := fun A C => by rw [List.length_append, List.length_append]; omega
  have hj2 : ∀ (A C : List (List PV)), A.length + C.length ≤ (A ++ C).length := fun A C => by rw [List.length_append]; exact Nat.le_refl _
  unfold c80
  repeat (first
    | refine r_mks rfl rfl hmk rfl ?_ | refine r_appRow (fs := []) rfl rfl rfl rfl rfl rfl hxs h1 (by decide) (Or.inr rfl) ?_
    | refine r_appRow (fs := [15]) rfl rfl List.length_append.symm rfl rfl rfl h2 h3 (by decide) (Or.inr rfl) ?_ | refine r_slcR rfl rfl (hj2 _ _) rfl (hj _ _) ?_ | refine r_mv_p rfl ?_
    | refine r_addA rfl rfl ?_ | refine r_loadB rfl rfl ?_ | refine r_sem rfl rfl rfl rfl ?_ | refine r_nil ?_ | refine r_box rfl rfl rfl ?_ | refine r_bsl1 rfl (by assumption) rfl ?_
    | refine r_mv_nil rfl ?_ | refine r_mv_rowA rfl rfl ?_ | refine run_seq ?_ | refine run_reg ?_ | refine run_ret ?_ | refine fin_seq ?_)
  refine fin_out (out_row rfl rfl (hj _ _)) ?_
  simp
theorem lent81 {α : Type} (enc : α → List PV) (b : List PV) (hb : b.length = 50) (xs : List α) (sp : List (List PV)) (hen : ∀ x ∈ xs, (enc x).length = 50) (hbig : (xs.length + 1) * 480 ≤ 140737488355328) : Ret Try.prog 81 [.sl (xs.map enc) sp, .agg b] (.sl (xs.map enc) [b]) := by
  refine ret81 rfl fun hbd => ?_
  have hxs : ∀ z ∈ xs.map enc, z.length = 50 := by intro z hz; obtain ⟨y, hy, rfl⟩ := List.mem_map.1 hz; exact hen y hy
  have hlm : (xs.map enc).length = xs.length := List.length_map ..
  have h1 : ((List.replicate (0 : Int).toNat ([] : List PV)).length + (xs.map enc).length) * 480 ≤ 140737488355328 := by
    rw [hlm]; show (0 + xs.length) * 480 ≤ _; omega
  have h2 : ∀ z ∈ [b], z.length = 50 := by intro z hz; simp at hz; subst hz; exact hb
  have hmk : (0 : Int) ≤ 0 ∧ (0 : Int) ≤ (((xs.map enc).length : Nat) : Int) + 1 ∧ ((((xs.map enc).length : Nat) : Int) + 1) * (480 : Nat) ≤ 140737488355328 := by rw [hlm]; omega
  have h3 : ((([] : List (List PV)) ++ xs.map enc).length + [b].length) * 480 ≤ 140737488355328 := by
    rw [List.nil_append, hlm]; exact hbig
  have hj : ∀ (A C : List (List PV)), (xs.map enc).length ≤ ((A ++ xs.map enc) ++ C).length := fun A C => by rw [List.length_append, List.length_append]; omega
  have hj2 : ∀ (A C : List (List PV)), A.length + C.length ≤ (A ++ C).length := fun A C => by rw [List.length_append]; exact Nat.le_refl _
  unfold c81
  repeat (first
    | refine r_mks rfl rfl hmk rfl ?_ | refine r_appRow (fs := []) rfl rfl rfl rfl rfl rfl hxs h1 (by decide) (Or.inr rfl) ?_
    | refine r_appRow (fs := [15]) rfl rfl List.length_append.symm rfl rfl rfl h2 h3 (by decide) (Or.inr rfl) ?_ | refine r_slcR rfl rfl (hj2 _ _) rfl (hj _ _) ?_ | refine r_mv_p rfl ?_
    | refine r_addA rfl rfl ?_ | refine r_loadB rfl rfl ?_ | refine r_sem rfl rfl rfl rfl ?_ | refine r_nil ?_ | refine r_box rfl rfl rfl ?_ | refine r_bsl1 rfl (by assumption) rfl ?_
    | refine r_mv_nil rfl ?_ | refine r_mv_rowA rfl rfl ?_ | refine run_seq ?_ | refine run_reg ?_ | refine run_ret ?_ | refine fin_seq ?_)
  refine fin_out (out_row rfl rfl (hj _ _)) ?_
  simp
theorem lent82 {α : Type} (enc : α → List PV) (b : List PV) (hb : b.length = 8) (xs : List α) (sp : List (List PV)) (hen : ∀ x ∈ xs, (enc x).length = 8) (hbig : (xs.length + 1) * 96 ≤ 140737488355328) : Ret Try.prog 82 [.sl (xs.map enc) sp, .agg b] (.sl (xs.map enc) [b]) := by
  refine ret82 rfl fun hbd => ?_
  have hxs : ∀ z ∈ xs.map enc, z.length = 8 := by intro z hz; obtain ⟨y, hy, rfl⟩ := List.mem_map.1 hz; exact hen y hy
  have hlm : (xs.map enc).length = xs.length := List.length_map ..
  have h1 : ((List.replicate (0 : Int).toNat ([] : List PV)).length + (xs.map enc).length) * 96 ≤ 140737488355328 := by
    rw [hlm]; show (0 + xs.length) * 96 ≤ _; omega
  have h2 : ∀ z ∈ [b], z.length = 8 := by intro z hz; simp at hz; subst hz; exact hb
  have hmk : (0 : Int) ≤ 0 ∧ (0 : Int) ≤ (((xs.map enc).length : Nat) : Int) + 1 ∧ ((((xs.map enc).length : Nat) : Int) + 1) * (96 : Nat) ≤ 140737488355328 := by rw [hlm]; omega
  have h3 : ((([] : List (List PV)) ++ xs.map enc).length + [b].length) * 96 ≤ 140737488355328 := by
    rw [List.nil_append, hlm]; exact hbig
  have hj : ∀ (A C : List (List PV)), (xs.map enc).length ≤ ((A ++ xs.map enc) ++ C).length := fun A C => by rw [List.length_append, List.length_append]; omega
  have hj2 : ∀ (A C : List (List PV)), A.length + C.length ≤ (A ++ C).length := fun A C => by rw [List.length_append]; exact Nat.le_refl _
  unfold c82
  repeat (first
    | refine r_mks rfl rfl hmk rfl ?_ | refine r_appRow (fs := []) rfl rfl rfl rfl rfl rfl hxs h1 (by decide) (Or.inr rfl) ?_
    | refine r_appRow (fs := [15]) rfl rfl List.length_append.symm rfl rfl rfl h2 h3 (by decide) (Or.inr rfl) ?_ | refine r_slcR rfl rfl (hj2 _ _) rfl (hj _ _) ?_ | refine r_mv_p rfl ?_
    | refine r_addA rfl rfl ?_ | refine r_loadB rfl rfl ?_ | refine r_sem rfl rfl rfl rfl ?_ | refine r_nil ?_ | refine r_box rfl rfl rfl ?_ | refine r_bsl1 rfl (by assumption) rfl ?_
    | refine r_mv_nil rfl ?_ | refine r_mv_rowA rfl rfl ?_ | refine run_seq ?_ | refine run_reg ?_ | refine run_ret ?_ | refine fin_seq ?_)
  refine fin_out (out_row rfl rfl (hj _ _)) ?_
  simp
theorem lent83 {α : Type} (enc : α → List PV) (b : List PV) (hb : b.length = 11) (xs : List α) (sp : List (List PV)) (hen : ∀ x ∈ xs, (enc x).length = 11) (hbig : (xs.length + 1) * 136 ≤ 140737488355328) : Ret Try.prog 83 [.sl (xs.map enc) sp, .agg b] (.sl (xs.map enc) [b]) := by
  refine ret83 rfl fun hbd => ?_
  have hxs : ∀ z ∈ xs.map enc, z.length = 11 := by intro z hz; obtain ⟨y, hy, rfl⟩ := List.mem_map.1 hz; exact hen y hy
  have hlm : (xs.map enc).length = xs.length := List.length_map ..
  have h1 : ((List.replicate (0 : Int).toNat ([] : List PV)).length + (xs.map enc).length) * 136 ≤ 140737488355328 := by
    rw [hlm]; show (0 + xs.length) * 136 ≤ _; omega
  have h2 : ∀ z ∈ [b], z.length = 11 := by intro z hz; simp at hz; subst hz; exact hb
  have hmk : (0 : Int) ≤ 0 ∧ (0 : Int) ≤ (((xs.map enc).length : Nat) : Int) + 1 ∧ ((((xs.map enc).length : Nat) : Int) + 1) * (136 : Nat) ≤ 140737488355328 := by rw [hlm]; omega
  have h3 : ((([] : List (List PV)) ++ xs.map enc).length + [b].length) * 136 ≤ 140737488355328 := by
    rw [List.nil_append, hlm]; exact hbig
  have hj : ∀ (A C : List (List PV)), (xs.map enc).length ≤ ((A ++ xs.map enc) ++ C).length := fun A C => by rw [List.length_append, List.length_append]; omega
  have hj2 : ∀ (A C : List (List PV)), A.length + C.length ≤ (A ++ C).length := fun A C => by rw [List.length_append]; exact Nat.le_refl _
  unfold c83
  repeat (first
    | refine r_mks rfl rfl hmk rfl ?_ | refine r_appRow (fs := []) rfl rfl rfl rfl rfl rfl hxs h1 (by decide) (Or.inr rfl) ?_
    | refine r_appRow (fs := [15]) rfl rfl List.length_append.symm rfl rfl rfl h2 h3 (by decide) (Or.inr rfl) ?_ | refine r_slcR rfl rfl (hj2 _ _) rfl (hj _ _) ?_ | refine r_mv_p rfl ?_
    | refine r_addA rfl rfl ?_ | refine r_loadB rfl rfl ?_ | refine r_sem rfl rfl rfl rfl ?_ | refine r_nil ?_ | refine r_box rfl rfl rfl ?_ | refine r_bsl1 rfl (by assumption) rfl ?_
    | refine r_mv_nil rfl ?_ | refine r_mv_rowA rfl rfl ?_ | refine run_seq ?_ | refine run_reg ?_ | refine run_ret ?_ | refine fin_seq ?_)
  refine fin_out (out_row rfl rfl (hj _ _)) ?_
  simp
theorem lent84 {α : Type} (enc : α → List PV) (b : List PV) (hb : b.length = 2) (xs : List α) (sp : List (List PV)) (hen : ∀ x ∈ xs, (enc x).length = 2) (hbig : (xs.length + 1) * 32 ≤ 140737488355328) : Ret Try.prog 84 [.sl (xs.map enc) sp, .agg b] (.sl (xs.map enc) [b]) := by
  refine ret84 rfl fun hbd => ?_
  have hxs : ∀ z ∈ xs.map enc, z.length = 2 := by intro z hz; obtain ⟨y, hy, rfl⟩ := List.mem_map.1 hz; exact hen y hy
  have hlm : (xs.map enc).length = xs.length := List.length_map ..
  have h1 : ((List.replicate (0 : Int).toNat ([] : List PV)).length + (xs.map enc).length) * 32 ≤ 140737488355328 := by
    rw [hlm]; show (0 + xs.length) * 32 ≤ _; omega
  have h2 : ∀ z ∈ [b], z.length = 2 := by intro z hz; simp at hz; subst hz; exact hb
  have hmk : (0 : Int) ≤ 0 ∧ (0 : Int) ≤ (((xs.map enc).length : Nat) : Int) + 1 ∧ ((((xs.map enc).length : Nat) : Int) + 1) * (32 : Nat) ≤ 140737488355328 := by rw [hlm]; omega
  have h3 : ((([] : List (List PV)) ++ xs.map enc).length + [b].length) * 32 ≤ 140737488355328 := by
    rw [List.nil_append, hlm]; exact hbig
  have hj : ∀ (A C : List (List PV)), (xs.map enc).length ≤ ((A ++ xs.map enc) ++ C).length := fun A C => by rw [List.length_append, List.length_append]; omega
  have hj2 : ∀ (A C : List (List PV)), A.length + C.length ≤ (A ++ C).length := fun A C => by rw [List.length_append]; exact Nat.le_refl _
  unfold c84
  repeat (first
    | refine r_mks rfl rfl hmk rfl ?_ | refine r_appRow (fs := []) rfl rfl rfl rfl rfl rfl hxs h1 (by decide) (Or.inr rfl) ?_
    | refine r_appRow (fs := [15]) rfl rfl List.length_append.symm rfl rfl rfl h2 h3 (by decide) (Or.inr rfl) ?_ | refine r_slcR rfl rfl (hj2 _ _) rfl (hj _ _) ?_ | refine r_mv_p rfl ?_
    | refine r_addA rfl rfl ?_ | refine r_loadB rfl rfl ?_ | refine r_sem rfl rfl rfl rfl ?_ | refine r_nil ?_ | refine r_box rfl rfl rfl ?_ | refine r_bsl1 rfl (by assumption) rfl ?_
    | refine r_mv_nil rfl ?_ | refine r_mv_rowA rfl rfl ?_ | refine run_seq ?_ | refine run_reg ?_ | refine run_ret ?_ | refine fin_seq ?_)
  refine fin_out (out_row rfl rfl (hj _ _)) ?_
  simp
theorem lent85 {α : Type} (enc : α → List PV) (b : List PV) (hb : b.length = 5) (xs : List α) (sp : List (List PV)) (hen : ∀ x ∈ xs, (enc x).length = 5) (hbig : (xs.length + 1) * 64 ≤ 140737488355328) : Ret Try.prog 85 [.sl (xs.map enc) sp, .agg b] (.sl (xs.map enc) [b]) := by
  refine ret85 rfl fun hbd => ?_
  have hxs : ∀ z ∈ xs.map enc, z.length = 5 := by intro z hz; obtain ⟨y, hy, rfl⟩ := List.mem_map.1 hz; exact hen y hy
  have hlm : (xs.map enc).length = xs.length := List.length_map ..
  have h1 : ((List.replicate (0 : Int).toNat ([] : List PV)).length + (xs.map enc).length) * 64 ≤ 140737488355328 := by
    rw [hlm]; show (0 + xs.length) * 64 ≤ _; omega
  have h2 : ∀ z ∈ [b], z.length = 5 := by intro z hz; simp at hz; subst hz; exact hb
  have hmk : (0 : Int) ≤ 0 ∧ (0 : Int) ≤ (((xs.map enc).length : Nat) : Int) + 1 ∧ ((((xs.map enc).length : Nat) : Int) + 1) * (64 : Nat) ≤ 140737488355328 := by rw [hlm]; omega
  have h3 : ((([] : List (List PV)) ++ xs.map enc).length + [b].length) * 64 ≤ 140737488355328 := by
    rw [List.nil_append, hlm]; exact hbig
  have hj : ∀ (A C : List (List PV)), (xs.map enc).length ≤ ((A ++ xs.map enc) ++ C).length := fun A C => by rw [List.length_append, List.length_append]; omega
  have hj2 : ∀ (A C : List (List PV)), A.length + C.length ≤ (A ++ C).length := fun A C => by rw [List.length_append]; exact Nat.le_refl _
  unfold c85
  repeat (first
    | refine r_mks rfl rfl hmk rfl ?_ | refine r_appRow (fs := []) rfl rfl rfl rfl rfl rfl hxs h1 (by decide) (Or.inr rfl) ?_
    | refine r_appRow (fs := [15]) rfl rfl List.length_append.symm rfl rfl rfl h2 h3 (by decide) (Or.inr rfl) ?_ | refine r_slcR rfl rfl (hj2 _ _) rfl (hj _ _) ?_ | refine r_mv_p rfl ?_
    | refine r_addA rfl rfl ?_ | refine r_loadB rfl rfl ?_ | refine r_sem rfl rfl rfl rfl ?_ | refine r_nil ?_ | refine r_box rfl rfl rfl ?_ | refine r_bsl1 rfl (by assumption) rfl ?_
    | refine r_mv_nil rfl ?_ | refine r_mv_rowA rfl rfl ?_ | refine run_seq ?_ | refine run_reg ?_ | refine run_ret ?_ | refine fin_seq ?_)
  refine fin_out (out_row rfl rfl (hj _ _)) ?_
  simp
theorem lent86 {α : Type} (enc : α → List PV) (b : List PV) (hb : b.length = 5) (xs : List α) (sp : List (List PV)) (hen : ∀ x ∈ xs, (enc x).length = 5) (hbig : (xs.length + 1) * 64 ≤ 140737488355328) : Ret Try.prog 86 [.sl (xs.map enc) sp, .agg b] (.sl (xs.map enc) [b]) := by
  refine ret86 rfl fun hbd => ?_
  have hxs : ∀ z ∈ xs.map enc, z.length = 5 := by intro z hz; obtain ⟨y, hy, rfl⟩ := List.mem_map.1 hz; exact hen y hy
  have hlm : (xs.map enc).length = xs.length := List.length_map ..
  have h1 : ((List.replicate (0 : Int).toNat ([] : List PV)).length + (xs.map enc).length) * 64 ≤ 140737488355328 := by
    rw [hlm]; show (0 + xs.length) * 64 ≤ _; omega
  have h2 : ∀ z ∈ [b], z.length = 5 := by intro z hz; simp at hz; subst hz; exact hb
  have hmk : (0 : Int) ≤ 0 ∧ (0 : Int) ≤ (((xs.map enc).length : Nat) : Int) + 1 ∧ ((((xs.map enc).length : Nat) : Int) + 1) * (64 : Nat) ≤ 140737488355328 := by rw [hlm]; omega
  have h3 : ((([] : List (List PV)) ++ xs.map enc).length + [b].length) * 64 ≤ 140737488355328 := by
    rw [List.nil_append, hlm]; exact hbig
  have hj : ∀ (A C : List (List PV)), (xs.map enc).length ≤ ((A ++ xs.map enc) ++ C).length := fun A C => by rw [List.length_append, List.length_append]; omega
  have hj2 : ∀ (A C : List (List PV)), A.length + C.length ≤ (A ++ C).length := fun A C => by rw [List.length_append]; exact Nat.le_refl _
  unfold c86
  repeat (first
    | refine r_mks rfl rfl hmk rfl ?_ | refine r_appRow (fs := []) rfl rfl rfl rfl rfl rfl hxs h1 (by decide) (Or.inr rfl) ?_
    | refine r_appRow (fs := [15]) rfl rfl List.length_append.symm rfl rfl rfl h2 h3 (by decide) (Or.inr rfl) ?_ | refine r_slcR rfl rfl (hj2 _ _) rfl (hj _ _) ?_ | refine r_mv_p rfl ?_
    | refine r_addA rfl rfl ?_ | refine r_loadB rfl rfl ?_ | refine r_sem rfl rfl rfl rfl ?_ | refine r_nil ?_ | refine r_box rfl rfl rfl ?_ | refine r_bsl1 rfl (by assumption) rfl ?_
    | refine r_mv_nil rfl ?_ | refine r_mv_rowA rfl rfl ?_ | refine run_seq ?_ | refine run_reg ?_ | refine run_ret ?_ | refine fin_seq ?_)
  refine fin_out (out_row rfl rfl (hj _ _)) ?_
  simp
theorem lent87 {α : Type} (enc : α → List PV) (b : List PV) (hb : b.length = 6) (xs : List α) (sp : List (List PV)) (hen : ∀ x ∈ xs, (enc x).length = 6) (hbig : (xs.length + 1) * 64 ≤ 140737488355328) : Ret Try.prog 87 [.sl (xs.map enc) sp, .agg b] (.sl (xs.map enc) [b]) := by
  refine ret87 rfl fun hbd => ?_
  have hxs : ∀ z ∈ xs.map enc, z.length = 6 := by intro z hz; obtain ⟨y, hy, rfl⟩ := List.mem_map.1 hz; exact hen y hy
  have hlm : (xs.map enc).length = xs.length := List.length_map ..
  have h1 : ((List.replicate (0 : Int).toNat ([] : List PV)).length + (xs.map enc).length) * 64 ≤ 140737488355328 := by
    rw [hlm]; show (0 + xs.length) * 64 ≤ _; omega
  have h2 : ∀ z ∈ [b], z.length = 6 := by intro z hz; simp at hz; subst hz; exact hb
  have hmk : (0 : Int) ≤ 0 ∧ (0 : Int) ≤ (((xs.map enc).length : Nat) : Int) + 1 ∧ ((((xs.map enc).length : Nat) : Int) + 1) * (64 : Nat) ≤ 140737488355328 := by rw [hlm]; omega
  have h3 : ((([] : List (List PV)) ++ xs.map enc).length + [b].length) * 64 ≤ 140737488355328 := by
    rw [List.nil_append, hlm]; exact hbig
  have hj : ∀ (A C : List (List PV)), (xs.map enc).length ≤ ((A ++ xs.map enc) ++ C).length := fun A C => by rw [List.length_append, List.length_append]; omega
  have hj2 : ∀ (A C : List (List PV)), A.length + C.length ≤ (A ++ C).length := fun A C => by rw [List.length_append]; exact Nat.le_refl _
  unfold c87
  repeat (first
    | refine r_mks rfl rfl hmk rfl ?_ | refine r_appRow (fs := []) rfl rfl rfl rfl rfl rfl hxs h1 (by decide) (Or.inr rfl) ?_
    | refine r_appRow (fs := [15]) rfl rfl List.length_append.symm rfl rfl rfl h2 h3 (by decide) (Or.inr rfl) ?_ | refine r_slcR rfl rfl (hj2 _ _) rfl (hj _ _) ?_ | refine r_mv_p rfl ?_
    | refine r_addA rfl rfl ?_ | refine r_loadB rfl rfl ?_ | refine r_sem rfl rfl rfl rfl ?_ | refine r_nil ?_ | refine r_box rfl rfl rfl ?_ | refine r_bsl1 rfl (by assumption) rfl ?_
    | refine r_mv_nil rfl ?_ | refine r_mv_rowA rfl rfl ?_ | refine run_seq ?_ | refine run_reg ?_ | refine run_ret ?_ | refine fin_seq ?_)
  refine fin_out (out_row rfl rfl (hj _ _)) ?_
  simp
theorem same92 {α : Type} (enc : α → List PV) (xs : List α) (s1 s2 : List (List PV)) (hen : ∀ x ∈ xs, (enc x).length = 14) (hc : ∀ x ∈ xs, cellsEq [.s, .s, .i .i64, .s, .i .i64, .s, .i .i64, .s, .i .i64, .i .i64, .i .i64, .b, .b, .b] (enc x) (enc x) = some true) : Ret Try.prog 92 [.sl (xs.map enc) s1, .sl (xs.map enc) s2] (.v (.bool true)) := by
  refine ret92 rfl fun hbd => ?_
  have hb : xs.length ≤ 9223372036854775807 := by
    have := hbd _ (List.mem_cons_self)
    simp only [PV.bd, PV.bd1, List.length_append, List.length_map, maxLen] at this
    omega
  have h0 : (!decide ((((xs.map enc).length : Nat) : Int) = (((xs.map enc).length : Nat) : Int))) = false := by simp
  unfold c92
  repeat (first
    | refine r_mv_p rfl ?_ | refine r_sem rfl rfl rfl rfl ?_ | refine r_nil ?_ | refine run_seq ?_ | refine run_reg ?_ | refine run_block ?_ | refine run_skip ?_ | refine fin_seq ?_
    | refine run_condF rfl ?_)
  refine run_weak (weak_S ?_ ?_) (run_inv (fun i : Nat => S [(0, .p (.sl (xs.map enc) s1)), (1, .p (.sl (xs.map enc) s2)), (4, .p (.v (.bool false))), (5, .p (.v (.int .i64 (i : Nat))))] [])
    (fun i => i ≤ xs.length) (fun i => xs.length - i) ?_ 0 (Nat.zero_le _))
  · exact ⟨rfl, rfl, rfl, rfl, trivial⟩
  · trivial
  intro i hi ih
  repeat (first
    | refine r_mv_p rfl ?_ | refine r_sem rfl rfl rfl rfl ?_ | refine r_nil ?_ | refine run_seq ?_ | refine run_reg ?_ | refine fin_seq ?_)
  refine run_cond rfl (fun h => ?_) (fun h => ?_)
  · have hlt : i < xs.length := by simpa using h
    have hx : (xs.map enc)[i]? = some (enc xs[i]) := by simp [hlt]
    have hel := hen xs[i] (List.getElem_mem hlt)
    have hce := hc xs[i] (List.getElem_mem hlt)
    repeat (first
      | refine r_eqs rfl rfl hce ?_ | refine r_mv_p rfl ?_ | refine r_addA rfl rfl ?_ | refine r_loadA rfl ?_ | refine r_nil ?_ | refine r_iadA rfl rfl ?_ | refine run_seq ?_
      | refine run_reg ?_ | refine run_regd rfl ?_ | refine run_block ?_ | refine run_skip ?_ | refine fin_seq ?_ | refine fin_blk ?_ | refine run_condF rfl ?_)
    refine fin_loop (run_weak (weak_S ?_ ?_) (ih (i + 1) hlt (by omega)))
    · exact ⟨rfl, rfl, rfl, rfl, trivial⟩
    · trivial
  · repeat (first
      | refine r_mv_p rfl ?_ | refine r_nil ?_ | refine run_seq ?_ | refine run_reg ?_ | refine run_exit ?_ | refine run_ret ?_ | refine fin_seq ?_ | refine fin_seq_e ?_
      | refine fin_blk_e ?_ | refine fin_loop_e ?_)
    exact fin_out rfl rfl
theorem same93 {α : Type} (enc : α → List PV) (xs : List α) (s1 s2 : List (List PV)) (hen : ∀ x ∈ xs, (enc x).length = 3) (hc : ∀ x ∈ xs, cellsEq [.s, .s, .i .i64] (enc x) (enc x) = some true) : Ret Try.prog 93 [.sl (xs.map enc) s1, .sl (xs.map enc) s2] (.v (.bool true)) := by
  refine ret93 rfl fun hbd => ?_
  have hb : xs.length ≤ 9223372036854775807 := by
    have := hbd _ (List.mem_cons_self)
    simp only [PV.bd, PV.bd1, List.length_append, List.length_map, maxLen] at this
    omega
  have h0 : (!decide ((((xs.map enc).length : Nat) : Int) = (((xs.map enc).length : Nat) : Int))) = false := by simp
  unfold c93
  repeat (first
    | refine r_mv_p rfl ?_ | refine r_sem rfl rfl rfl rfl ?_ | refine r_nil ?_ | refine run_seq ?_ | refine run_reg ?_ | refine run_block ?_ | refine run_skip ?_ | refine fin_seq ?_
    | refine run_condF rfl ?_)
  refine run_weak (weak_S ?_ ?_) (run_inv (fun i : Nat => S [(0, .p (.sl (xs.map enc) s1)), (1, .p (.sl (xs.map enc) s2)), (4, .p (.v (.bool false))), (5, .p (.v (.int .i64 (i : Nat))))] [])
    (fun i => i ≤ xs.length) (fun i => xs.length - i) ?_ 0 (Nat.zero_le _))
  · exact ⟨rfl, rfl, rfl, rfl, trivial⟩
  · trivial
  intro i hi ih
  repeat (first
    | refine r_mv_p rfl ?_ | refine r_sem rfl rfl rfl rfl ?_ | refine r_nil ?_ | refine run_seq ?_ | refine run_reg ?_ | refine fin_seq ?_)
  refine run_cond rfl (fun h => ?_) (fun h => ?_)
  · have hlt : i < xs.length := by simpa using h
    have hx : (xs.map enc)[i]? = some (enc xs[i]) := by simp [hlt]
    have hel := hen xs[i] (List.getElem_mem hlt)
    have hce := hc xs[i] (List.getElem_mem hlt)
    repeat (first
      | refine r_eqs rfl rfl hce ?_ | refine r_mv_p rfl ?_ | refine r_addA rfl rfl ?_ | refine r_loadA rfl ?_ | refine r_nil ?_ | refine r_iadA rfl rfl ?_ | refine run_seq ?_
      | refine run_reg ?_ | refine run_regd rfl ?_ | refine run_block ?_ | refine run_skip ?_ | refine fin_seq ?_ | refine fin_blk ?_ | refine run_condF rfl ?_)
    refine fin_loop (run_weak (weak_S ?_ ?_) (ih (i + 1) hlt (by omega)))
    · exact ⟨rfl, rfl, rfl, rfl, trivial⟩
    · trivial
  · repeat (first
      | refine r_mv_p rfl ?_ | refine r_nil ?_ | refine run_seq ?_ | refine run_reg ?_ | refine run_exit ?_ | refine run_ret ?_ | refine fin_seq ?_ | refine fin_seq_e ?_
      | refine fin_blk_e ?_ | refine fin_loop_e ?_)
    exact fin_out rfl rfl
theorem same94 {α : Type} (enc : α → List PV) (xs : List α) (s1 s2 : List (List PV)) (hen : ∀ x ∈ xs, (enc x).length = 2) (hc : ∀ x ∈ xs, cellsEq [.s, .s] (enc x) (enc x) = some true) : Ret Try.prog 94 [.sl (xs.map enc) s1, .sl (xs.map enc) s2] (.v (.bool true)) := by
  refine ret94 rfl fun hbd => ?_
  have hb : xs.length ≤ 9223372036854775807 := by
    have := hbd _ (List.mem_cons_self)
    simp only [PV.bd, PV.bd1, List.length_append, List.length_map, maxLen] at this
    omega
  have h0 : (!decide ((((xs.map enc).length : Nat) : Int) = (((xs.map enc).length : Nat) : Int))) = false := by simp
  unfold c94
  repeat (first
    | refine r_mv_p rfl ?_ | refine r_sem rfl rfl rfl rfl ?_ | refine r_nil ?_ | refine run_seq ?_ | refine run_reg ?_ | refine run_block ?_ | refine run_skip ?_ | refine fin_seq ?_
    | refine run_condF rfl ?_)
  refine run_weak (weak_S ?_ ?_) (run_inv (fun i : Nat => S [(0, .p (.sl (xs.map enc) s1)), (1, .p (.sl (xs.map enc) s2)), (4, .p (.v (.bool false))), (5, .p (.v (.int .i64 (i : Nat))))] [])
    (fun i => i ≤ xs.length) (fun i => xs.length - i) ?_ 0 (Nat.zero_le _))
  · exact ⟨rfl, rfl, rfl, rfl, trivial⟩
  · trivial
  intro i hi ih
  repeat (first
    | refine r_mv_p rfl ?_ | refine r_sem rfl rfl rfl rfl ?_ | refine r_nil ?_ | refine run_seq ?_ | refine run_reg ?_ | refine fin_seq ?_)
  refine run_cond rfl (fun h => ?_) (fun h => ?_)
  · have hlt : i < xs.length := by simpa using h
    have hx : (xs.map enc)[i]? = some (enc xs[i]) := by simp [hlt]
    have hel := hen xs[i] (List.getElem_mem hlt)
    have hce := hc xs[i] (List.getElem_mem hlt)
    repeat (first
      | refine r_eqs rfl rfl hce ?_ | refine r_mv_p rfl ?_ | refine r_addA rfl rfl ?_ | refine r_loadA rfl ?_ | refine r_nil ?_ | refine r_iadA rfl rfl ?_ | refine run_seq ?_
      | refine run_reg ?_ | refine run_regd rfl ?_ | refine run_block ?_ | refine run_skip ?_ | refine fin_seq ?_ | refine fin_blk ?_ | refine run_condF rfl ?_)
    refine fin_loop (run_weak (weak_S ?_ ?_) (ih (i + 1) hlt (by omega)))
    · exact ⟨rfl, rfl, rfl, rfl, trivial⟩
    · trivial
  · repeat (first
      | refine r_mv_p rfl ?_ | refine r_nil ?_ | refine run_seq ?_ | refine run_reg ?_ | refine run_exit ?_ | refine run_ret ?_ | refine fin_seq ?_ | refine fin_seq_e ?_
      | refine fin_blk_e ?_ | refine fin_loop_e ?_)
    exact fin_out rfl rfl
theorem same95 {α : Type} (enc : α → List PV) (xs : List α) (s1 s2 : List (List PV)) (hen : ∀ x ∈ xs, (enc x).length = 8) (hc : ∀ x ∈ xs, cellsEq [.s, .s, .i .i64, .i .i64, .i .i64, .i .i64, .i .i64, .b] (enc x) (enc x) = some true) : Ret Try.prog 95 [.sl (xs.map enc) s1, .sl (xs.map enc) s2] (.v (.bool true)) := by
  refine ret95 rfl fun hbd => ?_
  have hb : xs.length ≤ 9223372036854775807 := by
    have := hbd _ (List.mem_cons_self)
    simp only [PV.bd, PV.bd1, List.length_append, List.length_map, maxLen] at this
    omega
  have h0 : (!decide ((((xs.map enc).length : Nat) : Int) = (((xs.map enc).length : Nat) : Int))) = false := by simp
  unfold c95
  repeat (first
    | refine r_mv_p rfl ?_ | refine r_sem rfl rfl rfl rfl ?_ | refine r_nil ?_ | refine run_seq ?_ | refine run_reg ?_ | refine run_block ?_ | refine run_skip ?_ | refine fin_seq ?_
    | refine run_condF rfl ?_)
  refine run_weak (weak_S ?_ ?_) (run_inv (fun i : Nat => S [(0, .p (.sl (xs.map enc) s1)), (1, .p (.sl (xs.map enc) s2)), (4, .p (.v (.bool false))), (5, .p (.v (.int .i64 (i : Nat))))] [])
    (fun i => i ≤ xs.length) (fun i => xs.length - i) ?_ 0 (Nat.zero_le _))
  · exact ⟨rfl, rfl, rfl, rfl, trivial⟩
  · trivial
  intro i hi ih
  repeat (first
    | refine r_mv_p rfl ?_ | refine r_sem rfl rfl rfl rfl ?_ | refine r_nil ?_ | refine run_seq ?_ | refine run_reg ?_ | refine fin_seq ?_)
  refine run_cond rfl (fun h => ?_) (fun h => ?_)
  · have hlt : i < xs.length := by simpa using h
    have hx : (xs.map enc)[i]? = some (enc xs[i]) := by simp [hlt]
    have hel := hen xs[i] (List.getElem_mem hlt)
    have hce := hc xs[i] (List.getElem_mem hlt)
    repeat (first
      | refine r_eqs rfl rfl hce ?_ | refine r_mv_p rfl ?_ | refine r_addA rfl rfl ?_ | refine r_loadA rfl ?_ | refine r_nil ?_ | refine r_iadA rfl rfl ?_ | refine run_seq ?_
      | refine run_reg ?_ | refine run_regd rfl ?_ | refine run_block ?_ | refine run_skip ?_ | refine fin_seq ?_ | refine fin_blk ?_ | refine run_condF rfl ?_)
    refine fin_loop (run_weak (weak_S ?_ ?_) (ih (i + 1) hlt (by omega)))
    · exact ⟨rfl, rfl, rfl, rfl, trivial⟩
    · trivial
  · repeat (first
      | refine r_mv_p rfl ?_ | refine r_nil ?_ | refine run_seq ?_ | refine run_reg ?_ | refine run_exit ?_ | refine run_ret ?_ | refine fin_seq ?_ | refine fin_seq_e ?_
      | refine fin_blk_e ?_ | refine fin_loop_e ?_)
    exact fin_out rfl rfl
theorem same96 {α : Type} (enc : α → List PV) (xs : List α) (s1 s2 : List (List PV)) (hen : ∀ x ∈ xs, (enc x).length = 6) (hc : ∀ x ∈ xs, cellsEq [.s, .s, .s, .i .i64, .i .i64, .i .i64] (enc x) (enc x) = some true) : Ret Try.prog 96 [.sl (xs.map enc) s1, .sl (xs.map enc) s2] (.v (.bool true)) := by
  refine ret96 rfl fun hbd => ?_
  have hb : xs.length ≤ 9223372036854775807 := by
    have := hbd _ (List.mem_cons_self)
    simp only [PV.bd, PV.bd1, List.length_append, List.length_map, maxLen] at this
    omega
  have h0 : (!decide ((((xs.map enc).length : Nat) : Int) = (((xs.map enc).length : Nat) : Int))) = false := by simp
  unfold c96
  repeat (first
    | refine r_mv_p rfl ?_ | refine r_sem rfl rfl rfl rfl ?_ | refine r_nil ?_ | refine run_seq ?_ | refine run_reg ?_ | refine run_block ?_ | refine run_skip ?_ | refine fin_seq ?_
    | refine run_condF rfl ?_)
  refine run_weak (weak_S ?_ ?_) (run_inv (fun i : Nat => S [(0, .p (.sl (xs.map enc) s1)), (1, .p (.sl (xs.map enc) s2)), (4, .p (.v (.bool false))), (5, .p (.v (.int .i64 (i : Nat))))] [])
    (fun i => i ≤ xs.length) (fun i => xs.length - i) ?_ 0 (Nat.zero_le _))
  · exact ⟨rfl, rfl, rfl, rfl, trivial⟩
  · trivial
  intro i hi ih
  repeat (first
    | refine r_mv_p rfl ?_ | refine r_sem rfl rfl rfl rfl ?_ | refine r_nil ?_ | refine run_seq ?_ | refine run_reg ?_ | refine fin_seq ?_)
  refine run_cond rfl (fun h => ?_) (fun h => ?_)
  · have hlt : i < xs.length := by simpa using h
    have hx : (xs.map enc)[i]? = some (enc xs[i]) := by simp [hlt]
    have hel := hen xs[i] (List.getElem_mem hlt)
    have hce := hc xs[i] (List.getElem_mem hlt)
    repeat (first
      | refine r_eqs rfl rfl hce ?_ | refine r_mv_p rfl ?_ | refine r_addA rfl rfl ?_ | refine r_loadA rfl ?_ | refine r_nil ?_ | refine r_iadA rfl rfl ?_ | refine run_seq ?_
      | refine run_reg ?_ | refine run_regd rfl ?_ | refine run_block ?_ | refine run_skip ?_ | refine fin_seq ?_ | refine fin_blk ?_ | refine run_condF rfl ?_)
    refine fin_loop (run_weak (weak_S ?_ ?_) (ih (i + 1) hlt (by omega)))
    · exact ⟨rfl, rfl, rfl, rfl, trivial⟩
    · trivial
  · repeat (first
      | refine r_mv_p rfl ?_ | refine r_nil ?_ | refine run_seq ?_ | refine run_reg ?_ | refine run_exit ?_ | refine run_ret ?_ | refine fin_seq ?_ | refine fin_seq_e ?_
      | refine fin_blk_e ?_ | refine fin_loop_e ?_)
    exact fin_out rfl rfl
theorem same97 {α : Type} (enc : α → List PV) (xs : List α) (s1 s2 : List (List PV)) (hen : ∀ x ∈ xs, (enc x).length = 3) (hc : ∀ x ∈ xs, cellsEq [.s, .s, .i .i64] (enc x) (enc x) = some true) : Ret Try.prog 97 [.sl (xs.map enc) s1, .sl (xs.map enc) s2] (.v (.bool true)) := by
  refine ret97 rfl fun hbd => ?_
  have hb : xs.length ≤ 9223372036854775807 := by
    have := hbd _ (List.mem_cons_self)
    simp only [PV.bd, PV.bd1, List.length_append, List.length_map, maxLen] at this
    omega
  have h0 : (!decide ((((xs.map enc).length : Nat) : Int) = (((xs.map enc).length : Nat) : Int))) = false := by simp
  unfold c97
  repeat (first
    | refine r_mv_p rfl ?_ | refine r_sem rfl rfl rfl rfl ?_ | refine r_nil ?_ | refine run_seq ?_ | refine run_reg ?_ | refine run_block ?_ | refine run_skip ?_ | refine fin_seq ?_
    | refine run_condF rfl ?_)
  refine run_weak (weak_S ?_ ?_) (run_inv (fun i : Nat => S [(0, .p (.sl (xs.map enc) s1)), (1, .p (.sl (xs.map enc) s2)), (4, .p (.v (.bool false))), (5, .p (.v (.int .i64 (i : Nat))))] [])
    (fun i => i ≤ xs.length) (fun i => xs.length - i) ?_ 0 (Nat.zero_le _))
  · exact ⟨rfl, rfl, rfl, rfl, trivial⟩
  · trivial
  intro i hi ih
  repeat (first
    | refine r_mv_p rfl ?_ | refine r_sem rfl rfl rfl rfl ?_ | refine r_nil ?_ | refine run_seq ?_ | refine run_reg ?_ | refine fin_seq ?_)
  refine run_cond rfl (fun h => ?_) (fun h => ?_)
  · have hlt : i < xs.length := by simpa using h
    have hx : (xs.map enc)[i]? = some (enc xs[i]) := by simp [hlt]
    have hel := hen xs[i] (List.getElem_mem hlt)
    have hce := hc xs[i] (List.getElem_mem hlt)
    repeat (first
      | refine r_eqs rfl rfl hce ?_ | refine r_mv_p rfl ?_ | refine r_addA rfl rfl ?_ | refine r_loadA rfl ?_ | refine r_nil ?_ | refine r_iadA rfl rfl ?_ | refine run_seq ?_
      | refine run_reg ?_ | refine run_regd rfl ?_ | refine run_block ?_ | refine run_skip ?_ | refine fin_seq ?_ | refine fin_blk ?_ | refine run_condF rfl ?_)
    refine fin_loop (run_weak (weak_S ?_ ?_) (ih (i + 1) hlt (by omega)))
    · exact ⟨rfl, rfl, rfl, rfl, trivial⟩
    · trivial
  · repeat (first
      | refine r_mv_p rfl ?_ | refine r_nil ?_ | refine run_seq ?_ | refine run_reg ?_ | refine run_exit ?_ | refine run_ret ?_ | refine fin_seq ?_ | refine fin_seq_e ?_
      | refine fin_blk_e ?_ | refine fin_loop_e ?_)
    exact fin_out rfl rfl
theorem same98 {α : Type} (enc : α → List PV) (xs : List α) (s1 s2 : List (List PV)) (hen : ∀ x ∈ xs, (enc x).length = 51) (hc : ∀ x ∈ xs, cellsEq [.s, .s, .s, .i .i64, .i .i64, .i .i64, .i .i64, .i .i64, .s, .i .i64, .i .i64, .i .i64, .i .i64, .i .i64, .s, .i .i64, .i .i64, .i .i64, .i .i64, .i .i64, .s, .i .i64, .i .i64, .i .i64, .i .i64, .i .i64, .s, .i .i64, .i .i64, .i .i64, .i .i64, .i .i64, .s, .i .i64, .i .i64, .i .i64, .i .i64, .i .i64, .s, .i .i64, .i .i64, .i .i64, .i .i64, .i .i64, .s, .i .i64, .i .i64, .i .i64, .i .i64, .i .i64, .b] (enc x) (enc x) = some true) : Ret Try.prog 98 [.sl (xs.map enc) s1, .sl (xs.map enc) s2] (.v (.bool true)) := by
  refine ret98 rfl fun hbd => ?_
  have hb : xs.length ≤ 9223372036854775807 := by
    have := hbd _ (List.mem_cons_self)
    simp only [PV.bd, PV.bd1, List.length_append, List.length_map, maxLen] at this
    omega
  have h0 : (!decide ((((xs.map enc).length : Nat) : Int) = (((xs.map enc).length : Nat) : Int))) = false := by simp
  unfold c98
  repeat (first
    | refine r_mv_p rfl ?_ | refine r_sem rfl rfl rfl rfl ?_ | refine r_nil ?_ | refine run_seq ?_ | refine run_reg ?_ | refine run_block ?_ | refine run_skip ?_ | refine fin_seq ?_
    | refine run_condF rfl ?_)
  refine run_weak (weak_S ?_ ?_) (run_inv (fun i : Nat => S [(0, .p (.sl (xs.map enc) s1)), (1, .p (.sl (xs.map enc) s2)), (4, .p (.v (.bool false))), (5, .p (.v (.int .i64 (i : Nat))))] [])
    (fun i => i ≤ xs.length) (fun i => xs.length - i) ?_ 0 (Nat.zero_le _))
  · exact ⟨rfl, rfl, rfl, rfl, trivial⟩
  · trivial
  intro i hi ih
  repeat (first
    | refine r_mv_p rfl ?_ | refine r_sem rfl rfl rfl rfl ?_ | refine r_nil ?_ | refine run_seq ?_ | refine run_reg ?_ | refine fin_seq ?_)
  refine run_cond rfl (fun h => ?_) (fun h => ?_)
  · have hlt : i < xs.length := by simpa using h
    have hx : (xs.map enc)[i]? = some (enc xs[i]) := by simp [hlt]
    have hel := hen xs[i] (List.getElem_mem hlt)
    have hce := hc xs[i] (List.getElem_mem hlt)
    repeat (first
      | refine r_eqs rfl rfl hce ?_ | refine r_mv_p rfl ?_ | refine r_addA rfl rfl ?_ | refine r_loadA rfl ?_ | refine r_nil ?_ | refine r_iadA rfl rfl ?_ | refine run_seq ?_
      | refine run_reg ?_ | refine run_regd rfl ?_ | refine run_block ?_ | refine run_skip ?_ | refine fin_seq ?_ | refine fin_blk ?_ | refine run_condF rfl ?_)
    refine fin_loop (run_weak (weak_S ?_ ?_) (ih (i + 1) hlt (by omega)))
    · exact ⟨rfl, rfl, rfl, rfl, trivial⟩
    · trivial
  · repeat (first
      | refine r_mv_p rfl ?_ | refine r_nil ?_ | refine run_seq ?_ | refine run_reg ?_ | refine run_exit ?_ | refine run_ret ?_ | refine fin_seq ?_ | refine fin_seq_e ?_
      | refine fin_blk_e ?_ | refine fin_loop_e ?_)
    exact fin_out rfl rfl
theorem same99 {α : Type} (enc : α → List PV) (xs : List α) (s1 s2 : List (List PV)) (hen : ∀ x ∈ xs, (enc x).length = 50) (hc : ∀ x ∈ xs, cellsEq [.s, .s, .s, .i .i64, .i .i64, .i .i64, .i .i64, .i .i64, .s, .i .i64, .i .i64, .i .i64, .i .i64, .i .i64, .s, .i .i64, .i .i64, .i .i64, .i .i64, .i .i64, .s, .i .i64, .i .i64, .i .i64, .i .i64, .i .i64, .s, .i .i64, .i .i64, .i .i64, .i .i64, .i .i64, .s, .i .i64, .i .i64, .i .i64, .i .i64, .i .i64, .s, .i .i64, .i .i64, .i .i64, .i .i64, .i .i64, .s, .i .i64, .i .i64, .i .i64, .i .i64, .i .i64] (enc x) (enc x) = some true) : Ret Try.prog 99 [.sl (xs.map enc) s1, .sl (xs.map enc) s2] (.v (.bool true)) := by
  refine ret99 rfl fun hbd => ?_
  have hb : xs.length ≤ 9223372036854775807 := by
    have := hbd _ (List.mem_cons_self)
    simp only [PV.bd, PV.bd1, List.length_append, List.length_map, maxLen] at this
    omega
  have h0 : (!decide ((((xs.map enc).length : Nat) : Int) = (((xs.map enc).length : Nat) : Int))) = false := by simp
  unfold c99
  repeat (first
    | refine r_mv_p rfl ?_ | refine r_sem rfl rfl rfl rfl ?_ | refine r_nil ?_ | refine run_seq ?_ | refine run_reg ?_ | refine run_block ?_ | refine run_skip ?_ | refine fin_seq ?_
    | refine run_condF rfl ?_)
  refine run_weak (weak_S ?_ ?_) (run_inv (fun i : Nat => S [(0, .p (.sl (xs.map enc) s1)), (1, .p (.sl (xs.map enc) s2)), (4, .p (.v (.bool false))), (5, .p (.v (.int .i64 (i : Nat))))] [])
    (fun i => i ≤ xs.length) (fun i => xs.length - i) ?_ 0 (Nat.zero_le _))
  · exact ⟨rfl, rfl, rfl, rfl, trivial⟩
  · trivial
  intro i hi ih
  repeat (first
    | refine r_mv_p rfl ?_ | refine r_sem rfl rfl rfl rfl ?_ | refine r_nil ?_ | refine run_seq ?_ | refine run_reg ?_ | refine fin_seq ?_)
  refine run_cond rfl (fun h => ?_) (fun h => ?_)
  · have hlt : i < xs.length := by simpa using h
    have hx : (xs.map enc)[i]? = some (enc xs[i]) := by simp [hlt]
    have hel := hen xs[i] (List.getElem_mem hlt)
    have hce := hc xs[i] (List.getElem_mem hlt)
    repeat (first
      | refine r_eqs rfl rfl hce ?_ | refine r_mv_p rfl ?_ | refine r_addA rfl rfl ?_ | refine r_loadA rfl ?_ | refine r_nil ?_ | refine r_iadA rfl rfl ?_ | refine run_seq ?_
      | refine run_reg ?_ | refine run_regd rfl ?_ | refine run_block ?_ | refine run_skip ?_ | refine fin_seq ?_ | refine fin_blk ?_ | refine run_condF rfl ?_)
    refine fin_loop (run_weak (weak_S ?_ ?_) (ih (i + 1) hlt (by omega)))
    · exact ⟨rfl, rfl, rfl, rfl, trivial⟩
    · trivial
  · repeat (first
      | refine r_mv_p rfl ?_ | refine r_nil ?_ | refine run_seq ?_ | refine run_reg ?_ | refine run_exit ?_ | refine run_ret ?_ | refine fin_seq ?_ | refine fin_seq_e ?_
      | refine fin_blk_e ?_ | refine fin_loop_e ?_)
    exact fin_out rfl rfl
theorem same100 {α : Type} (enc : α → List PV) (xs : List α) (s1 s2 : List (List PV)) (hen : ∀ x ∈ xs, (enc x).length = 8) (hc : ∀ x ∈ xs, cellsEq [.s, .i .i64, .s, .s, .s, .i .i64, .i .i64, .i .i64] (enc x) (enc x) = some true) : Ret Try.prog 100 [.sl (xs.map enc) s1, .sl (xs.map enc) s2] (.v (.bool true)) := by
  refine ret100 rfl fun hbd => ?_
  have hb : xs.length ≤ 9223372036854775807 := by
    have := hbd _ (List.mem_cons_self)
    simp only [PV.bd, PV.bd1, List.length_append, List.length_map, maxLen] at this
    omega
  have h0 : (!decide ((((xs.map enc).length : Nat) : Int) = (((xs.map enc).length : Nat) : Int))) = false := by simp
  unfold c100
  repeat (first
    | refine r_mv_p rfl ?_ | refine r_sem rfl rfl rfl rfl ?_ | refine r_nil ?_ | refine run_seq ?_ | refine run_reg ?_ | refine run_block ?_ | refine run_skip ?_ | refine fin_seq ?_
    | refine run_condF rfl ?_)
  refine run_weak (weak_S ?_ ?_) (run_inv (fun i : Nat => S [(0, .p (.sl (xs.map enc) s1)), (1, .p (.sl (xs.map enc) s2)), (4, .p (.v (.bool false))), (5, .p (.v (.int .i64 (i : Nat))))] [])
    (fun i => i ≤ xs.length) (fun i => xs.length - i) ?_ 0 (Nat.zero_le _))
  · exact ⟨rfl, rfl, rfl, rfl, trivial⟩
  · trivial
  intro i hi ih
  repeat (first
    | refine r_mv_p rfl ?_ | refine r_sem rfl rfl rfl rfl ?_ | refine r_nil ?_ | refine run_seq ?_ | refine run_reg ?_ | refine fin_seq ?_)
  refine run_cond rfl (fun h => ?_) (fun h => ?_)
  · have hlt : i < xs.length := by simpa using h
    have hx : (xs.map enc)[i]? = some (enc xs[i]) := by simp [hlt]
    have hel := hen xs[i] (List.getElem_mem hlt)
    have hce := hc xs[i] (List.getElem_mem hlt)
    repeat (first
      | refine r_eqs rfl rfl hce ?_ | refine r_mv_p rfl ?_ | refine r_addA rfl rfl ?_ | refine r_loadA rfl ?_ | refine r_nil ?_ | refine r_iadA rfl rfl ?_ | refine run_seq ?_
      | refine run_reg ?_ | refine run_regd rfl ?_ | refine run_block ?_ | refine run_skip ?_ | refine fin_seq ?_ | refine fin_blk ?_ | refine run_condF rfl ?_)
    refine fin_loop (run_weak (weak_S ?_ ?_) (ih (i + 1) hlt (by omega)))
    · exact ⟨rfl, rfl, rfl, rfl, trivial⟩
    · trivial
  · repeat (first
      | refine r_mv_p rfl ?_ | refine r_nil ?_ | refine run_seq ?_ | refine run_reg ?_ | refine run_exit ?_ | refine run_ret ?_ | refine fin_seq ?_ | refine fin_seq_e ?_
      | refine fin_blk_e ?_ | refine fin_loop_e ?_)
    exact fin_out rfl rfl
theorem same101 {α : Type} (enc : α → List PV) (xs : List α) (s1 s2 : List (List PV)) (hen : ∀ x ∈ xs, (enc x).length = 11) (hc : ∀ x ∈ xs, cellsEq [.i .i64, .i .i64, .s, .i .i64, .s, .s, .s, .i .i64, .s, .i .i64, .s] (enc x) (enc x) = some true) : Ret Try.prog 101 [.sl (xs.map enc) s1, .sl (xs.map enc) s2] (.v (.bool true)) := by
  refine ret101 rfl fun hbd => ?_
  have hb : xs.length ≤ 9223372036854775807 := by
    have := hbd _ (List.mem_cons_self)
    simp only [PV.bd, PV.bd1, List.length_append, List.length_map, maxLen] at this
    omega
  have h0 : (!decide ((((xs.map enc).length : Nat) : Int) = (((xs.map enc).length : Nat) : Int))) = false := by simp
  unfold c101
  repeat (first
    | refine r_mv_p rfl ?_ | refine r_sem rfl rfl rfl rfl ?_ | refine r_nil ?_ | refine run_seq ?_ | refine run_reg ?_ | refine run_block ?_ | refine run_skip ?_ | refine fin_seq ?_
    | refine run_condF rfl ?_)
  refine run_weak (weak_S ?_ ?_) (run_inv (fun i : Nat => S [(0, .p (.sl (xs.map enc) s1)), (1, .p (.sl (xs.map enc) s2)), (4, .p (.v (.bool false))), (5, .p (.v (.int .i64 (i : Nat))))] [])
    (fun i => i ≤ xs.length) (fun i => xs.length - i) ?_ 0 (Nat.zero_le _))
  · exact ⟨rfl, rfl, rfl, rfl, trivial⟩
  · trivial
  intro i hi ih
  repeat (first
    | refine r_mv_p rfl ?_ | refine r_sem rfl rfl rfl rfl ?_ | refine r_nil ?_ | refine run_seq ?_ | refine run_reg ?_ | refine fin_seq ?_)
  refine run_cond rfl (fun h => ?_) (fun h => ?_)
  · have hlt : i < xs.length := by simpa using h
    have hx : (xs.map enc)[i]? = some (enc xs[i]) := by simp [hlt]
    have hel := hen xs[i] (List.getElem_mem hlt)
    have hce := hc xs[i] (List.getElem_mem hlt)
    repeat (first
      | refine r_eqs rfl rfl hce ?_ | refine r_mv_p rfl ?_ | refine r_addA rfl rfl ?_ | refine r_loadA rfl ?_ | refine r_nil ?_ | refine r_iadA rfl rfl ?_ | refine run_seq ?_
      | refine run_reg ?_ | refine run_regd rfl ?_ | refine run_block ?_ | refine run_skip ?_ | refine fin_seq ?_ | refine fin_blk ?_ | refine run_condF rfl ?_)
    refine fin_loop (run_weak (weak_S ?_ ?_) (ih (i + 1) hlt (by omega)))
    · exact ⟨rfl, rfl, rfl, rfl, trivial⟩
    · trivial
  · repeat (first
      | refine r_mv_p rfl ?_ | refine r_nil ?_ | refine run_seq ?_ | refine run_reg ?_ | refine run_exit ?_ | refine run_ret ?_ | refine fin_seq ?_ | refine fin_seq_e ?_
      | refine fin_blk_e ?_ | refine fin_loop_e ?_)
    exact fin_out rfl rfl
theorem same102 {α : Type} (enc : α → List PV) (xs : List α) (s1 s2 : List (List PV)) (hen : ∀ x ∈ xs, (enc x).length = 2) (hc : ∀ x ∈ xs, cellsEq [.s, .s] (enc x) (enc x) = some true) : Ret Try.prog 102 [.sl (xs.map enc) s1, .sl (xs.map enc) s2] (.v (.bool true)) := by
  refine ret102 rfl fun hbd => ?_
  have hb : xs.length ≤ 9223372036854775807 := by
    have := hbd _ (List.mem_cons_self)
    simp only [PV.bd, PV.bd1, List.length_append, List.length_map, maxLen] at this
    omega
  have h0 : (!decide ((((xs.map enc).length : Nat) : Int) = (((xs.map enc).length : Nat) : Int))) = false := by simp
  unfold c102
  repeat (first
    | refine r_mv_p rfl ?_ | refine r_sem rfl rfl rfl rfl ?_ | refine r_nil ?_ | refine run_seq ?_ | refine run_reg ?_ | refine run_block ?_ | refine run_skip ?_ | refine fin_seq ?_
    | refine run_condF rfl ?_)
  refine run_weak (weak_S ?_ ?_) (run_inv (fun i : Nat => S [(0, .p (.sl (xs.map enc) s1)), (1, .p (.sl (xs.map enc) s2)), (4, .p (.v (.bool false))), (5, .p (.v (.int .i64 (i : Nat))))] [])
    (fun i => i ≤ xs.length) (fun i => xs.length - i) ?_ 0 (Nat.zero_le _))
  · exact ⟨rfl, rfl, rfl, rfl, trivial⟩
  · trivial
  intro i hi ih
  repeat (first
    | refine r_mv_p rfl ?_ | refine r_sem rfl rfl rfl rfl ?_ | refine r_nil ?_ | refine run_seq ?_ | refine run_reg ?_ | refine fin_seq ?_)
  refine run_cond rfl (fun h => ?_) (fun h => ?_)
  · have hlt : i < xs.length := by simpa using h
    have hx : (xs.map enc)[i]? = some (enc xs[i]) := by simp [hlt]
    have hel := hen xs[i] (List.getElem_mem hlt)
    have hce := hc xs[i] (List.getElem_mem hlt)
    repeat (first
      | refine r_eqs rfl rfl hce ?_ | refine r_mv_p rfl ?_ | refine r_addA rfl rfl ?_ | refine r_loadA rfl ?_ | refine r_nil ?_ | refine r_iadA rfl rfl ?_ | refine run_seq ?_
      | refine run_reg ?_ | refine run_regd rfl ?_ | refine run_block ?_ | refine run_skip ?_ | refine fin_seq ?_ | refine fin_blk ?_ | refine run_condF rfl ?_)
    refine fin_loop (run_weak (weak_S ?_ ?_) (ih (i + 1) hlt (by omega)))
    · exact ⟨rfl, rfl, rfl, rfl, trivial⟩
    · trivial
  · repeat (first
      | refine r_mv_p rfl ?_ | refine r_nil ?_ | refine run_seq ?_ | refine run_reg ?_ | refine run_exit ?_ | refine run_ret ?_ | refine fin_seq ?_ | refine fin_seq_e ?_
      | refine fin_blk_e ?_ | refine fin_loop_e ?_)
    exact fin_out rfl rfl
theorem same103 {α : Type} (enc : α → List PV) (xs : List α) (s1 s2 : List (List PV)) (hen : ∀ x ∈ xs, (enc x).length = 5) (hc : ∀ x ∈ xs, cellsEq [.s, .s, .s, .i .i64, .i .i64] (enc x) (enc x) = some true) : Ret Try.prog 103 [.sl (xs.map enc) s1, .sl (xs.map enc) s2] (.v (.bool true)) := by
  refine ret103 rfl fun hbd => ?_
  have hb : xs.length ≤ 9223372036854775807 := by
    have := hbd _ (List.mem_cons_self)
    simp only [PV.bd, PV.bd1, List.length_append, List.length_map, maxLen] at this
    omega
  have h0 : (!decide ((((xs.map enc).length : Nat) : Int) = (((xs.map enc).length : Nat) : Int))) = false := by simp
  unfold c103
  repeat (first
    | refine r_mv_p rfl ?_ | refine r_sem rfl rfl rfl rfl ?_ | refine r_nil ?_ | refine run_seq ?_ | refine run_reg ?_ | refine run_block ?_ | refine run_skip ?_ | refine fin_seq ?_
    | refine run_condF rfl ?_)
  refine run_weak (weak_S ?_ ?_) (run_inv (fun i : Nat => S [(0, .p (.sl (xs.map enc) s1)), (1, .p (.sl (xs.map enc) s2)), (4, .p (.v (.bool false))), (5, .p (.v (.int .i64 (i : Nat))))] [])
    (fun i => i ≤ xs.length) (fun i => xs.length - i) ?_ 0 (Nat.zero_le _))
  · exact ⟨rfl, rfl, rfl, rfl, trivial⟩
  · trivial
  intro i hi ih
  repeat (first
    | refine r_mv_p rfl ?_ | refine r_sem rfl rfl rfl rfl ?_ | refine r_nil ?_ | refine run_seq ?_ | refine run_reg ?_ | refine fin_seq ?_)
  refine run_cond rfl (fun h => ?_) (fun h => ?_)
  · have hlt : i < xs.length := by simpa using h
    have hx : (xs.map enc)[i]? = some (enc xs[i]) := by simp [hlt]
    have hel := hen xs[i] (List.getElem_mem hlt)
    have hce := hc xs[i] (List.getElem_mem hlt)
    repeat (first
      | refine r_eqs rfl rfl hce ?_ | refine r_mv_p rfl ?_ | refine r_addA rfl rfl ?_ | refine r_loadA rfl ?_ | refine r_nil ?_ | refine r_iadA rfl rfl ?_ | refine run_seq ?_
      | refine run_reg ?_ | refine run_regd rfl ?_ | refine run_block ?_ | refine run_skip ?_ | refine fin_seq ?_ | refine fin_blk ?_ | refine run_condF rfl ?_)
    refine fin_loop (run_weak (weak_S ?_ ?_) (ih (i + 1) hlt (by omega)))
    · exact ⟨rfl, rfl, rfl, rfl, trivial⟩
    · trivial
  · repeat (first
      | refine r_mv_p rfl ?_ | refine r_nil ?_ | refine run_seq ?_ | refine run_reg ?_ | refine run_exit ?_ | refine run_ret ?_ | refine fin_seq ?_ | refine fin_seq_e ?_
      | refine fin_blk_e ?_ | refine fin_loop_e ?_)
    exact fin_out rfl rfl
theorem same104 {α : Type} (enc : α → List PV) (xs : List α) (s1 s2 : List (List PV)) (hen : ∀ x ∈ xs, (enc x).length = 5) (hc : ∀ x ∈ xs, cellsEq [.s, .s, .s, .i .i64, .i .i64] (enc x) (enc x) = some true) : Ret Try.prog 104 [.sl (xs.map enc) s1, .sl (xs.map enc) s2] (.v (.bool true)) := by
  refine ret104 rfl fun hbd => ?_
  have hb : xs.length ≤ 9223372036854775807 := by
    have := hbd _ (List.mem_cons_self)
    simp only [PV.bd, PV.bd1, List.length_append, List.length_map, maxLen] at this
    omega
  have h0 : (!decide ((((xs.map enc).length : Nat) : Int) = (((xs.map enc).length : Nat) : Int))) = false := by simp
  unfold c104
  repeat (first
    | refine r_mv_p rfl ?_ | refine r_sem rfl rfl rfl rfl ?_ | refine r_nil ?_ | refine run_seq ?_ | refine run_reg ?_ | refine run_block ?_ | refine run_skip ?_ | refine fin_seq ?_
    | refine run_condF rfl ?_)
  refine run_weak (weak_S ?_ ?_) (run_inv (fun i : Nat => S [(0, .p (.sl (xs.map enc) s1)), (1, .p (.sl (xs.map enc) s2)), (4, .p (.v (.bool false))), (5, .p (.v (.int .i64 (i : Nat))))] [])
    (fun i => i ≤ xs.length) (fun i => xs.length - i) ?_ 0 (Nat.zero_le _))
  · exact ⟨rfl, rfl, rfl, rfl, trivial⟩
  · trivial
  intro i hi ih
  repeat (first
    | refine r_mv_p rfl ?_ | refine r_sem rfl rfl rfl rfl ?_ | refine r_nil ?_ | refine run_seq ?_ | refine run_reg ?_ | refine fin_seq ?_)
  refine run_cond rfl (fun h => ?_) (fun h => ?_)
  · have hlt : i < xs.length := by simpa using h
    have hx : (xs.map enc)[i]? = some (enc xs[i]) := by simp [hlt]
    have hel := hen xs[i] (List.getElem_mem hlt)
    have hce := hc xs[i] (List.getElem_mem hlt)
    repeat (first
      | refine r_eqs rfl rfl hce ?_ | refine r_mv_p rfl ?_ | refine r_addA rfl rfl ?_ | refine r_loadA rfl ?_ | refine r_nil ?_ | refine r_iadA rfl rfl ?_ | refine run_seq ?_
      | refine run_reg ?_ | refine run_regd rfl ?_ | refine run_block ?_ | refine run_skip ?_ | refine fin_seq ?_ | refine fin_blk ?_ | refine run_condF rfl ?_)
    refine fin_loop (run_weak (weak_S ?_ ?_) (ih (i + 1) hlt (by omega)))
    · exact ⟨rfl, rfl, rfl, rfl, trivial⟩
    · trivial
  · repeat (first
      | refine r_mv_p rfl ?_ | refine r_nil ?_ | refine run_seq ?_ | refine run_reg ?_ | refine run_exit ?_ | refine run_ret ?_ | refine fin_seq ?_ | refine fin_seq_e ?_
      | refine fin_blk_e ?_ | refine fin_loop_e ?_)
    exact fin_out rfl rfl
theorem same105 {α : Type} (enc : α → List PV) (xs : List α) (s1 s2 : List (List PV)) (hen : ∀ x ∈ xs, (enc x).length = 6) (hc : ∀ x ∈ xs, cellsEq [.s, .s, .i .i64, .i .i64, .i .i64, .i .i64] (enc x) (enc x) = some true) : Ret Try.prog 105 [.sl (xs.map enc) s1, .sl (xs.map enc) s2] (.v (.bool true)) := by
  refine ret105 rfl fun hbd => ?_
  have hb : xs.length ≤ 9223372036854775807 := by
    have := hbd _ (List.mem_cons_self)
    simp only [PV.bd, PV.bd1, List.length_append, List.length_map, maxLen] at this
    omega
  have h0 : (!decide ((((xs.map enc).length : Nat) : Int) = (((xs.map enc).length : Nat) : Int))) = false := by simp
  unfold c105
  repeat (first
    | refine r_mv_p rfl ?_ | refine r_sem rfl rfl rfl rfl ?_ | refine r_nil ?_ | refine run_seq ?_ | refine run_reg ?_ | refine run_block ?_ | refine run_skip ?_ | refine fin_seq ?_
    | refine run_condF rfl ?_)
  refine run_weak (weak_S ?_ ?_) (run_inv (fun i : Nat => S [(0, .p (.sl (xs.map enc) s1)), (1, .p (.sl (xs.map enc) s2)), (4, .p (.v (.bool false))), (5, .p (.v (.int .i64 (i : Nat))))] [])
    (fun i => i ≤ xs.length) (fun i => xs.length - i) ?_ 0 (Nat.zero_le _))
  · exact ⟨rfl, rfl, rfl, rfl, trivial⟩
  · trivial
  intro i hi ih
  repeat (first
    | refine r_mv_p rfl ?_ | refine r_sem rfl rfl rfl rfl ?_ | refine r_nil ?_ | refine run_seq ?_ | refine run_reg ?_ | refine fin_seq ?_)
  refine run_cond rfl (fun h => ?_) (fun h => ?_)
  · have hlt : i < xs.length := by simpa using h
    have hx : (xs.map enc)[i]? = some (enc xs[i]) := by simp [hlt]
    have hel := hen xs[i] (List.getElem_mem hlt)
    have hce := hc xs[i] (List.getElem_mem hlt)
    repeat (first
      | refine r_eqs rfl rfl hce ?_ | refine r_mv_p rfl ?_ | refine r_addA rfl rfl ?_ | refine r_loadA rfl ?_ | refine r_nil ?_ | refine r_iadA rfl rfl ?_ | refine run_seq ?_
      | refine run_reg ?_ | refine run_regd rfl ?_ | refine run_block ?_ | refine run_skip ?_ | refine fin_seq ?_ | refine fin_blk ?_ | refine run_condF rfl ?_)
    refine fin_loop (run_weak (weak_S ?_ ?_) (ih (i + 1) hlt (by omega)))
    · exact ⟨rfl, rfl, rfl, rfl, trivial⟩
    · trivial
  · repeat (first
      | refine r_mv_p rfl ?_ | refine r_nil ?_ | refine run_seq ?_ | refine run_reg ?_ | refine run_exit ?_ | refine run_ret ?_ | refine fin_seq ?_ | refine fin_seq_e ?_
      | refine fin_blk_e ?_ | refine fin_loop_e ?_)
    exact fin_out rfl rfl

end Go.Fw
