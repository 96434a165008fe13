/-
  Units: an item's units; sorting them: slices.SortStableFunc, for fewer than twenty.
-/
import Derived.Test.YtbclfhjjkekglaaIrA
import Derived.Test.YtbclfhjjkekglaaFwV
import Derived.Test.YtbclfhjjkekglaaFwW
set_option linter.unusedVariables false
set_option linter.unusedSimpArgs false
set_option maxRecDepth 10000
namespace Go.Fw
open Go.Proofs

abbrev Str := ByteArray
structure U where
  name : Str
  f : Int
def U.enc (x : U) : List PV := [.v (.string x.name), .v (.int .i64 x.f)]

/-- A row may be told as frozen within. -/
theorem weak_fz {l : List (Nat × T)} {m : List (Nat × Option Own)} {d ty es : Nat} {xs : List (List PV)} : Weak (S l ((d, some (.row ty es xs false)) :: m)) (S l ((d, some (.row ty es xs true)) :: m)) := by
  rintro B w0 F0 nt a w ⟨F, mp, hi⟩
  refine ⟨F, mp, hi.defers, hi.size, hi.below, hi.base, hi.on, hi.fin, hi.tmps, fun n x hx => ?_, fun n n' b hn hn' => ?_, fun n b hn => ?_, hi.mfix, hi.ntle⟩
  · simp only [S, ol] at hx
    split at hx
    · rename_i e; subst e; cases hx
      have := hi.own n (.row ty es xs false) (by simp [S, ol])
      obtain ⟨g1, ys, g2, g3, g4, g5, g6⟩ := this
      exact ⟨g1, ys, g2, g3, g4, g5, fun b hb => ⟨(g6 b hb).1, fun e => by cases e⟩⟩
    · rename_i e
      exact hi.own n x (by simpa [S, ol, e] using hx)
  · refine hi.inj n n' b ?_ ?_
    · by_cases e : n = d
      · subst e; simp [S, ol]
      · simpa [S, ol, e] using hn
    · by_cases e : n' = d
      · subst e; simp [S, ol]
      · simpa [S, ol, e] using hn'
  · refine hi.ownL n b ?_
    by_cases e : n = d
    · subst e; simp [S, ol]
    · simpa [S, ol, e] using hn
/-- A call that is handed a row of the caller's own to read: it is frozen. -/
theorem r_callR {P : Program} {Q : Ex → St → Prop} {ks : List Kf} {rs : List RG} {l : List (Nat × T)} {m : List (Nat × Option Own)} {d f n len ty es : Nat} {x : Opd} {a : List Opd} {xs : List (List PV)} {fz : Bool} {bs : List RA} {ps : List PV} {fs : List Nat} {r : PV} (hx : (S l m).ev x = .row n len) (ho : ol m n = some (.row ty es xs fz)) (hlen : len = xs.length)
    (ha : (S l m).resL a = some bs) (hp : pvs bs = some ps) (hfs : n :: frzs bs = fs) (hr : Ret P f (.sl xs [] :: ps) r) (h : RunR P Q ks rs (S ((d, .p r) :: l) (frzL fs m))) : RunR P Q ks (⟨some d, .call f, x :: a, none⟩ :: rs) (S l m) := by
  have h1 : (S l m).resL (x :: a) = some (.row n len es xs :: bs) := by
    simp only [St.resL, St.res, hx, lookT]
    rw [ho]
    simp only [hlen, Nat.le_refl, if_true, ha]
    rfl
  have h2 : pvs (.row n len es xs :: bs) = some (.sl xs [] :: ps) := by
    simp only [pvs, RA.pv, hp, hlen, List.take_length, List.drop_length]; rfl
  exact r_callF h1 h2 (show frzs (.row n len es xs :: bs) = fs by rw [← hfs]; rfl) hr h

/-! ### Sorting -/
section
variable {α : Type} (lt : α → α → Bool)
/-- Where x comes to stand in p, from place j on to the left. -/
def insJ (x : α) (p : List α) : Nat → Nat
  | 0 => 0
  | j + 1 => match p[j]? with
    | some y => if lt x y = true then insJ x p j else j + 1
    | none => j + 1
def insL (p : List α) (x : α) : List α := p.take (insJ lt x p p.length) ++ x :: p.drop (insJ lt x p p.length)
def isort (xs : List α) : List α := xs.foldl (insL lt) []
theorem insJ_le (x : α) (p : List α) : ∀ j, insJ lt x p j ≤ j
  | 0 => Nat.le_refl _
  | j + 1 => by
    simp only [insJ]
    split
    · split
      · exact Nat.le_trans (insJ_le x p j) (Nat.le_succ _)
      · exact Nat.le_refl _
    · exact Nat.le_refl _
theorem insL_length (p : List α) (x : α) : (insL lt p x).length = p.length + 1 := by
  have := insJ_le lt x p p.length
  simp [insL]; omega
theorem isort_succ (xs : List α) (i : Nat) (hi : i < xs.length) : isort lt (xs.take (i + 1)) = insL lt (isort lt (xs.take i)) xs[i] := by
  rw [show xs.take (i + 1) = xs.take i ++ [xs[i]] by simp, isort, List.foldl_append]; rfl
theorem isort_length : ∀ (xs : List α) (i : Nat), i ≤ xs.length → (isort lt (xs.take i)).length = i
  | xs, 0, _ => by simp [isort]
  | xs, i + 1, h => by rw [isort_succ lt xs i h, insL_length, isort_length xs i (by omega)]
theorem insL_perm (p : List α) (x : α) : (insL lt p x).Perm (x :: p) := by
  unfold insL
  have := List.perm_middle (a := x) (l₁ := p.take (insJ lt x p p.length)) (l₂ := p.drop (insJ lt x p p.length))
  rwa [List.take_append_drop] at this
theorem isort_perm (xs : List α) : (isort lt xs).Perm xs := by
  have key : ∀ (xs p : List α), (xs.foldl (insL lt) p).Perm (p ++ xs) := by
    intro xs
    induction xs with
    | nil => intro p; simp
    | cons x xs ih =>
      intro p
      refine (ih (insL lt p x)).trans ?_
      refine ((insL_perm lt p x).append_right xs).trans ?_
      exact List.perm_middle.symm
  simpa [isort] using key xs []
end

theorem set2 {α : Type} : ∀ (a : List α) (y x : α) (d : List α), ((a ++ y :: x :: d).set (a.length + 1) y).set a.length x = a ++ x :: y :: d
  | [], _, _, _ => rfl
  | c :: a, y, x, d => by
    have := set2 a y x d
    show c :: ((a ++ y :: x :: d).set (a.length + 1) y).set a.length x = _
    rw [this]; rfl
set_option maxHeartbeats 2000000 in
theorem sort24 (cf : U → U → Int) (g : FuncId) (xs : List U) (hne : xs ≠ []) (hb : xs.length ≤ 1000) (hg : ∀ a ∈ xs, ∀ b ∈ xs, Ret Try.prog g [.agg a.enc, .agg b.enc] (.v (.int .i64 (cf a b)))) :
    RetU Try.prog 24 23 2 (xs.map U.enc) [.v (.int .i64 0), .v (.int .i64 (xs.length : Nat)), .clo g []] ((isort (fun a b => decide (cf a b < 0)) xs).map U.enc) := by
  have hil : (isort (fun a b => decide (cf a b < 0)) xs).length = xs.length := by
    have := isort_length (fun a b => decide (cf a b < 0)) xs xs.length (Nat.le_refl _)
    rwa [List.take_length] at this
  refine lent24 rfl (by simp [hil]) (by simpa using hne) ?_ ?_
  · intro p hp
    simp only [List.mem_flatten, List.mem_map] at hp
    obtain ⟨_, ⟨u, _, rfl⟩, hp⟩ := hp
    simp only [U.enc, List.mem_cons, List.not_mem_nil, or_false] at hp
    rcases hp with rfl | rfl <;> exact ⟨_, rfl⟩
  rw [List.length_map]
  unfold c24
  repeat (first
    | refine r_mv_p rfl ?_
    | refine r_do rfl (by first | with_reducible rfl | assumption | decide) ?_
    | refine r_skip rfl (by first | with_reducible rfl | assumption | decide) ?_
    | refine r_skipU rfl ?_
    | refine r_fad rfl rfl ?_
    | refine r_add rfl rfl (by omega) ?_
    | refine r_sub rfl rfl (by omega) ?_
    | refine r_loadAll rfl (by first | rfl | assumption) ?_
    | refine r_loadAllB rfl rfl (by first | rfl | assumption) ?_
    | refine r_pick_t rfl (by first | with_reducible rfl | assumption | decide) rfl rfl ?_
    | refine r_pick_f rfl (by first | with_reducible rfl | assumption | decide) rfl rfl ?_
    | refine r_sem rfl rfl rfl rfl ?_
    | refine r_nil ?_
    | refine r_iad rfl rfl (by omega) (by assumption) (by first | rfl | assumption | omega | (simp; done) | (simp; omega)) ?_
    | refine r_storeAll rfl rfl rfl rfl rfl rfl ?_
    | refine r_store rfl rfl rfl rfl (by decide) ?_
    | refine r_alloc rfl ?_
    | refine r_box rfl rfl rfl ?_
    | refine r_bsl rfl rfl rfl rfl rfl rfl ?_
    | refine r_bsl1 rfl (by assumption) rfl ?_
    | refine r_mkmap rfl ?_
    | refine r_mv_nil rfl ?_
    | refine r_mv_own rfl rfl ?_
    | refine r_mv_mp rfl rfl ?_
    | refine r_mv_row rfl rfl (by first | rfl | assumption | omega | (simp; done) | (simp; omega)) ?_
    | refine r_mv_rp rfl rfl (by first | rfl | assumption | omega | (simp; done) | (simp; omega)) ?_
    | refine r_fad_rp rfl rfl (by first | rfl | assumption | omega | (simp; done) | (simp; omega)) ?_
    | refine r_iad_row rfl rfl (by first | rfl | assumption | omega | (simp; done) | (simp; omega)) rfl (by first | rfl | assumption | omega | (simp; done) | (simp; omega)) ?_
    | refine r_skip0 rfl (by first | with_reducible rfl | assumption | decide) ?_
    | refine r_skipU0 rfl ?_
    | refine r_semF rfl rfl rfl rfl ?_
    | refine r_load_rp rfl rfl (by assumption) rfl ?_
    | refine r_len_row rfl rfl (by first | rfl | assumption | omega | (simp; done) | (simp; omega)) ?_
    | refine run_seq ?_
    | refine run_reg ?_
    | refine run_regd rfl ?_
    | refine run_block ?_
    | refine run_skip ?_
    | refine run_exit ?_
    | refine run_ret ?_
    | refine fin_seq ?_
    | refine fin_seq_e ?_
    | refine fin_seq_r ?_
    | refine fin_blk ?_
    | refine fin_blk_e ?_
    | refine fin_blk_x rfl ?_
    | refine fin_blk_r ?_
    | refine fin_loop_e ?_
    | refine fin_loop_r ?_
    | refine run_cond_t rfl (by first | with_reducible rfl | assumption | decide) ?_
    | refine run_cond_f rfl (by first | with_reducible rfl | assumption | decide) ?_)
  refine run_weak (weak_S ?_ ?_) (run_inv (fun i : Nat => S [(0, .row LN xs.length), (1, .p (.v (.int .i64 0))), (2, .p (.v (.int .i64 (xs.length : Nat)))), (3, .p (.clo g [])), (8, .p (.v (.int .i64 (i : Nat))))] [(LN, some (.row 23 2 ((isort (fun a b => decide (cf a b < 0)) (xs.take i) ++ xs.drop i).map U.enc) false))])
    (fun i => 1 ≤ i ∧ i ≤ xs.length) (fun i => xs.length - i) ?_ 1 ⟨Nat.le_refl _, List.length_pos_iff.2 hne⟩)
  · exact ⟨rfl, rfl, rfl, rfl, rfl, trivial⟩
  · have h0 : 0 < xs.length := List.length_pos_iff.2 hne
    have : isort (fun a b => decide (cf a b < 0)) (xs.take 1) ++ xs.drop 1 = xs := by
      rw [isort_succ _ xs 0 h0]
      simp only [isort, List.take_zero, List.foldl_nil, insL, List.length_nil, insJ, List.drop_nil, List.nil_append, List.singleton_append]
      exact (List.drop_eq_getElem_cons h0).symm.trans (by simp)
    rw [this]; exact ⟨rfl, trivial⟩
  rintro i ⟨hi1, hi⟩ ih
  repeat (first
    | refine r_mv_p rfl ?_
    | refine r_do rfl (by first | with_reducible rfl | assumption | decide) ?_
    | refine r_skip rfl (by first | with_reducible rfl | assumption | decide) ?_
    | refine r_skipU rfl ?_
    | refine r_fad rfl rfl ?_
    | refine r_add rfl rfl (by omega) ?_
    | refine r_sub rfl rfl (by omega) ?_
    | refine r_loadAll rfl (by first | rfl | assumption) ?_
    | refine r_loadAllB rfl rfl (by first | rfl | assumption) ?_
    | refine r_pick_t rfl (by first | with_reducible rfl | assumption | decide) rfl rfl ?_
    | refine r_pick_f rfl (by first | with_reducible rfl | assumption | decide) rfl rfl ?_
    | refine r_sem rfl rfl rfl rfl ?_
    | refine r_nil ?_
    | refine r_iad rfl rfl (by omega) (by assumption) (by first | rfl | assumption | omega | (simp; done) | (simp; omega)) ?_
    | refine r_storeAll rfl rfl rfl rfl rfl rfl ?_
    | refine r_store rfl rfl rfl rfl (by decide) ?_
    | refine r_alloc rfl ?_
    | refine r_box rfl rfl rfl ?_
    | refine r_bsl rfl rfl rfl rfl rfl rfl ?_
    | refine r_bsl1 rfl (by assumption) rfl ?_
    | refine r_mkmap rfl ?_
    | refine r_mv_nil rfl ?_
    | refine r_mv_own rfl rfl ?_
    | refine r_mv_mp rfl rfl ?_
    | refine r_mv_row rfl rfl (by first | rfl | assumption | omega | (simp; done) | (simp; omega)) ?_
    | refine r_mv_rp rfl rfl (by first | rfl | assumption | omega | (simp; done) | (simp; omega)) ?_
    | refine r_fad_rp rfl rfl (by first | rfl | assumption | omega | (simp; done) | (simp; omega)) ?_
    | refine r_iad_row rfl rfl (by first | rfl | assumption | omega | (simp; done) | (simp; omega)) rfl (by first | rfl | assumption | omega | (simp; done) | (simp; omega)) ?_
    | refine r_skip0 rfl (by first | with_reducible rfl | assumption | decide) ?_
    | refine r_skipU0 rfl ?_
    | refine r_semF rfl rfl rfl rfl ?_
    | refine r_load_rp rfl rfl (by assumption) rfl ?_
    | refine r_len_row rfl rfl (by first | rfl | assumption | omega | (simp; done) | (simp; omega)) ?_
    | refine run_seq ?_
    | refine run_reg ?_
    | refine run_regd rfl ?_
    | refine run_block ?_
    | refine run_skip ?_
    | refine run_exit ?_
    | refine run_ret ?_
    | refine fin_seq ?_
    | refine fin_seq_e ?_
    | refine fin_seq_r ?_
    | refine fin_blk ?_
    | refine fin_blk_e ?_
    | refine fin_blk_x rfl ?_
    | refine fin_blk_r ?_
    | refine fin_loop_e ?_
    | refine fin_loop_r ?_
    | refine run_cond_t rfl (by first | with_reducible rfl | assumption | decide) ?_
    | refine run_cond_f rfl (by first | with_reducible rfl | assumption | decide) ?_)
  refine run_cond rfl (fun h => ?_) (fun h => ?_)
  · have hlt : i < xs.length := by simpa using h
    obtain ⟨p, hp⟩ : ∃ p, p = isort (fun a b => decide (cf a b < 0)) (xs.take i) := ⟨_, rfl⟩
    have hpl : p.length = i := by rw [hp]; exact isort_length _ xs i hi
    have hpm : ∀ y ∈ p, y ∈ xs := fun y hy => by rw [hp] at hy; exact List.mem_of_mem_take ((isort_perm _ _).mem_iff.1 hy)
    rw [← hp]
    repeat (first
      | refine r_mv_p rfl ?_
      | refine r_do rfl (by first | with_reducible rfl | assumption | decide) ?_
      | refine r_skip rfl (by first | with_reducible rfl | assumption | decide) ?_
      | refine r_skipU rfl ?_
      | refine r_fad rfl rfl ?_
      | refine r_add rfl rfl (by omega) ?_
      | refine r_sub rfl rfl (by omega) ?_
      | refine r_loadAll rfl (by first | rfl | assumption) ?_
      | refine r_loadAllB rfl rfl (by first | rfl | assumption) ?_
      | refine r_pick_t rfl (by first | with_reducible rfl | assumption | decide) rfl rfl ?_
      | refine r_pick_f rfl (by first | with_reducible rfl | assumption | decide) rfl rfl ?_
      | refine r_sem rfl rfl rfl rfl ?_
      | refine r_nil ?_
      | refine r_iad rfl rfl (by omega) (by assumption) (by first | rfl | assumption | omega | (simp; done) | (simp; omega)) ?_
      | refine r_storeAll rfl rfl rfl rfl rfl rfl ?_
      | refine r_store rfl rfl rfl rfl (by decide) ?_
      | refine r_alloc rfl ?_
      | refine r_box rfl rfl rfl ?_
      | refine r_bsl rfl rfl rfl rfl rfl rfl ?_
      | refine r_bsl1 rfl (by assumption) rfl ?_
      | refine r_mkmap rfl ?_
      | refine r_mv_nil rfl ?_
      | refine r_mv_own rfl rfl ?_
      | refine r_mv_mp rfl rfl ?_
      | refine r_mv_row rfl rfl (by first | rfl | assumption | omega | (simp; done) | (simp; omega)) ?_
      | refine r_mv_rp rfl rfl (by first | rfl | assumption | omega | (simp; done) | (simp; omega)) ?_
      | refine r_fad_rp rfl rfl (by first | rfl | assumption | omega | (simp; done) | (simp; omega)) ?_
      | refine r_iad_row rfl rfl (by first | rfl | assumption | omega | (simp; done) | (simp; omega)) rfl (by first | rfl | assumption | omega | (simp; done) | (simp; omega)) ?_
      | refine r_skip0 rfl (by first | with_reducible rfl | assumption | decide) ?_
      | refine r_skipU0 rfl ?_
      | refine r_semF rfl rfl rfl rfl ?_
      | refine r_load_rp rfl rfl (by assumption) rfl ?_
      | refine r_len_row rfl rfl (by first | rfl | assumption | omega | (simp; done) | (simp; omega)) ?_
      | refine run_seq ?_
      | refine run_reg ?_
      | refine run_regd rfl ?_
      | refine run_block ?_
      | refine run_skip ?_
      | refine run_exit ?_
      | refine run_ret ?_
      | refine fin_seq ?_
      | refine fin_seq_e ?_
      | refine fin_seq_r ?_
      | refine fin_blk ?_
      | refine fin_blk_e ?_
      | refine fin_blk_x rfl ?_
      | refine fin_blk_r ?_
      | refine fin_loop_e ?_
      | refine fin_loop_r ?_
      | refine run_cond_t rfl (by first | with_reducible rfl | assumption | decide) ?_
      | refine run_cond_f rfl (by first | with_reducible rfl | assumption | decide) ?_)
    refine run_weak (weak_S ?_ ?_) (run_inv (fun j : Nat => S [(0, .row LN xs.length), (1, .p (.v (.int .i64 0))), (2, .p (.v (.int .i64 (xs.length : Nat)))), (3, .p (.clo g [])), (8, .p (.v (.int .i64 (i : Nat)))), (9, .p (.v (.int .i64 (j : Nat))))] [(LN, some (.row 23 2 ((p.take j ++ xs[i] :: p.drop j ++ xs.drop (i + 1)).map U.enc) false))])
      (fun j => j ≤ i ∧ insJ (fun a b => decide (cf a b < 0)) xs[i] p j = insJ (fun a b => decide (cf a b < 0)) xs[i] p p.length) (fun j => j) ?_ i ⟨Nat.le_refl _, by rw [hpl]⟩)
    · exact ⟨rfl, rfl, rfl, rfl, rfl, rfl, trivial⟩
    · have e1 : p.take i = p := List.take_of_length_le (by omega)
      have e2 : p.drop i = [] := List.drop_eq_nil_of_le (by omega)
      have : p ++ xs.drop i = p.take i ++ xs[i] :: p.drop i ++ xs.drop (i + 1) := by
        rw [e1, e2, List.drop_eq_getElem_cons hlt]; simp
      rw [← this]; exact ⟨rfl, trivial⟩
    rintro j ⟨hj, hJ⟩ ihj
    -- out of the inner loop
    have hout : insJ (fun a b => decide (cf a b < 0)) xs[i] p j = j → (p.take j ++ xs[i] :: p.drop j ++ xs.drop (i + 1)) = isort (fun a b => decide (cf a b < 0)) (xs.take (i + 1)) ++ xs.drop (i + 1) := fun e => by
      rw [isort_succ _ xs i hlt, ← hp, insL, ← hJ, e]
    rcases Nat.eq_zero_or_pos j with h0 | hpos
    · subst h0
      rw [hout rfl]
      repeat (first
        | refine r_mv_p rfl ?_
        | refine r_do rfl (by first | with_reducible rfl | assumption | decide) ?_
        | refine r_skip rfl (by first | with_reducible rfl | assumption | decide) ?_
        | refine r_skipU rfl ?_
        | refine r_fad rfl rfl ?_
        | refine r_add rfl rfl (by omega) ?_
        | refine r_sub rfl rfl (by omega) ?_
        | refine r_loadAll rfl (by first | rfl | assumption) ?_
        | refine r_loadAllB rfl rfl (by first | rfl | assumption) ?_
        | refine r_pick_t rfl (by first | with_reducible rfl | assumption | decide) rfl rfl ?_
        | refine r_pick_f rfl (by first | with_reducible rfl | assumption | decide) rfl rfl ?_
        | refine r_sem rfl rfl rfl rfl ?_
        | refine r_nil ?_
        | refine r_iad rfl rfl (by omega) (by assumption) (by first | rfl | assumption | omega | (simp; done) | (simp; omega)) ?_
        | refine r_storeAll rfl rfl rfl rfl rfl rfl ?_
        | refine r_store rfl rfl rfl rfl (by decide) ?_
        | refine r_alloc rfl ?_
        | refine r_box rfl rfl rfl ?_
        | refine r_bsl rfl rfl rfl rfl rfl rfl ?_
        | refine r_bsl1 rfl (by assumption) rfl ?_
        | refine r_mkmap rfl ?_
        | refine r_mv_nil rfl ?_
        | refine r_mv_own rfl rfl ?_
        | refine r_mv_mp rfl rfl ?_
        | refine r_mv_row rfl rfl (by first | rfl | assumption | omega | (simp; done) | (simp; omega)) ?_
        | refine r_mv_rp rfl rfl (by first | rfl | assumption | omega | (simp; done) | (simp; omega)) ?_
        | refine r_fad_rp rfl rfl (by first | rfl | assumption | omega | (simp; done) | (simp; omega)) ?_
        | refine r_iad_row rfl rfl (by first | rfl | assumption | omega | (simp; done) | (simp; omega)) rfl (by first | rfl | assumption | omega | (simp; done) | (simp; omega)) ?_
        | refine r_skip0 rfl (by first | with_reducible rfl | assumption | decide) ?_
        | refine r_skipU0 rfl ?_
        | refine r_semF rfl rfl rfl rfl ?_
        | refine r_load_rp rfl rfl (by assumption) rfl ?_
        | refine r_len_row rfl rfl (by first | rfl | assumption | omega | (simp; done) | (simp; omega)) ?_
        | refine run_seq ?_
        | refine run_reg ?_
        | refine run_regd rfl ?_
        | refine run_block ?_
        | refine run_skip ?_
        | refine run_exit ?_
        | refine run_ret ?_
        | refine fin_seq ?_
        | refine fin_seq_e ?_
        | refine fin_seq_r ?_
        | refine fin_blk ?_
        | refine fin_blk_e ?_
        | refine fin_blk_x rfl ?_
        | refine fin_blk_r ?_
        | refine fin_loop_e ?_
        | refine fin_loop_r ?_
        | refine run_cond_t rfl (by first | with_reducible rfl | assumption | decide) ?_
        | refine run_cond_f rfl (by first | with_reducible rfl | assumption | decide) ?_)
      refine fin_loop (run_weak (weak_S ?_ ?_) (ih (i + 1) ⟨by omega, by omega⟩ (by omega)))
      · exact ⟨rfl, rfl, rfl, rfl, rfl, trivial⟩
      · exact ⟨rfl, trivial⟩
    · obtain ⟨q, rfl⟩ : ∃ q, j = q + 1 := ⟨j - 1, by omega⟩
      have hgd : decide (0 < ((q + 1 : Nat) : Int)) = true := decide_eq_true (by omega)
      have hq : q < p.length := by omega
      have e1 : p.take (q + 1) ++ xs[i] :: p.drop (q + 1) ++ xs.drop (i + 1) = p.take q ++ p[q] :: xs[i] :: (p.drop (q + 1) ++ xs.drop (i + 1)) := by
        rw [show p.take (q + 1) = p.take q ++ [p[q]] by simp, List.append_assoc, List.append_assoc]; rfl
      have hql : (p.take q).length = q := by simp; omega
      have eq1 : (((q + 1 : Nat) : Int) - 1) = (q : Int) := by omega
      have eq2 : (((q + 1 : Nat) : Int) - 1).toNat = q := by omega
      obtain ⟨L, hL⟩ : ∃ L, L = p.take (q + 1) ++ xs[i] :: p.drop (q + 1) ++ xs.drop (i + 1) := ⟨_, rfl⟩
      have hLl : L.length = xs.length := by rw [hL]; simp; omega
      have hx1 : (L.map U.enc)[q + 1]? = some xs[i].enc := by
        rw [hL, e1, List.map_append, List.getElem?_append_right (by simp; omega)]; simp [Nat.min_eq_left (Nat.le_of_lt hq)]
      have hx0' : (L.map U.enc)[q]? = some p[q].enc := by
        rw [hL, e1, List.map_append, List.getElem?_append_right (by simp; omega)]; simp [Nat.min_eq_left (Nat.le_of_lt hq)]
      have hx0 : (L.map U.enc)[(((q + 1 : Nat) : Int) - 1).toNat]? = some p[q].enc := by rw [eq2]; exact hx0'
      have hx2 : ((L.map U.enc).set (q + 1) p[q].enc)[(((q + 1 : Nat) : Int) - 1).toNat]? = some p[q].enc := by
        rw [eq2, List.getElem?_set_ne (by omega)]; exact hx0'
      have hsw : ((L.map U.enc).set (q + 1) p[q].enc).set (((q + 1 : Nat) : Int) - 1).toNat xs[i].enc = (p.take q ++ xs[i] :: p.drop q ++ xs.drop (i + 1)).map U.enc := by
        rw [eq2, hL, e1, ← List.map_set, ← List.map_set]
        refine congrArg (List.map U.enc) ?_
        have := set2 (p.take q) p[q] xs[i] (p.drop (q + 1) ++ xs.drop (i + 1))
        rw [hql] at this
        rw [this, List.drop_eq_getElem_cons hq, List.append_assoc]; rfl
      rw [← hL]
      have hmi : xs[i] ∈ xs := List.getElem_mem hlt
      have hmq : p[q] ∈ xs := hpm _ (List.getElem_mem hq)
      repeat (first
        | refine r_callv rfl (hg xs[i] hmi p[q] hmq) ?_
        | refine r_mv_p rfl ?_
        | refine r_do rfl (by first | with_reducible rfl | assumption | decide) ?_
        | refine r_skip rfl (by first | with_reducible rfl | assumption | decide) ?_
        | refine r_skipU rfl ?_
        | refine r_fad rfl rfl ?_
        | refine r_add rfl rfl (by omega) ?_
        | refine r_sub rfl rfl (by omega) ?_
        | refine r_loadAll rfl (by first | rfl | assumption) ?_
        | refine r_loadAllB rfl rfl (by first | rfl | assumption) ?_
        | refine r_pick_t rfl (by first | with_reducible rfl | assumption | decide) rfl rfl ?_
        | refine r_pick_f rfl (by first | with_reducible rfl | assumption | decide) rfl rfl ?_
        | refine r_sem rfl rfl rfl rfl ?_
        | refine r_nil ?_
        | refine r_iad rfl rfl (by omega) (by assumption) (by first | rfl | assumption | omega | (simp; done) | (simp; omega)) ?_
        | refine r_storeAll rfl rfl rfl rfl rfl rfl ?_
        | refine r_store rfl rfl rfl rfl (by decide) ?_
        | refine r_alloc rfl ?_
        | refine r_box rfl rfl rfl ?_
        | refine r_bsl rfl rfl rfl rfl rfl rfl ?_
        | refine r_bsl1 rfl (by assumption) rfl ?_
        | refine r_mkmap rfl ?_
        | refine r_mv_nil rfl ?_
        | refine r_mv_own rfl rfl ?_
        | refine r_mv_mp rfl rfl ?_
        | refine r_mv_row rfl rfl (by first | rfl | assumption | omega | (simp; done) | (simp; omega)) ?_
        | refine r_mv_rp rfl rfl (by first | rfl | assumption | omega | (simp; done) | (simp; omega)) ?_
        | refine r_fad_rp rfl rfl (by first | rfl | assumption | omega | (simp; done) | (simp; omega)) ?_
        | refine r_iad_row rfl rfl (by first | rfl | assumption | omega | (simp; done) | (simp; omega)) rfl (by first | rfl | assumption | omega | (simp; done) | (simp; omega)) ?_
        | refine r_skip0 rfl (by first | with_reducible rfl | assumption | decide) ?_
        | refine r_skipU0 rfl ?_
        | refine r_semF rfl rfl rfl rfl ?_
        | refine r_load_rp rfl rfl (by assumption) rfl ?_
        | refine r_len_row rfl rfl (by first | rfl | assumption | omega | (simp; done) | (simp; omega)) ?_
        | refine run_seq ?_
        | refine run_reg ?_
        | refine run_regd rfl ?_
        | refine run_block ?_
        | refine run_skip ?_
        | refine run_exit ?_
        | refine run_ret ?_
        | refine fin_seq ?_
        | refine fin_seq_e ?_
        | refine fin_seq_r ?_
        | refine fin_blk ?_
        | refine fin_blk_e ?_
        | refine fin_blk_x rfl ?_
        | refine fin_blk_r ?_
        | refine fin_loop_e ?_
        | refine fin_loop_r ?_
        | refine run_cond_t rfl (by first | with_reducible rfl | assumption | decide) ?_
        | refine run_cond_f rfl (by first | with_reducible rfl | assumption | decide) ?_)
      refine run_cond rfl (fun h2 => ?_) (fun h2 => ?_)
      · have hst : insJ (fun a b => decide (cf a b < 0)) xs[i] p (q + 1) = insJ (fun a b => decide (cf a b < 0)) xs[i] p q := by
          simp [insJ, hq, of_decide_eq_true h2]
        repeat (first
          | refine r_store_rp rfl rfl hx1 rfl rfl (And.intro rfl (by omega)) ?_
          | refine r_store_rp rfl rfl hx2 rfl rfl (And.intro rfl (by omega)) ?_
          | refine r_mv_p rfl ?_
          | refine r_do rfl (by first | with_reducible rfl | assumption | decide) ?_
          | refine r_skip rfl (by first | with_reducible rfl | assumption | decide) ?_
          | refine r_skipU rfl ?_
          | refine r_fad rfl rfl ?_
          | refine r_add rfl rfl (by omega) ?_
          | refine r_sub rfl rfl (by omega) ?_
          | refine r_loadAll rfl (by first | rfl | assumption) ?_
          | refine r_loadAllB rfl rfl (by first | rfl | assumption) ?_
          | refine r_pick_t rfl (by first | with_reducible rfl | assumption | decide) rfl rfl ?_
          | refine r_pick_f rfl (by first | with_reducible rfl | assumption | decide) rfl rfl ?_
          | refine r_sem rfl rfl rfl rfl ?_
          | refine r_nil ?_
          | refine r_iad rfl rfl (by omega) (by assumption) (by first | rfl | assumption | omega | (simp; done) | (simp; omega)) ?_
          | refine r_storeAll rfl rfl rfl rfl rfl rfl ?_
          | refine r_store rfl rfl rfl rfl (by decide) ?_
          | refine r_alloc rfl ?_
          | refine r_box rfl rfl rfl ?_
          | refine r_bsl rfl rfl rfl rfl rfl rfl ?_
          | refine r_bsl1 rfl (by assumption) rfl ?_
          | refine r_mkmap rfl ?_
          | refine r_mv_nil rfl ?_
          | refine r_mv_own rfl rfl ?_
          | refine r_mv_mp rfl rfl ?_
          | refine r_mv_row rfl rfl (by first | rfl | assumption | omega | (simp; done) | (simp; omega)) ?_
          | refine r_mv_rp rfl rfl (by first | rfl | assumption | omega | (simp; done) | (simp; omega)) ?_
          | refine r_fad_rp rfl rfl (by first | rfl | assumption | omega | (simp; done) | (simp; omega)) ?_
          | refine r_iad_row rfl rfl (by first | rfl | assumption | omega | (simp; done) | (simp; omega)) rfl (by first | rfl | assumption | omega | (simp; done) | (simp; omega)) ?_
          | refine r_skip0 rfl (by first | with_reducible rfl | assumption | decide) ?_
          | refine r_skipU0 rfl ?_
          | refine r_semF rfl rfl rfl rfl ?_
          | refine r_load_rp rfl rfl (by assumption) rfl ?_
          | refine r_len_row rfl rfl (by first | rfl | assumption | omega | (simp; done) | (simp; omega)) ?_
          | refine run_seq ?_
          | refine run_reg ?_
          | refine run_regd rfl ?_
          | refine run_block ?_
          | refine run_skip ?_
          | refine run_exit ?_
          | refine run_ret ?_
          | refine fin_seq ?_
          | refine fin_seq_e ?_
          | refine fin_seq_r ?_
          | refine fin_blk ?_
          | refine fin_blk_e ?_
          | refine fin_blk_x rfl ?_
          | refine fin_blk_r ?_
          | refine fin_loop_e ?_
          | refine fin_loop_r ?_
          | refine run_cond_t rfl (by first | with_reducible rfl | assumption | decide) ?_
          | refine run_cond_f rfl (by first | with_reducible rfl | assumption | decide) ?_)
        refine fin_loop (run_weak (weak_S ?_ ?_) (ihj q ⟨by omega, by rw [← hst]; exact hJ⟩ (by omega)))
        · exact ⟨rfl, rfl, rfl, rfl, rfl, ti rfl eq1, trivial⟩
        · exact ⟨congrArg (fun z => some (Own.row 23 2 z false)) hsw, trivial⟩
      · have hst : insJ (fun a b => decide (cf a b < 0)) xs[i] p (q + 1) = q + 1 := by
          simp [insJ, hq, of_decide_eq_false h2]
        rw [hL, hout hst]
        repeat (first
          | refine r_mv_p rfl ?_
          | refine r_do rfl (by first | with_reducible rfl | assumption | decide) ?_
          | refine r_skip rfl (by first | with_reducible rfl | assumption | decide) ?_
          | refine r_skipU rfl ?_
          | refine r_fad rfl rfl ?_
          | refine r_add rfl rfl (by omega) ?_
          | refine r_sub rfl rfl (by omega) ?_
          | refine r_loadAll rfl (by first | rfl | assumption) ?_
          | refine r_loadAllB rfl rfl (by first | rfl | assumption) ?_
          | refine r_pick_t rfl (by first | with_reducible rfl | assumption | decide) rfl rfl ?_
          | refine r_pick_f rfl (by first | with_reducible rfl | assumption | decide) rfl rfl ?_
          | refine r_sem rfl rfl rfl rfl ?_
          | refine r_nil ?_
          | refine r_iad rfl rfl (by omega) (by assumption) (by first | rfl | assumption | omega | (simp; done) | (simp; omega)) ?_
          | refine r_storeAll rfl rfl rfl rfl rfl rfl ?_
          | refine r_store rfl rfl rfl rfl (by decide) ?_
          | refine r_alloc rfl ?_
          | refine r_box rfl rfl rfl ?_
          | refine r_bsl rfl rfl rfl rfl rfl rfl ?_
          | refine r_bsl1 rfl (by assumption) rfl ?_
          | refine r_mkmap rfl ?_
          | refine r_mv_nil rfl ?_
          | refine r_mv_own rfl rfl ?_
          | refine r_mv_mp rfl rfl ?_
          | refine r_mv_row rfl rfl (by first | rfl | assumption | omega | (simp; done) | (simp; omega)) ?_
          | refine r_mv_rp rfl rfl (by first | rfl | assumption | omega | (simp; done) | (simp; omega)) ?_
          | refine r_fad_rp rfl rfl (by first | rfl | assumption | omega | (simp; done) | (simp; omega)) ?_
          | refine r_iad_row rfl rfl (by first | rfl | assumption | omega | (simp; done) | (simp; omega)) rfl (by first | rfl | assumption | omega | (simp; done) | (simp; omega)) ?_
          | refine r_skip0 rfl (by first | with_reducible rfl | assumption | decide) ?_
          | refine r_skipU0 rfl ?_
          | refine r_semF rfl rfl rfl rfl ?_
          | refine r_load_rp rfl rfl (by assumption) rfl ?_
          | refine r_len_row rfl rfl (by first | rfl | assumption | omega | (simp; done) | (simp; omega)) ?_
          | refine run_seq ?_
          | refine run_reg ?_
          | refine run_regd rfl ?_
          | refine run_block ?_
          | refine run_skip ?_
          | refine run_exit ?_
          | refine run_ret ?_
          | refine fin_seq ?_
          | refine fin_seq_e ?_
          | refine fin_seq_r ?_
          | refine fin_blk ?_
          | refine fin_blk_e ?_
          | refine fin_blk_x rfl ?_
          | refine fin_blk_r ?_
          | refine fin_loop_e ?_
          | refine fin_loop_r ?_
          | refine run_cond_t rfl (by first | with_reducible rfl | assumption | decide) ?_
          | refine run_cond_f rfl (by first | with_reducible rfl | assumption | decide) ?_)
        refine fin_loop (run_weak (weak_S ?_ ?_) (ih (i + 1) ⟨by omega, by omega⟩ (by omega)))
        · exact ⟨rfl, rfl, rfl, rfl, rfl, trivial⟩
        · exact ⟨rfl, trivial⟩
  · have hle : xs.length ≤ i := by simp at h; omega
    have e1 : xs.take i = xs := List.take_of_length_le hle
    have e2 : xs.drop i = [] := List.drop_eq_nil_of_le hle
    rw [e1, e2, List.append_nil]
    repeat (first
      | refine r_mv_p rfl ?_
      | refine r_do rfl (by first | with_reducible rfl | assumption | decide) ?_
      | refine r_skip rfl (by first | with_reducible rfl | assumption | decide) ?_
      | refine r_skipU rfl ?_
      | refine r_fad rfl rfl ?_
      | refine r_add rfl rfl (by omega) ?_
      | refine r_sub rfl rfl (by omega) ?_
      | refine r_loadAll rfl (by first | rfl | assumption) ?_
      | refine r_loadAllB rfl rfl (by first | rfl | assumption) ?_
      | refine r_pick_t rfl (by first | with_reducible rfl | assumption | decide) rfl rfl ?_
      | refine r_pick_f rfl (by first | with_reducible rfl | assumption | decide) rfl rfl ?_
      | refine r_sem rfl rfl rfl rfl ?_
      | refine r_nil ?_
      | refine r_iad rfl rfl (by omega) (by assumption) (by first | rfl | assumption | omega | (simp; done) | (simp; omega)) ?_
      | refine r_storeAll rfl rfl rfl rfl rfl rfl ?_
      | refine r_store rfl rfl rfl rfl (by decide) ?_
      | refine r_alloc rfl ?_
      | refine r_box rfl rfl rfl ?_
      | refine r_bsl rfl rfl rfl rfl rfl rfl ?_
      | refine r_bsl1 rfl (by assumption) rfl ?_
      | refine r_mkmap rfl ?_
      | refine r_mv_nil rfl ?_
      | refine r_mv_own rfl rfl ?_
      | refine r_mv_mp rfl rfl ?_
      | refine r_mv_row rfl rfl (by first | rfl | assumption | omega | (simp; done) | (simp; omega)) ?_
      | refine r_mv_rp rfl rfl (by first | rfl | assumption | omega | (simp; done) | (simp; omega)) ?_
      | refine r_fad_rp rfl rfl (by first | rfl | assumption | omega | (simp; done) | (simp; omega)) ?_
      | refine r_iad_row rfl rfl (by first | rfl | assumption | omega | (simp; done) | (simp; omega)) rfl (by first | rfl | assumption | omega | (simp; done) | (simp; omega)) ?_
      | refine r_skip0 rfl (by first | with_reducible rfl | assumption | decide) ?_
      | refine r_skipU0 rfl ?_
      | refine r_semF rfl rfl rfl rfl ?_
      | refine r_load_rp rfl rfl (by assumption) rfl ?_
      | refine r_len_row rfl rfl (by first | rfl | assumption | omega | (simp; done) | (simp; omega)) ?_
      | refine run_seq ?_
      | refine run_reg ?_
      | refine run_regd rfl ?_
      | refine run_block ?_
      | refine run_skip ?_
      | refine run_exit ?_
      | refine run_ret ?_
      | refine fin_seq ?_
      | refine fin_seq_e ?_
      | refine fin_seq_r ?_
      | refine fin_blk ?_
      | refine fin_blk_e ?_
      | refine fin_blk_x rfl ?_
      | refine fin_blk_r ?_
      | refine fin_loop_e ?_
      | refine fin_loop_r ?_
      | refine run_cond_t rfl (by first | with_reducible rfl | assumption | decide) ?_
      | refine run_cond_f rfl (by first | with_reducible rfl | assumption | decide) ?_)
    exact fin_lent rfl rfl

theorem stable23 (cf : U → U → Int) (g : FuncId) (xs : List U) (hne : xs ≠ []) (hb : xs.length < 20) (hg : ∀ a ∈ xs, ∀ b ∈ xs, Ret Try.prog g [.agg a.enc, .agg b.enc] (.v (.int .i64 (cf a b)))) :
    RetU Try.prog 23 23 2 (xs.map U.enc) [.v (.int .i64 (xs.length : Nat)), .clo g []] ((isort (fun a b => decide (cf a b < 0)) xs).map U.enc) := by
  have hil : (isort (fun a b => decide (cf a b < 0)) xs).length = xs.length := by
    have := isort_length (fun a b => decide (cf a b < 0)) xs xs.length (Nat.le_refl _)
    rwa [List.take_length] at this
  refine lent23 rfl (by simp [hil]) (by simpa using hne) ?_ ?_
  · intro p hp
    simp only [List.mem_flatten, List.mem_map] at hp
    obtain ⟨_, ⟨u, _, rfl⟩, hp⟩ := hp
    simp only [U.enc, List.mem_cons, List.not_mem_nil, or_false] at hp
    rcases hp with rfl | rfl <;> exact ⟨_, rfl⟩
  rw [List.length_map]
  have h1 : decide ((20 : Int) ≤ ((xs.length : Nat) : Int)) = false := decide_eq_false (by omega)
  have h2 : decide ((20 : Int) < ((xs.length : Nat) : Int)) = false := decide_eq_false (by omega)
  unfold c23
  repeat (first
    | refine run_loop ?_
    | refine r_callu (fs := []) rfl rfl (by simp) rfl rfl rfl (sort24 cf g xs hne (by omega) hg) (by decide) ?_
    | refine r_mv_p rfl ?_
    | refine r_do rfl (by first | with_reducible rfl | assumption | decide) ?_
    | refine r_skip rfl (by first | with_reducible rfl | assumption | decide) ?_
    | refine r_skipU rfl ?_
    | refine r_fad rfl rfl ?_
    | refine r_add rfl rfl (by omega) ?_
    | refine r_sub rfl rfl (by omega) ?_
    | refine r_loadAll rfl (by first | rfl | assumption) ?_
    | refine r_loadAllB rfl rfl (by first | rfl | assumption) ?_
    | refine r_pick_t rfl (by first | with_reducible rfl | assumption | decide) rfl rfl ?_
    | refine r_pick_f rfl (by first | with_reducible rfl | assumption | decide) rfl rfl ?_
    | refine r_sem rfl rfl rfl rfl ?_
    | refine r_nil ?_
    | refine r_iad rfl rfl (by omega) (by assumption) (by first | rfl | assumption | omega | (simp; done) | (simp; omega)) ?_
    | refine r_storeAll rfl rfl rfl rfl rfl rfl ?_
    | refine r_store rfl rfl rfl rfl (by decide) ?_
    | refine r_alloc rfl ?_
    | refine r_box rfl rfl rfl ?_
    | refine r_bsl rfl rfl rfl rfl rfl rfl ?_
    | refine r_bsl1 rfl (by assumption) rfl ?_
    | refine r_mkmap rfl ?_
    | refine r_mv_nil rfl ?_
    | refine r_mv_own rfl rfl ?_
    | refine r_mv_mp rfl rfl ?_
    | refine r_mv_row rfl rfl (by first | rfl | assumption | omega | (simp; done) | (simp; omega)) ?_
    | refine r_mv_rp rfl rfl (by first | rfl | assumption | omega | (simp; done) | (simp; omega)) ?_
    | refine r_fad_rp rfl rfl (by first | rfl | assumption | omega | (simp; done) | (simp; omega)) ?_
    | refine r_iad_row rfl rfl (by first | rfl | assumption | omega | (simp; done) | (simp; omega)) rfl (by first | rfl | assumption | omega | (simp; done) | (simp; omega)) ?_
    | refine r_skip0 rfl (by first | with_reducible rfl | assumption | decide) ?_
    | refine r_skipU0 rfl ?_
    | refine r_semF rfl rfl rfl rfl ?_
    | refine r_load_rp rfl rfl (by assumption) rfl ?_
    | refine r_len_row rfl rfl (by first | rfl | assumption | omega | (simp; done) | (simp; omega)) ?_
    | refine run_seq ?_
    | refine run_reg ?_
    | refine run_regd rfl ?_
    | refine run_block ?_
    | refine run_skip ?_
    | refine run_exit ?_
    | refine run_ret ?_
    | refine fin_seq ?_
    | refine fin_seq_e ?_
    | refine fin_seq_r ?_
    | refine fin_blk ?_
    | refine fin_blk_e ?_
    | refine fin_blk_x rfl ?_
    | refine fin_blk_r ?_
    | refine fin_loop_e ?_
    | refine fin_loop_r ?_
    | refine run_cond_t rfl (by first | with_reducible rfl | assumption | decide) ?_
    | refine run_cond_f rfl (by first | with_reducible rfl | assumption | decide) ?_)
  exact fin_lent rfl rfl
theorem sort18 (cf : U → U → Int) (g : FuncId) (xs : List U) (hne : xs ≠ []) (hb : xs.length < 20) (hg : ∀ a ∈ xs, ∀ b ∈ xs, Ret Try.prog g [.agg a.enc, .agg b.enc] (.v (.int .i64 (cf a b)))) :
    RetU Try.prog 18 23 2 (xs.map U.enc) [.clo g []] ((isort (fun a b => decide (cf a b < 0)) xs).map U.enc) := by
  have hil : (isort (fun a b => decide (cf a b < 0)) xs).length = xs.length := by
    have := isort_length (fun a b => decide (cf a b < 0)) xs xs.length (Nat.le_refl _)
    rwa [List.take_length] at this
  refine lent18 rfl (by simp [hil]) (by simpa using hne) ?_ ?_
  · intro p hp
    simp only [List.mem_flatten, List.mem_map] at hp
    obtain ⟨_, ⟨u, _, rfl⟩, hp⟩ := hp
    simp only [U.enc, List.mem_cons, List.not_mem_nil, or_false] at hp
    rcases hp with rfl | rfl <;> exact ⟨_, rfl⟩
  rw [List.length_map]
  unfold c18
  repeat (first
    | refine r_callu (fs := []) rfl rfl (by simp) rfl rfl rfl (stable23 cf g xs hne hb hg) (by decide) ?_
    | refine r_mv_p rfl ?_
    | refine r_do rfl (by first | with_reducible rfl | assumption | decide) ?_
    | refine r_skip rfl (by first | with_reducible rfl | assumption | decide) ?_
    | refine r_skipU rfl ?_
    | refine r_fad rfl rfl ?_
    | refine r_add rfl rfl (by omega) ?_
    | refine r_sub rfl rfl (by omega) ?_
    | refine r_loadAll rfl (by first | rfl | assumption) ?_
    | refine r_loadAllB rfl rfl (by first | rfl | assumption) ?_
    | refine r_pick_t rfl (by first | with_reducible rfl | assumption | decide) rfl rfl ?_
    | refine r_pick_f rfl (by first | with_reducible rfl | assumption | decide) rfl rfl ?_
    | refine r_sem rfl rfl rfl rfl ?_
    | refine r_nil ?_
    | refine r_iad rfl rfl (by omega) (by assumption) (by first | rfl | assumption | omega | (simp; done) | (simp; omega)) ?_
    | refine r_storeAll rfl rfl rfl rfl rfl rfl ?_
    | refine r_store rfl rfl rfl rfl (by decide) ?_
    | refine r_alloc rfl ?_
    | refine r_box rfl rfl rfl ?_
    | refine r_bsl rfl rfl rfl rfl rfl rfl ?_
    | refine r_bsl1 rfl (by assumption) rfl ?_
    | refine r_mkmap rfl ?_
    | refine r_mv_nil rfl ?_
    | refine r_mv_own rfl rfl ?_
    | refine r_mv_mp rfl rfl ?_
    | refine r_mv_row rfl rfl (by first | rfl | assumption | omega | (simp; done) | (simp; omega)) ?_
    | refine r_mv_rp rfl rfl (by first | rfl | assumption | omega | (simp; done) | (simp; omega)) ?_
    | refine r_fad_rp rfl rfl (by first | rfl | assumption | omega | (simp; done) | (simp; omega)) ?_
    | refine r_iad_row rfl rfl (by first | rfl | assumption | omega | (simp; done) | (simp; omega)) rfl (by first | rfl | assumption | omega | (simp; done) | (simp; omega)) ?_
    | refine r_skip0 rfl (by first | with_reducible rfl | assumption | decide) ?_
    | refine r_skipU0 rfl ?_
    | refine r_semF rfl rfl rfl rfl ?_
    | refine r_load_rp rfl rfl (by assumption) rfl ?_
    | refine r_len_row rfl rfl (by first | rfl | assumption | omega | (simp; done) | (simp; omega)) ?_
    | refine run_seq ?_
    | refine run_reg ?_
    | refine run_regd rfl ?_
    | refine run_block ?_
    | refine run_skip ?_
    | refine run_exit ?_
    | refine run_ret ?_
    | refine fin_seq ?_
    | refine fin_seq_e ?_
    | refine fin_seq_r ?_
    | refine fin_blk ?_
    | refine fin_blk_e ?_
    | refine fin_blk_x rfl ?_
    | refine fin_blk_r ?_
    | refine fin_loop_e ?_
    | refine fin_loop_r ?_
    | refine run_cond_t rfl (by first | with_reducible rfl | assumption | decide) ?_
    | refine run_cond_f rfl (by first | with_reducible rfl | assumption | decide) ?_)
  exact fin_lent rfl rfl
end Go.Fw
