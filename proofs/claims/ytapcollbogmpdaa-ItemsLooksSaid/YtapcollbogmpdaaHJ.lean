/-
  Items: whether one may be kept, and what a house is with it; by the program and by the document.
-/
import Derived.Test.YtapcollbogmpdaaHI
import Derived.Test.YtapcollbogmpdaaHZa
import Derived.Test.YtapcollbogmpdaaIrH
set_option linter.unusedVariables false
set_option linter.unusedSimpArgs false
set_option maxRecDepth 10000
namespace Go.Fw
open Go.Proofs

/-! ### Rules -/
theorem r_idx {P : Program} {Q : Ex → St → Prop} {ks : List Kf} {rs : List RG} {l : List (Nat × T)} {m : List (Nat × Option Own)} {d es n : Nat} {ag : Bool} {x y : Opd} {cells : List PV} {j : Int} {k : IntKind} {p : PV} (hx : (S l m).ev x = .p (.agg cells)) (hy : (S l m).ev y = .p (.v (.int k j))) (hj : 0 ≤ j ∧ j < n) (hp : ldv cells (j.toNat * es) es ag = some p)
    (h : RunR P Q ks rs (S ((d, .p p) :: l) m)) : RunR P Q ks (⟨some d, .idx es n ag, [x, y], none⟩ :: rs) (S l m) :=
  r_sem («as» := [.p (.agg cells), .p (.v (.int k j))]) rfl (by simp only [St.resL, St.res, hx, hy, lookT]; rfl) (by simp only [sem, if_pos hj, hp, Option.map_some]) rfl h
theorem r_aad {P : Program} {Q : Ex → St → Prop} {ks : List Kf} {rs : List RG} {l : List (Nat × T)} {m : List (Nat × Option Own)} {d es n q o : Nat} {x y : Opd} {cells : List PV} {fz : Bool} {j : Int} {k : IntKind} (hx : (S l m).ev x = .own q o) (ho : ol m q = some (.box cells fz)) (hy : (S l m).ev y = .p (.v (.int k j))) (hj : 0 ≤ j ∧ j < n)
    (h : RunR P Q ks rs (S ((d, .own q (o + j.toNat * es)) :: l) m)) : RunR P Q ks (⟨some d, .aad es n, [x, y], none⟩ :: rs) (S l m) := by
  refine r_cons ?_ h
  have hr : (S l m).resL [x, y] = some [.own q o cells, .p (.v (.int k j))] := by
    simp only [St.resL, St.res, hx, hy, lookT]
    rw [ho]; rfl
  have := Step1.plain (P := P) ⟨some d, .aad es n, [x, y], none⟩ (S l m) _ { v := .own q (o + j.toNat * es) } rfl rfl hr (by simp only [SemA, sem, if_pos hj]) (fun h => by cases h)
  simpa only [St.eff, putT, newO, frzO_nil, upd_tl] using this
theorem r_loadO {P : Program} {Q : Ex → St → Prop} {ks : List Kf} {rs : List RG} {l : List (Nat × T)} {m : List (Nat × Option Own)} {d sz q o : Nat} {ag : Bool} {x : Opd} {cells : List PV} {fz : Bool} {p : PV} (hx : (S l m).ev x = .own q o) (ho : ol m q = some (.box cells fz)) (hp : ldv cells o sz ag = some p)
    (h : RunR P Q ks rs (S ((d, .p p) :: l) m)) : RunR P Q ks (⟨some d, .load sz ag, [x], none⟩ :: rs) (S l m) :=
  r_sem («as» := [.own q o cells]) rfl (by simp only [St.resL, St.res, hx, lookT]; rw [ho]; rfl) (by simp only [sem, hp, Option.map_some]) rfl h

/-! ### Units of an item -/
theorem any_take_succ7 {α : Type} (q : α → Bool) (xs : List α) (i : Nat) (hi : i < xs.length) : (xs.take (i + 1)).any q = ((xs.take i).any q || q xs[i]) := by
  rw [← List.take_append_getElem hi, List.any_append]; simp
def uEnc (u : Un) : List PV := [.v (.string u.1), .v (.int .i64 u.2)]
def outB (a b n : Int) : Bool := decide (n < a) || decide (b < n)
theorem outB_eq (a b n : Int) : (!outB a b n) = (decide (a ≤ n) && decide (n ≤ b)) := by
  unfold outB
  rw [Bool.not_or, ← decide_not, ← decide_not]
  simp only [Int.not_lt]
theorem within108 (n a b : Int) : Ret Try.prog 108 [.v (.int .i64 n), .v (.int .i64 a), .v (.int .i64 b)] (.v (.bool (!outB a b n))) := by
  refine ret108 rfl fun hbd => ?_
  rw [outB_eq]
  unfold c108
  cases h1 : decide (a ≤ n) with
  | true =>
    repeat (first
      | refine r_mv_p rfl ?_ | refine r_do rfl (by first | with_reducible rfl | assumption | decide) ?_
      | refine r_pick_t rfl (by first | with_reducible rfl | assumption | decide) rfl rfl ?_ | refine r_sem rfl rfl rfl rfl ?_ | refine r_nil ?_ | refine run_seq ?_ | refine run_reg ?_
      | refine run_ret ?_ | refine fin_seq ?_)
    exact fin_out rfl rfl
  | false =>
    repeat (first
      | refine r_mv_p rfl ?_ | refine r_skip rfl (by first | with_reducible rfl | assumption | decide) ?_
      | refine r_pick_f rfl (by first | with_reducible rfl | assumption | decide) rfl rfl ?_ | refine r_sem rfl rfl rfl rfl ?_ | refine r_nil ?_ | refine run_seq ?_ | refine run_reg ?_
      | refine run_ret ?_ | refine fin_seq ?_)
    exact fin_out rfl rfl
theorem r_eqsN {P : Program} {Q : Ex → St → Prop} {ks : List Kf} {rs : List RG} {l : List (Nat × T)} {m : List (Nat × Option Own)} {d : Nat} {cks : List Ck} {x y : Opd} {a b : List PV} {r : Bool} (hx : (S l m).ev x = .p (.agg a)) (hy : (S l m).ev y = .p (.agg b)) (he : cellsEq cks a b = some r)
    (h : RunR P Q ks rs (S ((d, .p (.v (.bool (!r)))) :: l) m)) : RunR P Q ks (⟨some d, .eqs true cks, [x, y], none⟩ :: rs) (S l m) :=
  r_sem («as» := [.p (.agg a), .p (.agg b)]) rfl (by simp only [St.resL, St.res, hx, hy, lookT]; rfl) (by simp only [sem, he, Option.map_some]; cases r <;> rfl) rfl h
set_option maxHeartbeats 8000000 in
theorem unit107 (u : Un) (l : List Un) (sp : List (List PV)) : Ret Try.prog 107 [.agg (uEnc u), .sl (l.map uEnc) sp] (.v (.int .i64 (unitE u l))) := by
  refine ret107 rfl fun hbd => ?_
  have hb : l.length ≤ 9223372036854775807 := by
    have := hbd _ (List.mem_cons_of_mem _ (List.mem_cons_self))
    simp only [PV.bd, PV.bd1, List.length_append, List.length_map, maxLen] at this
    omega
  have hn := nums106 u.1
  have hw := within108 u.2 2 1000000
  unfold c107
  cases h1 : decide (u.1 = ⟨#[]⟩) with
  | true =>
    have h1' : u.1 = ⟨#[]⟩ := of_decide_eq_true h1
    have hE : unitE u l = if u.2 = 0 then 0 else 5 := by unfold unitE; rw [if_pos h1']
    rw [hE]
    cases h2 : decide (u.2 = 0) with
    | true =>
      have he : cellsEq [.s, .i .i64] (uEnc u) [.v (.string ⟨#[]⟩), .v (.int .i64 0)] = some true := by simp [uEnc, cellsEq, h1', of_decide_eq_true h2]
      repeat (first
        | refine r_eqsN rfl rfl he ?_ | refine r_mv_p rfl ?_ | refine r_fad rfl rfl ?_ | refine r_loadAllB rfl rfl (by first | rfl | assumption) ?_ | refine r_sem rfl rfl rfl rfl ?_
        | refine r_nil ?_ | refine r_box rfl rfl rfl ?_ | refine run_seq ?_ | refine run_reg ?_ | refine run_skip ?_ | refine run_ret ?_ | refine fin_seq ?_ | refine fin_seq_r ?_
        | refine run_cond_t rfl (by first | with_reducible rfl | assumption | decide) ?_ | refine run_cond_f rfl (by first | with_reducible rfl | assumption | decide) ?_)
      exact fin_out rfl (by rw [if_pos (of_decide_eq_true h2)])
    | false =>
      have he : cellsEq [.s, .i .i64] (uEnc u) [.v (.string ⟨#[]⟩), .v (.int .i64 0)] = some false := by simp [uEnc, cellsEq, h1', of_decide_eq_false h2]
      repeat (first
        | refine r_eqsN rfl rfl he ?_ | refine r_mv_p rfl ?_ | refine r_fad rfl rfl ?_ | refine r_loadAllB rfl rfl (by first | rfl | assumption) ?_ | refine r_sem rfl rfl rfl rfl ?_
        | refine r_nil ?_ | refine r_box rfl rfl rfl ?_ | refine run_seq ?_ | refine run_reg ?_ | refine run_ret ?_ | refine fin_seq ?_ | refine fin_seq_r ?_
        | refine run_cond_t rfl (by first | with_reducible rfl | assumption | decide) ?_)
      exact fin_out rfl (by rw [if_neg (of_decide_eq_false h2)])
  | false =>
    have h1' : ¬ u.1 = ⟨#[]⟩ := of_decide_eq_false h1
    cases h2 : decide (nameE u.1 = 0) with
    | false =>
      have h2n : nameE u.1 ≠ 0 := of_decide_eq_false h2
      have h2' : (!decide (nameE u.1 = 0)) = true := by rw [h2]; rfl
      have hE : unitE u l = nameE u.1 := by unfold unitE; rw [if_neg h1', if_pos h2n]
      rw [hE]
      repeat (first
        | refine r_call rfl (hn) ?_ | refine r_mv_p rfl ?_ | refine r_fad rfl rfl ?_ | refine r_sem rfl rfl rfl rfl ?_ | refine r_nil ?_ | refine r_box rfl rfl rfl ?_ | refine run_seq ?_
        | refine run_reg ?_ | refine run_skip ?_ | refine run_ret ?_ | refine fin_seq ?_ | refine fin_seq_r ?_ | refine run_cond_t rfl (by first | with_reducible rfl | assumption | decide) ?_
        | refine run_cond_f rfl (by first | with_reducible rfl | assumption | decide) ?_)
      exact fin_out rfl rfl
    | true =>
      have h2n : ¬ nameE u.1 ≠ 0 := fun e => e (of_decide_eq_true h2)
      have h2' : (!decide (nameE u.1 = 0)) = false := by rw [h2]; rfl
      have hE : unitE u l = if (decide (u.1 = eachS) || l.any (sameN u.1)) = true then 11 else if outB 2 1000000 u.2 = true then 5 else 0 := by unfold unitE; rw [if_neg h1', if_neg h2n]; rfl
      rw [hE]
      repeat (first
        | refine r_call rfl (hn) ?_ | refine r_mv_p rfl ?_ | refine r_fad rfl rfl ?_ | refine r_sem rfl rfl rfl rfl ?_ | refine r_nil ?_ | refine r_box rfl rfl rfl ?_ | refine run_seq ?_
        | refine run_reg ?_ | refine run_block ?_ | refine run_skip ?_ | refine fin_seq ?_ | refine run_cond_f rfl (by first | with_reducible rfl | assumption | decide) ?_)
      refine run_weak (weak_S ?_ ?_) (run_inv (fun i : Nat => S [(2, .own 2 0), (6, .p (.v (.bool (decide (u.1 = eachS) || (l.take i).any (sameN u.1))))), (24, .p (.sl (l.map uEnc) sp)), (25, .p (.v (.int .i64 ((l.map uEnc).length : Nat)))), (26, .p (.v (.int .i64 (i : Nat))))] [(2, some (.box (uEnc u) false))])
        (fun i => i ≤ l.length) (fun i => l.length - i) ?_ 0 (Nat.zero_le _))
      · exact ⟨rfl, tb rfl (by simp; rfl), rfl, rfl, rfl, trivial⟩
      · exact ⟨rfl, trivial⟩
      intro i hi ih
      repeat (first
        | refine r_sem rfl rfl rfl rfl ?_ | refine r_nil ?_ | refine run_seq ?_ | refine run_reg ?_ | refine fin_seq ?_)
      refine run_cond rfl (fun h => ?_) (fun h => ?_)
      · have hlt : i < l.length := by simpa using h
        have hx : (l.map uEnc)[i]? = some (uEnc l[i]) := by simp [hlt]
        have hs := any_take_succ7 (sameN u.1) l i hlt
        obtain ⟨a, ha⟩ : ∃ a, a = l[i] := ⟨_, rfl⟩
        rw [← ha] at hx hs
        obtain ⟨o, ho⟩ : ∃ o, o = (decide (u.1 = eachS) || (l.take i).any (sameN u.1)) := ⟨_, rfl⟩
        have hs2 : (decide (u.1 = eachS) || (l.take (i + 1)).any (sameN u.1)) = (o || sameN u.1 a) := by rw [hs, ho, Bool.or_assoc]
        rw [← ho]
        clear hs ho
        cases o with
        | true =>
          repeat (first
            | refine r_mv_p rfl ?_ | refine r_skip rfl (by first | with_reducible rfl | assumption | decide) ?_ | refine r_add rfl rfl (by omega) ?_
            | refine r_loadAll rfl (by first | rfl | assumption) ?_ | refine r_pick_t rfl (by first | with_reducible rfl | assumption | decide) rfl rfl ?_ | refine r_nil ?_
            | refine r_iad rfl rfl (by omega) (by assumption) (by first | rfl | assumption | omega | (simp; done) | (simp; omega)) ?_ | refine r_storeAll rfl rfl rfl rfl rfl rfl ?_
            | refine r_alloc rfl ?_ | refine run_seq ?_ | refine run_reg ?_ | refine run_block ?_ | refine run_skip ?_ | refine fin_seq ?_ | refine fin_blk ?_)
          refine fin_loop (run_weak (weak_S ?_ ?_) (ih (i + 1) hlt (by omega)))
          · exact ⟨rfl, tb rfl (by rw [hs2]; rfl), rfl, rfl, rfl, trivial⟩
          · exact ⟨rfl, trivial⟩
        | false =>
          repeat (first
            | refine r_mv_p rfl ?_ | refine r_do rfl (by first | with_reducible rfl | assumption | decide) ?_ | refine r_fad rfl rfl ?_ | refine r_add rfl rfl (by omega) ?_
            | refine r_loadAll rfl (by first | rfl | assumption) ?_ | refine r_pick_f rfl (by first | with_reducible rfl | assumption | decide) rfl rfl ?_ | refine r_sem rfl rfl rfl rfl ?_
            | refine r_nil ?_ | refine r_iad rfl rfl (by omega) (by assumption) (by first | rfl | assumption | omega | (simp; done) | (simp; omega)) ?_
            | refine r_storeAll rfl rfl rfl rfl rfl rfl ?_ | refine r_alloc rfl ?_ | refine run_seq ?_ | refine run_reg ?_ | refine run_block ?_ | refine run_skip ?_ | refine fin_seq ?_
            | refine fin_blk ?_)
          refine fin_loop (run_weak (weak_S ?_ ?_) (ih (i + 1) hlt (by omega)))
          · exact ⟨rfl, tb rfl (by rw [hs2]; rfl), rfl, rfl, rfl, trivial⟩
          · exact ⟨rfl, trivial⟩
      · have hlt : i = l.length := by simp at h; omega
        have hO : (l.take i).any (sameN u.1) = l.any (sameN u.1) := by rw [hlt, List.take_length]
        rw [hO]
        clear ih hE
        generalize (decide (u.1 = eachS) || l.any (sameN u.1)) = o at *
        generalize outB 2 1000000 u.2 = w at *
        cases o with
        | true =>
          repeat (first
            | refine r_mv_p rfl ?_ | refine r_nil ?_ | refine run_seq ?_ | refine run_reg ?_ | refine run_block ?_ | refine run_exit ?_ | refine run_ret ?_ | refine fin_seq ?_
            | refine fin_seq_e ?_ | refine fin_seq_r ?_ | refine fin_blk_e ?_ | refine fin_blk_r ?_ | refine fin_loop_e ?_
            | refine run_cond_t rfl (by first | with_reducible rfl | assumption | decide) ?_)
          exact fin_out rfl rfl
        | false =>
          cases w with
          | true =>
            repeat (first
              | refine r_call rfl (hw) ?_ | refine r_mv_p rfl ?_ | refine r_fad rfl rfl ?_ | refine r_sem rfl rfl rfl rfl ?_ | refine r_nil ?_ | refine run_seq ?_ | refine run_reg ?_
              | refine run_block ?_ | refine run_exit ?_ | refine run_ret ?_ | refine fin_seq ?_ | refine fin_seq_e ?_ | refine fin_seq_r ?_ | refine fin_blk_e ?_ | refine fin_blk_r ?_
              | refine fin_loop_e ?_ | refine run_cond_t rfl (by first | with_reducible rfl | assumption | decide) ?_
              | refine run_cond_f rfl (by first | with_reducible rfl | assumption | decide) ?_)
            exact fin_out rfl rfl
          | false =>
            repeat (first
              | refine r_call rfl (hw) ?_ | refine r_mv_p rfl ?_ | refine r_fad rfl rfl ?_ | refine r_sem rfl rfl rfl rfl ?_ | refine r_nil ?_ | refine run_seq ?_ | refine run_reg ?_
              | refine run_block ?_ | refine run_skip ?_ | refine run_exit ?_ | refine run_ret ?_ | refine fin_seq ?_ | refine fin_seq_e ?_ | refine fin_blk ?_ | refine fin_blk_e ?_
              | refine fin_loop_e ?_ | refine run_cond_f rfl (by first | with_reducible rfl | assumption | decide) ?_)
            exact fin_out rfl rfl

/-! ### Whether an item may be kept -/
theorem unit_at {x : Item} {i : Nat} {u : Un} (hu : x.us[i]? = some u) : i < 4 ∧ ldv x.enc (1 + i * 2) 2 true = some (.agg (uEnc u)) ∧ ldv x.enc (1 + i * 2 + 0) 1 false = some (.v (.string u.1)) ∧ ldv (((x.enc.drop 1).take 8)) (i * 2) 2 true = some (.agg (uEnc u)) := by
  rcases i with _ | _ | _ | _ | i
  · cases hu; exact ⟨by decide, rfl, rfl, rfl⟩
  · cases hu; exact ⟨by decide, rfl, rfl, rfl⟩
  · cases hu; exact ⟨by decide, rfl, rfl, rfl⟩
  · cases hu; exact ⟨by decide, rfl, rfl, rfl⟩
  · simp [Item.us] at hu
theorem sarr_us (x : Item) (d i : Nat) (hi : i ≤ 4) : sem (.sarr 2 4 false true) d [.own 1 1 x.enc, .p (.v (.int .i64 (i : Nat)))] = some { v := .p (.sl ((x.us.take i).map uEnc) ((x.us.drop i).map uEnc)), frz := [1] } := by
  rcases i with _ | _ | _ | _ | _ | i
  · rfl
  · rfl
  · rfl
  · rfl
  · rfl
  · omega
def errAt (x : Item) (i : Nat) : Int := match x.us[i]? with
  | some u => unitE u (x.us.take i)
  | none => 0
theorem check_eq (x : Item) : x.check' = orI [nameE x.code, errAt x 0, errAt x 1, errAt x 2, errAt x 3, sizeE x] := rfl
theorem check_name {x : Item} (h : nameE x.code ≠ 0) : x.check' = nameE x.code := by rw [check_eq, orI, if_neg h]
theorem check_unit {x : Item} {i : Nat} {u : Un} (hn : nameE x.code = 0) (hlo : ∀ j, j < i → errAt x j = 0) (hu : x.us[i]? = some u) (h : unitE u (x.us.take i) ≠ 0) : x.check' = unitE u (x.us.take i) := by
  have he : errAt x i = unitE u (x.us.take i) := by unfold errAt; rw [hu]
  rw [← he] at h ⊢
  rw [check_eq, orI, if_pos hn]
  rcases i with _ | _ | _ | _ | i
  · rw [orI, if_neg h]
  · rw [orI, if_pos (hlo 0 (by decide)), orI, if_neg h]
  · rw [orI, if_pos (hlo 0 (by decide)), orI, if_pos (hlo 1 (by decide)), orI, if_neg h]
  · rw [orI, if_pos (hlo 0 (by decide)), orI, if_pos (hlo 1 (by decide)), orI, if_pos (hlo 2 (by decide)), orI, if_neg h]
  · simp [Item.us] at hu
theorem check_size {x : Item} (hn : nameE x.code = 0) (hlo : ∀ j, j < 4 → errAt x j = 0) : x.check' = sizeE x := by
  rw [check_eq, orI, if_pos hn, orI, if_pos (hlo 0 (by decide)), orI, if_pos (hlo 1 (by decide)), orI, if_pos (hlo 2 (by decide)), orI, if_pos (hlo 3 (by decide)), orI]
  split
  · rename_i h; rw [h]; rfl
  · rfl
theorem errAt_step {x : Item} {i : Nat} {u : Un} (hlo : ∀ j, j < i → errAt x j = 0) (hu : x.us[i]? = some u) (h : unitE u (x.us.take i) = 0) : ∀ j, j < i + 1 → errAt x j = 0 := by
  intro j hj
  rcases Nat.lt_or_ge j i with h2 | h2
  · exact hlo j h2
  · have : j = i := by omega
    subst this
    unfold errAt; rw [hu]; exact h
theorem us_get (x : Item) {i : Nat} (hi : i < 4) : ∃ u, x.us[i]? = some u := ⟨_, List.getElem?_eq_getElem (show i < x.us.length from hi)⟩
theorem sizeE_of (x : Item) : sizeE x = if (outB 0 1000000 x.volume || outB 0 1000000 x.weight) = true then 5 else if (x.serial && !x.lots) = true then 21 else 0 := rfl
end Go.Fw
