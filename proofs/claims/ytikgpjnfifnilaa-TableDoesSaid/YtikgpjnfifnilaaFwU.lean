/-
  Rules to run code of the abstract machine by: states as lists, one rule for each kind of operation.
-/
import Derived.Test.YtikgpjnfifnilaaFwT
import Derived.Laws.BitsLemmas
set_option linter.unusedVariables false
set_option linter.unusedSimpArgs false
namespace Go.Fw
open Go.RowKit

/-! ### States as lists -/
def tl : List (Nat × T) → Nat → T
  | [], _ => .p .any
  | (j, x) :: r, k => if k = j then x else tl r k
def ol : List (Nat × Option Own) → Nat → Option Own
  | [], _ => none
  | (j, x) :: r, k => if k = j then x else ol r k
theorem upd_tl (l : List (Nat × T)) (k : Nat) (v : T) : upd (tl l) k v = tl ((k, v) :: l) := by funext j; rfl
theorem upd_ol (m : List (Nat × Option Own)) (k : Nat) (v : Option Own) : upd (ol m) k v = ol ((k, v) :: m) := by funext j; rfl
abbrev S (l : List (Nat × T)) (m : List (Nat × Option Own)) : St := ⟨tl l, ol m⟩

theorem init_nil : St.init [] = S [] [] := by
  simp only [St.init, S, St.mk.injEq]
  exact ⟨by funext k; simp [tl], rfl⟩
def initL : Nat → List PV → List (Nat × T)
  | _, [] => []
  | n, p :: ps => (n, .p p) :: initL (n + 1) ps
theorem tl_initL : ∀ (ps : List PV) (n k : Nat), tl (initL n ps) (n + k) = .p (ps[k]?.getD .any)
  | [], n, k => by simp [initL, tl]
  | p :: ps, n, 0 => by simp [initL, tl]
  | p :: ps, n, k + 1 => by
    simp only [initL, tl]
    rw [if_neg (by omega), show n + (k + 1) = n + 1 + k by omega, tl_initL ps (n + 1) k]
    simp
theorem init_eq (ps : List PV) : St.init ps = S (initL 0 ps) [] := by
  simp only [St.init, S, St.mk.injEq]
  refine ⟨?_, rfl⟩
  funext k
  have := tl_initL ps 0 k
  rw [Nat.zero_add] at this
  exact this.symm

def freshB (d : Nat) : List (Nat × T) → Bool
  | [] => true
  | (_, x) :: r => (match x.name with | some n => !Nat.beq n d | none => true) && freshB d r
theorem freshB_ok {d : Nat} : ∀ {l : List (Nat × T)}, freshB d l = true → ∀ k, (tl l k).name ≠ some d
  | [], _, k => by simp [tl, T.name]
  | (j, x) :: r, h, k => by
    simp only [freshB, Bool.and_eq_true] at h
    simp only [tl]
    split
    · intro e; rw [e] at h; simp at h
    · exact freshB_ok h.2 k
theorem fresh_S {d : Nat} {l : List (Nat × T)} {m : List (Nat × Option Own)} (h : freshB d l = true) : (S l m).fresh d := freshB_ok h

def killL (n : Nat) : List (Nat × T) → List (Nat × T)
  | [] => []
  | (j, x) :: r => (j, match x.name with | some q => if Nat.beq q n then .p .any else x | none => x) :: killL n r
def kill1 (n : Nat) (x : T) : T := if x.name = some n then .p .any else x
theorem kill1_eq (n : Nat) (x : T) : kill1 n x = match x.name with | some q => if Nat.beq q n then .p .any else x | none => x := by
  unfold kill1
  cases hx : x.name with
  | none => simp
  | some q =>
    by_cases hq : q = n
    · subst hq; simp
    · have : Nat.beq q n = false := by cases hb : Nat.beq q n with
        | false => rfl
        | true => exact absurd (Nat.eq_of_beq_eq_true hb) hq
      simp [hq, this]
theorem killL_ok (n : Nat) (l : List (Nat × T)) : killT (tl l) n = tl (killL n l) := by
  funext k
  show kill1 n (tl l k) = tl (killL n l) k
  induction l with
  | nil => simp [kill1, tl, killL, T.name]
  | cons jx r ih =>
    obtain ⟨j, x⟩ := jx
    simp only [tl, killL]
    split
    · exact kill1_eq n x
    · exact ih
def frzL (fs : List Nat) : List (Nat × Option Own) → List (Nat × Option Own)
  | [] => []
  | (j, x) :: r => (j, if j ∈ fs then x.map Own.freeze else x) :: frzL fs r
theorem frzL_ok (fs : List Nat) : ∀ m : List (Nat × Option Own), frzO (ol m) fs = ol (frzL fs m)
  | [] => by funext k; simp [frzO, ol, frzL]
  | (j, x) :: r => by
    funext k
    have ih := congrFun (frzL_ok fs r) k
    simp only [frzO, ol, frzL] at ih ⊢
    by_cases h : k = j
    · subst h; simp
    · simp only [if_neg h]; exact ih

/-- The slots that are told anew. -/
def AllEq (t : Nat → T) : List (Nat × T) → Prop
  | [] => True
  | (k, v) :: r => t k = v ∧ AllEq t r
def AllOwn (o : Nat → Option Own) : List (Nat × Option Own) → Prop
  | [] => True
  | (k, v) :: r => o k = v ∧ AllOwn o r
theorem AllEq.at {t : Nat → T} : ∀ {l : List (Nat × T)}, AllEq t l → ∀ k, tl l k = .p .any ∨ tl l k = t k
  | [], _, k => .inl rfl
  | (j, x) :: r, h, k => by
    simp only [tl]
    split
    · rename_i e; subst e; exact .inr h.1.symm
    · exact AllEq.at h.2 k
theorem AllOwn.at {o : Nat → Option Own} : ∀ {m : List (Nat × Option Own)}, AllOwn o m → ∀ k x, ol m k = some x → o k = some x
  | [], _, k, x, hx => by cases hx
  | (j, y) :: r, h, k, x, hx => by
    simp only [ol] at hx
    split at hx
    · rename_i e; subst e; rw [h.1]; exact hx
    · exact AllOwn.at h.2 k x hx
theorem weak_S {t : Nat → T} {o : Nat → Option Own} {l : List (Nat × T)} {m : List (Nat × Option Own)} (h : AllEq t l) (h2 : AllOwn o m) : Weak ⟨t, o⟩ (S l m) := by
  rintro B w0 F0 nt a w ⟨F, mp, hi⟩
  refine ⟨F, mp, hi.defers, hi.size, hi.below, hi.base, hi.on, hi.fin, fun k hk => ?_, fun n x hx => hi.own n x (h2.at n x hx), fun n n' b hn hn' => ?_, fun n b hn => ?_, hi.mfix, hi.ntle⟩
  · rcases h.at k with e | e
    · simp only [e]; exact Rep.any _
    · simp only [e]; exact hi.tmps k hk
  · refine hi.inj n n' b ?_ ?_
    · obtain ⟨x, hx⟩ := Option.isSome_iff_exists.1 hn; simp [h2.at n x hx]
    · obtain ⟨x, hx⟩ := Option.isSome_iff_exists.1 hn'; simp [h2.at n' x hx]
  · obtain ⟨x, hx⟩ := Option.isSome_iff_exists.1 hn
    exact hi.ownL n b (by simp [h2.at n x hx])

/-! ### Runs with what is still to do -/
inductive Kf where
  | seq (b : C)
  | blk (id : Nat)
  | loop (c : C)
  | far (rs : List RG) (ps : List (Nat × Nat))

def FinD (P : Program) (Q : Ex → St → Prop) : List Kf → Ex → St → Prop
  | [], e, s => Q e s
  | .seq b :: ks, .n, s => ∃ e' s', Exec P b s e' s' ∧ FinD P Q ks e' s'
  | .seq _ :: ks, e, s => FinD P Q ks e s
  | .blk _ :: ks, .n, s => FinD P Q ks .n s
  | .blk id :: ks, .exit j, s => if j = id then FinD P Q ks .n s else FinD P Q ks (.exit j) s
  | .blk _ :: ks, .ret, s => FinD P Q ks .ret s
  | .loop c :: ks, .n, s => ∃ e' s', Exec P (.loop c) s e' s' ∧ FinD P Q ks e' s'
  | .loop _ :: ks, e, s => FinD P Q ks e s
  | .far rs ps :: ks, e, s => farS rs ps s = true ∧ FinD P Q ks e s
structure Fin (P : Program) (Q : Ex → St → Prop) (ks : List Kf) (e : Ex) (s : St) : Prop where
  out : FinD P Q ks e s
structure Run (P : Program) (Q : Ex → St → Prop) (ks : List Kf) (c : C) (s : St) : Prop where
  out : ∃ e s', Exec P c s e s' ∧ FinD P Q ks e s'
structure RunR (P : Program) (Q : Ex → St → Prop) (ks : List Kf) (rs : List RG) (s : St) : Prop where
  out : ∃ s', Steps P rs s s' ∧ FinD P Q ks .n s'

section
variable {P : Program} {Q : Ex → St → Prop} {ks : List Kf} {s : St} {rs : List RG}

theorem run_skip (h : Fin P Q ks .n s) : Run P Q ks .skip s := ⟨⟨_, _, .skip s, h.out⟩⟩
theorem run_reg (h : RunR P Q ks rs s) : Run P Q ks (.reg rs) s := let ⟨_, h1, h2⟩ := h.out; ⟨⟨_, _, .reg h1, h2⟩⟩
def freshAll (s : St) : List RG → Prop
  | [] => True
  | r :: rs => (match r.k.allocs, r.d with | true, some d => s.fresh d | _, _ => True) ∧ freshAll s rs
theorem freshAll_ok : ∀ {rs : List RG}, freshAll s rs → ∀ r ∈ rs, r.k.allocs = true → ∀ d, r.d = some d → s.fresh d
  | [], _, r, hr, _, _, _ => by cases hr
  | r' :: rs, h, r, hr, ha, d, hd => by
    rcases List.mem_cons.1 hr with rfl | hr
    · have := h.1; rw [ha, hd] at this; exact this
    · exact freshAll_ok h.2 r hr ha d hd
/-- The names that a region makes. -/
def newsOf : List RG → List Nat
  | [] => []
  | r :: rs => (match r.k.allocs, r.d with | true, some d => [d] | _, _ => []) ++ newsOf rs
theorem run_regd {l : List (Nat × T)} {m : List (Nat × Option Own)} (hf : (newsOf rs).all (freshB · l) = true) (h : RunR P Q ks rs (S l m)) : Run P Q ks (.regd rs) (S l m) := by
  obtain ⟨_, h1, h2⟩ := (h).out
  refine ⟨⟨_, _, .regd (fun r hr ha d hd => ?_) h1, h2⟩⟩
  refine fresh_S (List.all_eq_true.1 hf d ?_)
  clear hf h1 h
  induction rs with
  | nil => cases hr
  | cons r' rs ih =>
    simp only [newsOf, List.mem_append]
    rcases List.mem_cons.1 hr with rfl | hr
    · left; rw [ha, hd]; simp
    · right; exact ih hr
theorem run_regs {ps : List (Nat × Nat)} {l : List (Nat × T)} {m : List (Nat × Option Own)} (hf : (newsOf rs).all (freshB · l) = true) (h : RunR P Q (.far rs ps :: ks) rs (S l m)) : Run P Q ks (.regs rs ps) (S l m) := by
  obtain ⟨_, h1, h2⟩ := (h).out
  refine ⟨⟨_, _, .regs (fun r hr ha d hd => ?_) h1 h2.1, h2.2⟩⟩
  refine fresh_S (List.all_eq_true.1 hf d ?_)
  clear hf h1 h2 h
  induction rs with
  | nil => cases hr
  | cons r' rs ih =>
    simp only [newsOf, List.mem_append]
    rcases List.mem_cons.1 hr with rfl | hr
    · left; rw [ha, hd]; simp
    · right; exact ih hr
theorem fin_far {ps : List (Nat × Nat)} {rs : List RG} (hs : farS rs ps s = true) (h : Fin P Q ks .n s) : Fin P Q (.far rs ps :: ks) .n s := ⟨⟨hs, h.out⟩⟩
theorem run_seq {a b : C} (h : Run P Q (.seq b :: ks) a s) : Run P Q ks (.seq a b) s := by
  obtain ⟨e, s1, h1, h2⟩ := (h).out
  cases e with
  | n => obtain ⟨e', s', h3, h4⟩ := h2; exact ⟨⟨e', s', .seqN h1 h3, h4⟩⟩
  | exit id => exact ⟨⟨_, s1, .seqX h1 (by simp), h2⟩⟩
  | ret => exact ⟨⟨_, s1, .seqX h1 (by simp), h2⟩⟩
theorem run_cond {c : Opd} {a b : C} {t : Bool} (hc : s.ev c = .p (.v (.bool t))) (h1 : t = true → Run P Q ks a s) (h2 : t = false → Run P Q ks b s) : Run P Q ks (.cond c a b) s := by
  cases t with
  | true => obtain ⟨e, s', h3, h4⟩ := (h1 rfl).out; exact ⟨⟨e, s', .cond hc h3, h4⟩⟩
  | false => obtain ⟨e, s', h3, h4⟩ := (h2 rfl).out; exact ⟨⟨e, s', .cond hc h3, h4⟩⟩
theorem run_cond_t {c : Opd} {a b : C} {t : Bool} (hc : s.ev c = .p (.v (.bool t))) (ht : t = true) (h1 : Run P Q ks a s) : Run P Q ks (.cond c a b) s := run_cond hc (fun _ => h1) fun h => by rw [ht] at h; cases h
theorem run_cond_f {c : Opd} {a b : C} {t : Bool} (hc : s.ev c = .p (.v (.bool t))) (ht : t = false) (h1 : Run P Q ks b s) : Run P Q ks (.cond c a b) s := run_cond hc (fun h => by rw [ht] at h; cases h) fun _ => h1
theorem run_block {id : Nat} {c : C} (h : Run P Q (.blk id :: ks) c s) : Run P Q ks (.block id c) s := by
  obtain ⟨e, s1, h1, h2⟩ := (h).out
  cases e with
  | n => exact ⟨⟨_, s1, .blkN h1, h2⟩⟩
  | exit j =>
    simp only [FinD] at h2
    split at h2
    · rename_i e; subst e; exact ⟨⟨_, s1, .blkE h1, h2⟩⟩
    · rename_i e; exact ⟨⟨_, s1, .blkX h1 e, h2⟩⟩
  | ret => exact ⟨⟨_, s1, .blkR h1, h2⟩⟩
theorem run_loop {c : C} (h : Run P Q (.loop c :: ks) c s) : Run P Q ks (.loop c) s := by
  obtain ⟨e, s1, h1, h2⟩ := (h).out
  cases e with
  | n => obtain ⟨e', s', h3, h4⟩ := h2; exact ⟨⟨e', s', .loopN h1 h3, h4⟩⟩
  | exit id => exact ⟨⟨_, s1, .loopX h1 (by simp), h2⟩⟩
  | ret => exact ⟨⟨_, s1, .loopX h1 (by simp), h2⟩⟩
/-- A loop, by an invariant. -/
theorem run_inv {c : C} {ι : Type} (σ : ι → St) (I : ι → Prop) (μ : ι → Nat) (h : ∀ i, I i → (∀ j, I j → μ j < μ i → Run P Q ks (.loop c) (σ j)) → Run P Q (.loop c :: ks) c (σ i)) (i0 : ι) (h0 : I i0) : Run P Q ks (.loop c) (σ i0) := by
  have key : ∀ n i, μ i = n → I i → Run P Q ks (.loop c) (σ i) := by
    intro n
    induction n using Nat.strongRecOn with
    | _ n ih =>
      intro i hn hi
      exact run_loop (h i hi fun j hj hlt => ih (μ j) (by omega) j rfl hj)
  exact key _ i0 rfl h0
theorem run_exit {id : Nat} (h : Fin P Q ks (.exit id) s) : Run P Q ks (.exit id) s := ⟨⟨_, _, .exit id s, h.out⟩⟩
theorem run_ret (h : Fin P Q ks .ret s) : Run P Q ks .ret s := ⟨⟨_, _, .ret s, h.out⟩⟩
theorem run_weak {c : C} {s1 : St} (hw : Weak s s1) (h : Run P Q ks c s1) : Run P Q ks c s := by
  obtain ⟨e, s', h1, h2⟩ := (h).out; exact ⟨⟨e, s', .weak hw h1, h2⟩⟩
theorem fin_nil {e : Ex} (h : Q e s) : Fin P Q [] e s := ⟨h⟩
theorem fin_seq {b : C} (h : Run P Q ks b s) : Fin P Q (.seq b :: ks) .n s := ⟨h.out⟩
theorem fin_seq_e {b : C} {id : Nat} (h : Fin P Q ks (.exit id) s) : Fin P Q (.seq b :: ks) (.exit id) s := ⟨h.out⟩
theorem fin_seq_r {b : C} (h : Fin P Q ks .ret s) : Fin P Q (.seq b :: ks) .ret s := ⟨h.out⟩
theorem fin_blk {id : Nat} (h : Fin P Q ks .n s) : Fin P Q (.blk id :: ks) .n s := ⟨h.out⟩
theorem fin_blk_e {id : Nat} (h : Fin P Q ks .n s) : Fin P Q (.blk id :: ks) (.exit id) s := ⟨by simp only [FinD, if_true]; exact h.out⟩
theorem fin_blk_x {id j : Nat} (hne : Nat.beq j id = false) (h : Fin P Q ks (.exit j) s) : Fin P Q (.blk id :: ks) (.exit j) s := by
  have : j ≠ id := fun e => by subst e; simp at hne
  exact ⟨by simp only [FinD, if_neg this]; exact h.out⟩
theorem fin_blk_r {id : Nat} (h : Fin P Q ks .ret s) : Fin P Q (.blk id :: ks) .ret s := ⟨h.out⟩
/-- Several ways through a region end in one state. -/
theorem run_reg_join {b : C} (s2 : St) (h1 : RunR P (fun _ s' => Weak s' s2) [] rs s) (h2 : Run P Q ks b s2) : RunR P Q (.seq b :: ks) rs s := by
  obtain ⟨s', g1, g2⟩ := h1.out
  obtain ⟨e, s3, g3, g4⟩ := h2.out
  exact ⟨⟨s', g1, e, s3, .weak g2 g3, g4⟩⟩
/-- Several ways through a piece of code end in one state, or leave. -/
theorem run_join {c b : C} (s2 : St) (h1 : Run P (fun e s' => (e = .n ∧ Weak s' s2) ∨ (e ≠ .n ∧ FinD P Q ks e s')) [] c s) (h2 : Run P Q ks b s2) : Run P Q (.seq b :: ks) c s := by
  obtain ⟨e, s', g1, g2⟩ := h1.out
  obtain ⟨e2, s3, g3, g4⟩ := h2.out
  rcases g2 with ⟨rfl, hw⟩ | ⟨hne, hf⟩
  · exact ⟨⟨.n, s', g1, e2, s3, .weak hw g3, g4⟩⟩
  · cases e with
    | n => exact absurd rfl hne
    | exit id => exact ⟨⟨_, s', g1, hf⟩⟩
    | ret => exact ⟨⟨_, s', g1, hf⟩⟩
theorem fin_join {s2 : St} (h : Weak s s2) : Fin P (fun e s' => (e = .n ∧ Weak s' s2) ∨ (e ≠ .n ∧ FinD P Q ks e s')) [] .n s := ⟨.inl ⟨rfl, h⟩⟩
theorem fin_leave {s2 : St} (h : Fin P Q ks .ret s) : Fin P (fun e s' => (e = .n ∧ Weak s' s2) ∨ (e ≠ .n ∧ FinD P Q ks e s')) [] .ret s := ⟨.inr ⟨by simp, h.out⟩⟩
theorem fin_leave_e {s2 : St} {id : Nat} (h : Fin P Q ks (.exit id) s) : Fin P (fun e s' => (e = .n ∧ Weak s' s2) ∨ (e ≠ .n ∧ FinD P Q ks e s')) [] (.exit id) s := ⟨.inr ⟨by simp, h.out⟩⟩
theorem tb {t : T} {a b : Bool} (h : t = .p (.v (.bool a))) (e : a = b) : t = .p (.v (.bool b)) := e ▸ h
theorem ti {t : T} {k : IntKind} {a b : Int} (h : t = .p (.v (.int k a))) (e : a = b) : t = .p (.v (.int k b)) := e ▸ h
theorem tp {t : T} {a b : PV} (h : t = .p a) (e : a = b) : t = .p b := e ▸ h
theorem fin_loop {c : C} (h : Run P Q ks (.loop c) s) : Fin P Q (.loop c :: ks) .n s := ⟨h.out⟩
theorem fin_loop_e {c : C} {id : Nat} (h : Fin P Q ks (.exit id) s) : Fin P Q (.loop c :: ks) (.exit id) s := ⟨h.out⟩
theorem fin_loop_r {c : C} (h : Fin P Q ks .ret s) : Fin P Q (.loop c :: ks) .ret s := ⟨h.out⟩

theorem r_nil (h : Fin P Q ks .n s) : RunR P Q ks [] s := ⟨⟨_, .nil s, h.out⟩⟩
theorem r_cons {r : RG} {s1 : St} (h : Step1 P r s s1) (h2 : RunR P Q ks rs s1) : RunR P Q ks (r :: rs) s := let ⟨s', h3, h4⟩ := h2.out; ⟨⟨s', .cons h h3, h4⟩⟩

/-! ### Guards -/
theorem Step1.reguard {d : Option Nat} {k : Kd} {a : List Opd} {g : Option (Nat × Bool)} {s' : St} (h : Step1 P ⟨d, k, a, none⟩ s s') (hw : s.want g = some true) : Step1 P ⟨d, k, a, g⟩ s s' := by
  cases h with
  | skip hw' => cases hw'
  | plain as e hk _ ha he hn => exact .plain ⟨d, k, a, g⟩ s as e hk hw ha he hn
  | storeBox sz x y n off cells cs a' p hk hd _ ha hx ho hy hp hc hl hn => exact .storeBox ⟨d, k, a, g⟩ s sz x y n off cells cs a' p hk hd hw ha hx ho hy hp hc hl hn
  | storeRow sz x y n es i off ty xs c cs a' p hk hd _ ha hx ho hi hy hp hc hl hn => exact .storeRow ⟨d, k, a, g⟩ s sz x y n es i off ty xs c cs a' p hk hd hw ha hx ho hi hy hp hc hl hn
  | appNil ty es bytes d' x y a' ys sp hk hd _ ha hx hy hp he hl hf => exact .appNil ⟨d, k, a, g⟩ s ty es bytes d' x y a' ys sp hk hd hw ha hx hy hp he hl hf
  | appRow ty es bytes d' n x y a' xs ys sp fz hk hd _ ha hx ho hy hp he hl hn hf => exact .appRow ⟨d, k, a, g⟩ s ty es bytes d' n x y a' xs ys sp fz hk hd hw ha hx ho hy hp he hl hn hf
  | mset kt et n x y z a' k' p cs es hk hd _ ha hx ho hy hz hp hn => exact .mset ⟨d, k, a, g⟩ s kt et n x y z a' k' p cs es hk hd hw ha hx ho hy hz hp hn
  | mdel kt et n x y k' es hk hd _ ha hx ho hy => exact .mdel ⟨d, k, a, g⟩ s kt et n x y k' es hk hd hw ha hx ho hy
  | calln f d' as ps ty es zs hk hd _ ha hp hr hf => exact .calln ⟨d, k, a, g⟩ s f d' as ps ty es zs hk hd hw ha hp hr hf
  | callu f n x ys as ps ty es xs zs hk _ ha hx ho hy hp hn hr => exact .callu ⟨d, k, a, g⟩ s f n x ys as ps ty es xs zs hk hw ha hx ho hy hp hn hr
  | calli f d' n x ys as ps ty es xs zs hk hd _ ha hx ho hy hp hn hr hf => exact .calli ⟨d, k, a, g⟩ s f d' n x ys as ps ty es xs zs hk hd hw ha hx ho hy hp hn hr hf

variable {l : List (Nat × T)} {m : List (Nat × Option Own)} {g : Option (Nat × Bool)} {d : Nat}

/-- The guard holds. -/
theorem r_do {d : Option Nat} {k : Kd} {a : List Opd} {n : Nat} {b c : Bool} (hn : tl l n = .p (.v (.bool c))) (hc : c = b) (h : RunR P Q ks (⟨d, k, a, none⟩ :: rs) (S l m)) : RunR P Q ks (⟨d, k, a, some (n, b)⟩ :: rs) (S l m) := by
  obtain ⟨s', h1, h2⟩ := (h).out
  cases h1 with
  | cons h t => exact ⟨⟨s', .cons (h.reguard (by simp only [St.want, S, hn, boolOf, hc]; simp)) t, h2⟩⟩
/-- The guard fails. -/
theorem r_skip {k : Kd} {a : List Opd} {n : Nat} {b c : Bool} (hn : tl l n = .p (.v (.bool c))) (hc : c = !b) (h : RunR P Q ks rs (S ((d, .p (.v undef)) :: l) m)) : RunR P Q ks (⟨some d, k, a, some (n, b)⟩ :: rs) (S l m) := by
  refine r_cons ?_ h
  have := Step1.skip (P := P) ⟨some d, k, a, some (n, b)⟩ (S l m) (by simp only [St.want, S, hn, boolOf, hc]; cases b <;> rfl)
  simpa only [putT, upd_tl] using this
theorem r_skip0 {k : Kd} {a : List Opd} {n : Nat} {b c : Bool} (hn : tl l n = .p (.v (.bool c))) (hc : c = !b) (h : RunR P Q ks rs (S l m)) : RunR P Q ks (⟨none, k, a, some (n, b)⟩ :: rs) (S l m) := by
  refine r_cons ?_ h
  exact Step1.skip (P := P) ⟨none, k, a, some (n, b)⟩ (S l m) (by simp only [St.want, S, hn, boolOf, hc]; cases b <;> rfl)
/-- The guard was itself skipped. -/
theorem r_skipU {k : Kd} {a : List Opd} {n : Nat} {b : Bool} (hn : tl l n = .p (.v undef)) (h : RunR P Q ks rs (S ((d, .p (.v undef)) :: l) m)) : RunR P Q ks (⟨some d, k, a, some (n, b)⟩ :: rs) (S l m) := by
  refine r_cons ?_ h
  have := Step1.skip (P := P) ⟨some d, k, a, some (n, b)⟩ (S l m) (by simp only [St.want, S, hn]; rfl)
  simpa only [putT, upd_tl] using this
theorem r_skipU0 {k : Kd} {a : List Opd} {n : Nat} {b : Bool} (hn : tl l n = .p (.v undef)) (h : RunR P Q ks rs (S l m)) : RunR P Q ks (⟨none, k, a, some (n, b)⟩ :: rs) (S l m) := by
  refine r_cons ?_ h
  exact Step1.skip (P := P) ⟨none, k, a, some (n, b)⟩ (S l m) (by simp only [St.want, S, hn]; rfl)
/-- Either. -/
theorem r_split {d : Option Nat} {k : Kd} {a : List Opd} {n : Nat} {b c : Bool} (hn : tl l n = .p (.v (.bool c))) (h1 : c = true → RunR P Q ks (⟨d, k, a, some (n, b)⟩ :: rs) (S l m)) (h2 : c = false → RunR P Q ks (⟨d, k, a, some (n, b)⟩ :: rs) (S l m)) : RunR P Q ks (⟨d, k, a, some (n, b)⟩ :: rs) (S l m) := by
  cases c with
  | true => exact h1 rfl
  | false => exact h2 rfl

/-! ### Operations -/
/-- Whatever yields a frozen value by reckoning alone. -/
theorem r_sem {k : Kd} {a : List Opd} {as : List RA} {p : PV} (hk : k.solo = false) (ha : (S l m).resL a = some as) (he : sem k d as = some { v := .p p }) (hc : (match k with | .call _ | .callv => false | _ => true) = true) (h : RunR P Q ks rs (S ((d, .p p) :: l) m)) :
    RunR P Q ks (⟨some d, k, a, none⟩ :: rs) (S l m) := by
  refine r_cons ?_ h
  have hs : SemA P k d as { v := .p p } := by cases k <;> first | exact he | (cases hc)
  have := Step1.plain (P := P) ⟨some d, k, a, none⟩ (S l m) as { v := .p p } hk rfl ha hs (fun h => by cases h)
  simpa only [St.eff, putT, newO, frzO_nil, upd_tl] using this
/-- A move of what is no frozen value. -/
theorem lookT_toT {o : Nat → Option Own} {t : T} {a : RA} (h : lookT o t = some a) : a.toT = t := by
  cases t with
  | p x => cases h; rfl
  | nil => cases h; rfl
  | own n off => simp only [lookT] at h; split at h <;> cases h; rfl
  | row n l =>
    simp only [lookT] at h
    split at h
    · split at h <;> cases h; rfl
    · cases h
  | rp n es i off =>
    simp only [lookT] at h
    split at h
    · split at h
      · simp only [Option.map_eq_some_iff] at h; obtain ⟨c, _, rfl⟩ := h; rfl
      · cases h
    · cases h
  | mp n => simp only [lookT] at h; split at h <;> cases h; rfl
theorem r_mv {x : Opd} {t : T} (hx : (S l m).ev x = t) (ho : (lookT (ol m) t).isSome = true) (h : RunR P Q ks rs (S ((d, t) :: l) m)) : RunR P Q ks (⟨some d, .mv, [x], none⟩ :: rs) (S l m) := by
  refine r_cons ?_ h
  obtain ⟨a, ha⟩ := Option.isSome_iff_exists.1 ho
  have hr : (S l m).res x = some a := by unfold St.res; rw [hx]; exact ha
  have := Step1.plain (P := P) ⟨some d, .mv, [x], none⟩ (S l m) [a] { v := a.toT } rfl rfl (by simp only [St.resL, hr]; rfl) rfl (fun h => by cases h)
  simpa only [St.eff, putT, newO, frzO_nil, upd_tl, lookT_toT ha] using this
theorem r_mv_p {x : Opd} {p : PV} (hx : (S l m).ev x = .p p) (h : RunR P Q ks rs (S ((d, .p p) :: l) m)) : RunR P Q ks (⟨some d, .mv, [x], none⟩ :: rs) (S l m) := r_mv hx rfl h
theorem r_mv_nil {x : Opd} (hx : (S l m).ev x = .nil) (h : RunR P Q ks rs (S ((d, .nil) :: l) m)) : RunR P Q ks (⟨some d, .mv, [x], none⟩ :: rs) (S l m) := r_mv hx rfl h
theorem r_mv_own {x : Opd} {n off : Nat} (hx : (S l m).ev x = .own n off) (ho : (lookT (ol m) (.own n off)).isSome = true) (h : RunR P Q ks rs (S ((d, .own n off) :: l) m)) : RunR P Q ks (⟨some d, .mv, [x], none⟩ :: rs) (S l m) := r_mv hx ho h
theorem r_mv_mp {x : Opd} {n : Nat} (hx : (S l m).ev x = .mp n) (ho : (lookT (ol m) (.mp n)).isSome = true) (h : RunR P Q ks rs (S ((d, .mp n) :: l) m)) : RunR P Q ks (⟨some d, .mv, [x], none⟩ :: rs) (S l m) := r_mv hx ho h
theorem r_mv_row {x : Opd} {n len ty es : Nat} {xs : List (List PV)} {fz : Bool} (hx : (S l m).ev x = .row n len) (ho : ol m n = some (.row ty es xs fz)) (hl : len ≤ xs.length) (h : RunR P Q ks rs (S ((d, .row n len) :: l) m)) : RunR P Q ks (⟨some d, .mv, [x], none⟩ :: rs) (S l m) :=
  r_mv hx (by simp only [lookT, ho, if_pos hl]; rfl) h
theorem r_mv_rp {x : Opd} {n es i off : Nat} {ty : Nat} {xs : List (List PV)} {fz : Bool} (hx : (S l m).ev x = .rp n es i off) (ho : ol m n = some (.row ty es xs fz)) (hl : i < xs.length) (h : RunR P Q ks rs (S ((d, .rp n es i off) :: l) m)) : RunR P Q ks (⟨some d, .mv, [x], none⟩ :: rs) (S l m) :=
  r_mv hx (by simp [lookT, ho, hl]) h
theorem r_pick {x y z : Opd} {c : Bool} {t u : T} (hx : (S l m).ev x = .p (.v (.bool c))) (hy : (S l m).ev y = t) (hyo : (lookT (ol m) t).isSome = true) (hz : (S l m).ev z = u) (hzo : (lookT (ol m) u).isSome = true)
    (h : RunR P Q ks rs (S ((d, if c then t else u) :: l) m)) : RunR P Q ks (⟨some d, .pick, [x, y, z], none⟩ :: rs) (S l m) := by
  refine r_cons ?_ h
  obtain ⟨a, ha⟩ := Option.isSome_iff_exists.1 hyo
  obtain ⟨b, hb⟩ := Option.isSome_iff_exists.1 hzo
  have hr : (S l m).resL [x, y, z] = some [.p (.v (.bool c)), a, b] := by
    simp only [St.resL, St.res, hx, hy, hz]
    rw [show lookT (S l m).o t = some a from ha, show lookT (S l m).o u = some b from hb]
    rfl
  have := Step1.plain (P := P) ⟨some d, .pick, [x, y, z], none⟩ (S l m) _ { v := if c then a.toT else b.toT } rfl rfl hr rfl (fun h => by cases h)
  simpa only [St.eff, putT, newO, frzO_nil, upd_tl, lookT_toT ha, lookT_toT hb] using this
theorem r_pick_t {x y z : Opd} {c : Bool} {t u : PV} (hx : (S l m).ev x = .p (.v (.bool c))) (hc : c = true) (hy : (S l m).ev y = .p t) (hz : (S l m).ev z = .p u) (h : RunR P Q ks rs (S ((d, .p t) :: l) m)) : RunR P Q ks (⟨some d, .pick, [x, y, z], none⟩ :: rs) (S l m) :=
  r_pick hx hy rfl hz rfl (by rw [if_pos hc]; exact h)
theorem r_pick_f {x y z : Opd} {c : Bool} {t u : PV} (hx : (S l m).ev x = .p (.v (.bool c))) (hc : c = false) (hy : (S l m).ev y = .p t) (hz : (S l m).ev z = .p u) (h : RunR P Q ks rs (S ((d, .p u) :: l) m)) : RunR P Q ks (⟨some d, .pick, [x, y, z], none⟩ :: rs) (S l m) :=
  r_pick hx hy rfl hz rfl (by rw [if_neg (by simp [hc])]; exact h)

theorem r_fad {x : Opd} {n off o : Nat} {cells : List PV} {fz : Bool} (hx : (S l m).ev x = .own n o) (ho : ol m n = some (.box cells fz)) (h : RunR P Q ks rs (S ((d, .own n (o + off)) :: l) m)) : RunR P Q ks (⟨some d, .fad off, [x], none⟩ :: rs) (S l m) := by
  refine r_cons ?_ h
  have hr : (S l m).resL [x] = some [.own n o cells] := by
    simp only [St.resL, St.res, hx, lookT]
    rw [ho]; rfl
  have := Step1.plain (P := P) ⟨some d, .fad off, [x], none⟩ (S l m) _ { v := .own n (o + off) } rfl rfl hr rfl (fun h => by cases h)
  simpa only [St.eff, putT, newO, frzO_nil, upd_tl] using this
theorem r_fad_rp {x : Opd} {n es i off o ty : Nat} {xs : List (List PV)} {fz : Bool} (hx : (S l m).ev x = .rp n es i o) (ho : ol m n = some (.row ty es xs fz)) (hi : i < xs.length) (h : RunR P Q ks rs (S ((d, .rp n es i (o + off)) :: l) m)) : RunR P Q ks (⟨some d, .fad off, [x], none⟩ :: rs) (S l m) := by
  refine r_cons ?_ h
  have hr : (S l m).resL [x] = some [.rp n es i o xs[i]] := by
    simp only [St.resL, St.res, hx, lookT]
    rw [ho]; simp [hi]
  have := Step1.plain (P := P) ⟨some d, .fad off, [x], none⟩ (S l m) _ { v := .rp n es i (o + off) } rfl rfl hr rfl (fun h => by cases h)
  simpa only [St.eff, putT, newO, frzO_nil, upd_tl] using this

theorem r_new {k : Kd} {a : List Opd} {as : List RA} {t : T} {x : Own} (hk : k.solo = false) (ha : (S l m).resL a = some as) (he : sem k d as = some { v := t, new := some x }) (hc : (match k with | .call _ | .callv => false | _ => true) = true) (hf : freshB d l = true)
    (h : RunR P Q ks rs (S ((d, t) :: l) ((d, some x) :: m))) : RunR P Q ks (⟨some d, k, a, none⟩ :: rs) (S l m) := by
  refine r_cons ?_ h
  have hs : SemA P k d as { v := t, new := some x } := by cases k <;> first | exact he | (cases hc)
  have := Step1.plain (P := P) ⟨some d, k, a, none⟩ (S l m) as _ hk rfl ha hs (fun _ => ⟨d, rfl, fresh_S hf⟩)
  simpa only [St.eff, putT, newO, frzO_nil, upd_tl, upd_ol] using this
theorem r_alloc {z : List PV} (hf : freshB d l = true) (h : RunR P Q ks rs (S ((d, .own d 0) :: l) ((d, some (.box z false)) :: m))) : RunR P Q ks (⟨some d, .alloc z, [], none⟩ :: rs) (S l m) :=
  r_new (as := []) rfl rfl rfl rfl hf h
theorem r_mkmap {kt et : Nat} (hf : freshB d l = true) (h : RunR P Q ks rs (S ((d, .mp d) :: l) ((d, some (.mp kt et [])) :: m))) : RunR P Q ks (⟨some d, .mkmap kt et, [], none⟩ :: rs) (S l m) :=
  r_new (as := []) rfl rfl rfl rfl hf h
theorem r_box {x : Opd} {p : PV} {cs : List PV} (hx : (S l m).ev x = .p p) (hc : p.cells = some cs) (hf : freshB d l = true) (h : RunR P Q ks rs (S ((d, .own d 0) :: l) ((d, some (.box cs false)) :: m))) : RunR P Q ks (⟨some d, .box, [x], none⟩ :: rs) (S l m) :=
  r_new (as := [.p p]) rfl (by simp only [St.resL, St.res, hx, lookT]; rfl) (by simp only [sem, RA.pv, Option.bind_some, hc, Option.map_some, RA.frz]) rfl hf h
theorem r_bsl {ty es n : Nat} {z : List PV} {ix : List Nat} {a : List Opd} {as : List RA} {ps : List PV} {xs : List (List PV)} (ha : (S l m).resL a = some as) (hp : pvs as = some ps) (hfz : frzs as = []) (hl : ps.length = ix.length) (hx : fillX es (List.replicate n z) (ix.zip ps) = some xs) (hf : freshB d l = true)
    (h : RunR P Q ks rs (S ((d, .row d n) :: l) ((d, some (.row ty es xs false)) :: m))) : RunR P Q ks (⟨some d, .bsl ty es n z ix, a, none⟩ :: rs) (S l m) :=
  r_new rfl ha (by simp only [sem, hp, Option.bind_some, hl, if_true, hx, Option.map_some, hfz]) rfl hf h
/-- A slice literal of one element. -/
theorem r_bsl1 {ty es : Nat} {z : List PV} {x : Opd} {cs : List PV} (hx : (S l m).ev x = .p (.agg cs)) (hl : cs.length = es) (hf : freshB d l = true)
    (h : RunR P Q ks rs (S ((d, .row d 1) :: l) ((d, some (.row ty es [cs] false)) :: m))) : RunR P Q ks (⟨some d, .bsl ty es 1 z [0], [x], none⟩ :: rs) (S l m) :=
  r_bsl (as := [.p (.agg cs)]) (ps := [.agg cs]) (by simp only [St.resL, St.res, hx, lookT]; rfl) rfl rfl rfl (by simp [fillX, PV.cells, hl]) hf h
theorem r_mks {ty es bytes : Nat} {z : List PV} {x y : Opd} {i j : Int} (hx : (S l m).ev x = .p (.v (.int .i64 i))) (hy : (S l m).ev y = .p (.v (.int .i64 j))) (hc : 0 ≤ i ∧ i ≤ j ∧ j * bytes ≤ 140737488355328) (hf : freshB d l = true)
    (h : RunR P Q ks rs (S ((d, .row d i.toNat) :: l) ((d, some (.row ty es (List.replicate i.toNat z) false)) :: m))) : RunR P Q ks (⟨some d, .mks ty es bytes z, [x, y], none⟩ :: rs) (S l m) :=
  r_new (as := [.p (.v (.int .i64 i)), .p (.v (.int .i64 j))]) rfl (by simp only [St.resL, St.res, hx, hy, lookT]; rfl) (by simp only [sem, hc, and_self, if_true]) rfl hf h

theorem r_iad {es : Nat} {x y : Opd} {xs sp : List (List PV)} {k : IntKind} {j : Int} {c : List PV} (hx : (S l m).ev x = .p (.sl xs sp)) (hy : (S l m).ev y = .p (.v (.int k j))) (h0 : 0 ≤ j) (hc : xs[j.toNat]? = some c) (hl : c.length = es) (h : RunR P Q ks rs (S ((d, .p (.ref c 0)) :: l) m)) :
    RunR P Q ks (⟨some d, .iad es, [x, y], none⟩ :: rs) (S l m) :=
  r_sem (as := [.p (.sl xs sp), .p (.v (.int k j))]) rfl (by simp only [St.resL, St.res, hx, hy, lookT]; rfl) (by simp only [sem, h0, if_true, hc, Option.bind_some, hl]) rfl h
theorem r_iad_row {es n len ty : Nat} {x y : Opd} {xs : List (List PV)} {fz : Bool} {k : IntKind} {j : Int} (hx : (S l m).ev x = .row n len) (ho : ol m n = some (.row ty es xs fz)) (hle : len ≤ xs.length) (hy : (S l m).ev y = .p (.v (.int k j))) (h0 : 0 ≤ j ∧ j < len) (h : RunR P Q ks rs (S ((d, .rp n es j.toNat 0) :: l) m)) :
    RunR P Q ks (⟨some d, .iad es, [x, y], none⟩ :: rs) (S l m) := by
  refine r_cons ?_ h
  have hr : (S l m).resL [x, y] = some [.row n len es xs, .p (.v (.int k j))] := by
    simp only [St.resL, St.res, hx, hy, lookT]
    rw [ho]; simp [hle]
  have := Step1.plain (P := P) ⟨some d, .iad es, [x, y], none⟩ (S l m) _ { v := .rp n es j.toNat 0 } rfl rfl hr (by simp [SemA, sem, h0]) (fun h => by cases h)
  simpa only [St.eff, putT, newO, frzO_nil, upd_tl] using this
theorem r_load_rp {sz es n i off ty : Nat} {ag : Bool} {x : Opd} {xs : List (List PV)} {fz : Bool} {c : List PV} {p : PV} (hx : (S l m).ev x = .rp n es i off) (ho : ol m n = some (.row ty es xs fz)) (hc : xs[i]? = some c) (hp : ldv c off sz ag = some p) (h : RunR P Q ks rs (S ((d, .p p) :: l) m)) :
    RunR P Q ks (⟨some d, .load sz ag, [x], none⟩ :: rs) (S l m) := by
  refine r_cons ?_ h
  have hr : (S l m).resL [x] = some [.rp n es i off c] := by
    simp only [St.resL, St.res, hx, lookT]
    rw [ho]; simp [hc]
  have := Step1.plain (P := P) ⟨some d, .load sz ag, [x], none⟩ (S l m) _ { v := .p p } rfl rfl hr (by simp [SemA, sem, hp]) (fun h => by cases h)
  simpa only [St.eff, putT, newO, frzO_nil, upd_tl] using this
theorem ldv_all {c : List PV} {sz : Nat} (h : c.length = sz) : ldv c 0 sz true = some (.agg c) := by
  simp only [ldv, Nat.zero_add, h, Nat.le_refl, if_true, List.drop_zero]
  rw [List.take_of_length_le (by omega)]

/-! ### Arithmetic that stays in bounds -/
theorem r_arith {op : BinOp} {x y : Opd} {a b c : Int} (hx : (S l m).ev x = .p (.v (.int .i64 a))) (hy : (S l m).ev y = .p (.v (.int .i64 b))) (he : binV op (.int .i64 a) (.int .i64 b) = some (.int .i64 c)) (h : RunR P Q ks rs (S ((d, .p (.v (.int .i64 c))) :: l) m)) :
    RunR P Q ks (⟨some d, .bin op, [x, y], none⟩ :: rs) (S l m) :=
  r_sem (as := [.p (.v (.int .i64 a)), .p (.v (.int .i64 b))]) rfl (by simp only [St.resL, St.res, hx, hy, lookT]; rfl) (by simp only [sem, he, Option.map_some]) rfl h
theorem r_loadAll {sz : Nat} {x : Opd} {cells : List PV} (hx : (S l m).ev x = .p (.ref cells 0)) (hl : cells.length = sz) (h : RunR P Q ks rs (S ((d, .p (.agg cells)) :: l) m)) : RunR P Q ks (⟨some d, .load sz true, [x], none⟩ :: rs) (S l m) :=
  r_sem (as := [.p (.ref cells 0)]) rfl (by simp only [St.resL, St.res, hx, lookT]; rfl) (by simp only [sem, ldv_all hl, Option.map_some]) rfl h
theorem r_loadAllB {sz n : Nat} {x : Opd} {cells : List PV} {fz : Bool} (hx : (S l m).ev x = .own n 0) (ho : ol m n = some (.box cells fz)) (hl : cells.length = sz) (h : RunR P Q ks rs (S ((d, .p (.agg cells)) :: l) m)) : RunR P Q ks (⟨some d, .load sz true, [x], none⟩ :: rs) (S l m) :=
  r_sem (as := [.own n 0 cells]) rfl (by simp only [St.resL, St.res, hx, lookT]; rw [ho]; rfl) (by simp only [sem, ldv_all hl, Option.map_some]) rfl h
theorem wrap_id {n : Int} (h : -9223372036854775808 ≤ n ∧ n ≤ 9223372036854775807) : IntKind.i64.wrap n = n := by rw [IntKind.wrap_i64]; omega
theorem r_add {x y : Opd} {a b : Int} (hx : (S l m).ev x = .p (.v (.int .i64 a))) (hy : (S l m).ev y = .p (.v (.int .i64 b))) (hb : -9223372036854775808 ≤ a + b ∧ a + b ≤ 9223372036854775807) (h : RunR P Q ks rs (S ((d, .p (.v (.int .i64 (a + b)))) :: l) m)) :
    RunR P Q ks (⟨some d, .bin .add, [x, y], none⟩ :: rs) (S l m) := r_arith hx hy (by simp only [binV, if_true, wrap_id hb]) h
theorem r_sub {x y : Opd} {a b : Int} (hx : (S l m).ev x = .p (.v (.int .i64 a))) (hy : (S l m).ev y = .p (.v (.int .i64 b))) (hb : -9223372036854775808 ≤ a - b ∧ a - b ≤ 9223372036854775807) (h : RunR P Q ks rs (S ((d, .p (.v (.int .i64 (a - b)))) :: l) m)) :
    RunR P Q ks (⟨some d, .bin .sub, [x, y], none⟩ :: rs) (S l m) := r_arith hx hy (by simp only [binV, if_true, wrap_id hb]) h
theorem r_quo {x y : Opd} {a b : Int} (hx : (S l m).ev x = .p (.v (.int .i64 a))) (hy : (S l m).ev y = .p (.v (.int .i64 b))) (hb : b ≠ 0) (h : RunR P Q ks rs (S ((d, .p (.v (.int .i64 (IntKind.i64.wrap (a.tdiv b))))) :: l) m)) :
    RunR P Q ks (⟨some d, .bin .quo, [x, y], none⟩ :: rs) (S l m) := r_arith hx hy (by simp only [binV, if_true, if_neg hb]) h
theorem r_rem {x y : Opd} {a b : Int} (hx : (S l m).ev x = .p (.v (.int .i64 a))) (hy : (S l m).ev y = .p (.v (.int .i64 b))) (hb : b ≠ 0) (h : RunR P Q ks rs (S ((d, .p (.v (.int .i64 (IntKind.i64.wrap (a.tmod b))))) :: l) m)) (hw : IntKind.i64.wrap (a.tmod b) = a.tmod b) :
    RunR P Q ks (⟨some d, .bin .rem, [x, y], none⟩ :: rs) (S l m) := r_arith hx hy (by simp only [binV, if_true, if_neg hb]; rw [hw]) h

/-! ### Calls -/
def plainL (t : Nat → T) : List Opd → Option (List PV)
  | [] => some []
  | .t n :: r => match t n with | .p x => (plainL t r).map (x :: ·) | _ => none
  | .c (.p x) :: r => (plainL t r).map (x :: ·)
  | _ => none
theorem plainL_ok {s : St} : ∀ {a : List Opd} {ps : List PV}, plainL s.t a = some ps → ∃ as, s.resL a = some as ∧ pvs as = some ps ∧ frzs as = []
  | [], ps, h => by cases h; exact ⟨[], rfl, rfl, rfl⟩
  | x :: r, ps, h => by
    have key : ∀ p, s.ev x = .p p → (plainL s.t r).map (p :: ·) = some ps → ∃ as, s.resL (x :: r) = some as ∧ pvs as = some ps ∧ frzs as = [] := fun p hx h => by
      obtain ⟨qs, hq, rfl⟩ := Option.map_eq_some_iff.1 h
      obtain ⟨as, h1, h2, h3⟩ := plainL_ok hq
      refine ⟨.p p :: as, ?_, ?_, ?_⟩
      · simp only [St.resL, St.res, hx, lookT, h1]; rfl
      · simp only [pvs, RA.pv, h2]; rfl
      · simp only [frzs, List.flatMap_cons, RA.frz, List.nil_append]; exact h3
    cases x with
    | t n =>
      simp only [plainL] at h
      split at h
      · rename_i e; exact key _ e h
      · cases h
    | c y =>
      cases y with
      | p z => exact key z rfl h
      | _ => cases h
theorem r_call {f : FuncId} {a : List Opd} {ps : List PV} {r : PV} (ha : plainL (tl l) a = some ps) (hr : Ret P f ps r) (h : RunR P Q ks rs (S ((d, .p r) :: l) m)) : RunR P Q ks (⟨some d, .call f, a, none⟩ :: rs) (S l m) := by
  refine r_cons ?_ h
  obtain ⟨as, h1, h2, h3⟩ := plainL_ok (s := S l m) ha
  have := Step1.plain (P := P) ⟨some d, .call f, a, none⟩ (S l m) as { v := .p r, frz := frzs as } rfl rfl h1 ⟨ps, r, h2, hr, rfl⟩ (fun h => by cases h)
  simpa only [St.eff, putT, newO, h3, frzO_nil, upd_tl] using this
theorem r_callv {a : List Opd} {f : FuncId} {caps ps : List PV} {r : PV} (ha : plainL (tl l) a = some (.clo f caps :: ps)) (hr : Ret P f (ps ++ caps) r) (h : RunR P Q ks rs (S ((d, .p r) :: l) m)) : RunR P Q ks (⟨some d, .callv, a, none⟩ :: rs) (S l m) := by
  refine r_cons ?_ h
  obtain ⟨as, h1, h2, h3⟩ := plainL_ok (s := S l m) ha
  cases as with
  | nil => cases h2
  | cons b bs =>
    simp only [pvs, Option.bind_eq_some_iff, Option.map_eq_some_iff] at h2
    obtain ⟨q, hq, qs, hqs, he⟩ := h2
    simp only [List.cons.injEq] at he
    obtain ⟨rfl, rfl⟩ := he
    have hb : b = .p (.clo f caps) := by cases b <;> simp_all [RA.pv]
    subst hb
    have := Step1.plain (P := P) ⟨some d, .callv, a, none⟩ (S l m) _ { v := .p r, frz := frzs (.p (.clo f caps) :: bs) } rfl rfl h1 ⟨f, caps, bs, qs, r, rfl, hqs, hr, rfl⟩ (fun h => by cases h)
    simpa only [St.eff, putT, newO, h3, frzO_nil, upd_tl] using this
/-- A call that is handed own memory: it is frozen. -/
theorem r_callF {f : FuncId} {a : List Opd} {as : List RA} {ps : List PV} {r : PV} {fs : List Nat} (ha : (S l m).resL a = some as) (hp : pvs as = some ps) (hf : frzs as = fs) (hr : Ret P f ps r) (h : RunR P Q ks rs (S ((d, .p r) :: l) (frzL fs m))) : RunR P Q ks (⟨some d, .call f, a, none⟩ :: rs) (S l m) := by
  refine r_cons ?_ h
  have := Step1.plain (P := P) ⟨some d, .call f, a, none⟩ (S l m) as { v := .p r, frz := frzs as } rfl rfl ha ⟨ps, r, hp, hr, rfl⟩ (fun h => by cases h)
  simpa only [St.eff, putT, newO, hf, frzL_ok, upd_tl] using this
/-- Whatever yields a frozen value and freezes own memory. -/
theorem r_semF {k : Kd} {a : List Opd} {as : List RA} {p : PV} {fs : List Nat} (hk : k.solo = false) (ha : (S l m).resL a = some as) (he : sem k d as = some { v := .p p, frz := fs }) (hc : (match k with | .call _ | .callv => false | _ => true) = true) (h : RunR P Q ks rs (S ((d, .p p) :: l) (frzL fs m))) :
    RunR P Q ks (⟨some d, k, a, none⟩ :: rs) (S l m) := by
  refine r_cons ?_ h
  have hs : SemA P k d as { v := .p p, frz := fs } := by cases k <;> first | exact he | (cases hc)
  have := Step1.plain (P := P) ⟨some d, k, a, none⟩ (S l m) as { v := .p p, frz := fs } hk rfl ha hs (fun h => by cases h)
  simpa only [St.eff, putT, newO, frzL_ok, upd_tl] using this

/-! ### Stores -/
theorem r_store {sz : Nat} {x y : Opd} {n off : Nat} {cells cs : List PV} {p : PV} (hx : (S l m).ev x = .own n off) (ho : ol m n = some (.box cells false)) (hy : (S l m).ev y = .p p) (hc : p.cells = some cs) (hl : cs.length = sz ∧ off + sz ≤ cells.length)
    (h : RunR P Q ks rs (S l ((n, some (.box (splice cells off cs) false)) :: m))) : RunR P Q ks (⟨none, .store sz, [x, y], none⟩ :: rs) (S l m) := by
  refine r_cons ?_ h
  have := Step1.storeBox (P := P) ⟨none, .store sz, [x, y], none⟩ (S l m) sz x y n off cells cs (.p p) p rfl rfl rfl rfl hx ho (by simp only [St.res, hy, lookT]) rfl hc hl (by simp [RA.frz])
  simpa only [RA.frz, frzO_nil, upd_ol] using this
theorem r_storeAll {sz : Nat} {x y : Opd} {n : Nat} {cells cs : List PV} {p : PV} (hx : (S l m).ev x = .own n 0) (ho : ol m n = some (.box cells false)) (hy : (S l m).ev y = .p p) (hc : p.cells = some cs) (hl : cs.length = sz) (hl2 : cells.length = sz)
    (h : RunR P Q ks rs (S l ((n, some (.box cs false)) :: m))) : RunR P Q ks (⟨none, .store sz, [x, y], none⟩ :: rs) (S l m) :=
  r_store hx ho hy hc ⟨hl, by omega⟩ (by
    have : splice cells 0 cs = cs := by simp [splice, List.drop_eq_nil_of_le (show cells.length ≤ cs.length by omega)]
    rw [this]; exact h)
theorem r_store_rp {sz : Nat} {x y : Opd} {n es i off ty : Nat} {xs : List (List PV)} {c cs : List PV} {p : PV} (hx : (S l m).ev x = .rp n es i off) (ho : ol m n = some (.row ty es xs false)) (hi : xs[i]? = some c) (hy : (S l m).ev y = .p p) (hc : p.cells = some cs) (hl : cs.length = sz ∧ off + sz ≤ es)
    (h : RunR P Q ks rs (S l ((n, some (.row ty es (xs.set i (splice c off cs)) false)) :: m))) : RunR P Q ks (⟨none, .store sz, [x, y], none⟩ :: rs) (S l m) := by
  refine r_cons ?_ h
  have := Step1.storeRow (P := P) ⟨none, .store sz, [x, y], none⟩ (S l m) sz x y n es i off ty xs c cs (.p p) p rfl rfl rfl rfl hx ho hi (by simp only [St.res, hy, lookT]) rfl hc hl (by simp [RA.frz])
  simpa only [RA.frz, frzO_nil, upd_ol] using this
/-- A store of own memory: it is frozen. -/
theorem r_storeF {sz : Nat} {x y : Opd} {n off : Nat} {cells cs : List PV} {a : RA} {p : PV} {fs : List Nat} (hx : (S l m).ev x = .own n off) (ho : ol m n = some (.box cells false)) (hy : (S l m).res y = some a) (hp : a.pv = some p) (hf : a.frz = fs) (hc : p.cells = some cs) (hl : cs.length = sz ∧ off + sz ≤ cells.length) (hn : n ∉ fs)
    (h : RunR P Q ks rs (S l ((n, some (.box (splice cells off cs) false)) :: frzL fs m))) : RunR P Q ks (⟨none, .store sz, [x, y], none⟩ :: rs) (S l m) := by
  refine r_cons ?_ h
  subst hf
  have := Step1.storeBox (P := P) ⟨none, .store sz, [x, y], none⟩ (S l m) sz x y n off cells cs a p rfl rfl rfl rfl hx ho hy hp hc hl hn
  simpa only [frzL_ok, upd_ol] using this

/-! ### append -/
theorem r_appNil {ty es bytes : Nat} {x y : Opd} {a : RA} {ys sp : List (List PV)} {fs : List Nat} (hx : (S l m).ev x = .nil) (hy : (S l m).res y = some a) (hp : a.pv = some (.sl ys sp)) (hfs : a.frz = fs) (he : ∀ z ∈ ys, z.length = es) (hl : ys.length * bytes ≤ 140737488355328) (hf : freshB d l = true)
    (h : RunR P Q ks rs (S ((d, .row d ys.length) :: l) ((d, some (.row ty es ys false)) :: frzL fs m))) : RunR P Q ks (⟨some d, .app ty es bytes, [x, y], none⟩ :: rs) (S l m) := by
  refine r_cons ?_ h
  subst hfs
  have := Step1.appNil (P := P) ⟨some d, .app ty es bytes, [x, y], none⟩ (S l m) ty es bytes d x y a ys sp rfl rfl rfl rfl hx hy hp he hl (fresh_S hf)
  simpa only [frzL_ok, upd_ol, upd_tl] using this
theorem r_appRow {ty es bytes n len : Nat} {x y : Opd} {a : RA} {xs ys sp : List (List PV)} {fz : Bool} {fs : List Nat} (hx : (S l m).ev x = .row n len) (ho : ol m n = some (.row ty es xs fz)) (hlen : len = xs.length) (hy : (S l m).res y = some a) (hp : a.pv = some (.sl ys sp)) (hfs : a.frz = fs) (he : ∀ z ∈ ys, z.length = es)
    (hl : (xs.length + ys.length) * bytes ≤ 140737488355328) (hn : n ∉ fs) (hf : d = n ∨ freshB d l = true)
    (h : RunR P Q ks rs (S ((d, .row d (xs.length + ys.length)) :: killL n l) ((d, some (.row ty es (xs ++ ys) fz)) :: (n, none) :: frzL fs m))) : RunR P Q ks (⟨some d, .app ty es bytes, [x, y], none⟩ :: rs) (S l m) := by
  refine r_cons ?_ h
  subst hfs; subst hlen
  have := Step1.appRow (P := P) ⟨some d, .app ty es bytes, [x, y], none⟩ (S l m) ty es bytes d n x y a xs ys sp fz rfl rfl rfl rfl hx ho hy hp he hl hn (fun hne => fresh_S (hf.resolve_left hne))
  simpa only [frzL_ok, killL_ok, upd_ol, upd_tl] using this

/-! ### Rows handed out, or in and out -/
theorem r_calln {f : FuncId} {a : List Opd} {as : List RA} {ps : List PV} {fs : List Nat} {ty es : Nat} {zs : List (List PV)} (ha : (S l m).resL a = some as) (hp : pvs as = some ps) (hfs : frzs as = fs) (hr : RetN P f ps ty es zs) (hf : freshB d l = true)
    (h : RunR P Q ks rs (S ((d, .row d zs.length) :: l) ((d, some (.row ty es zs false)) :: frzL fs m))) : RunR P Q ks (⟨some d, .calln f, a, none⟩ :: rs) (S l m) := by
  refine r_cons ?_ h
  subst hfs
  have := Step1.calln (P := P) ⟨some d, .calln f, a, none⟩ (S l m) f d as ps ty es zs rfl rfl rfl ha hp hr (fresh_S hf)
  simpa only [frzL_ok, upd_ol, upd_tl] using this
theorem r_calli {f : FuncId} {n len : Nat} {x : Opd} {a : List Opd} {as : List RA} {ps : List PV} {fs : List Nat} {ty es : Nat} {xs zs : List (List PV)} (hx : (S l m).ev x = .row n len) (ho : ol m n = some (.row ty es xs false)) (hlen : len = xs.length) (ha : (S l m).resL a = some as) (hp : pvs as = some ps) (hfs : frzs as = fs)
    (hr : RetI P f ty es xs ps zs) (hn : n ∉ fs) (hf : d = n ∨ freshB d l = true)
    (h : RunR P Q ks rs (S ((d, .row d zs.length) :: killL n l) ((d, some (.row ty es zs false)) :: (n, none) :: frzL fs m))) : RunR P Q ks (⟨some d, .calli f, x :: a, none⟩ :: rs) (S l m) := by
  refine r_cons ?_ h
  subst hfs; subst hlen
  have := Step1.calli (P := P) ⟨some d, .calli f, x :: a, none⟩ (S l m) f d n x a as ps ty es xs zs rfl rfl rfl rfl hx ho ha hp hn hr (fun hne => fresh_S (hf.resolve_left hne))
  simpa only [frzL_ok, killL_ok, upd_ol, upd_tl] using this

/-- A call that is lent a row of the caller's own. -/
theorem r_callu {f : FuncId} {n len : Nat} {x : Opd} {a : List Opd} {as : List RA} {ps : List PV} {fs : List Nat} {ty es : Nat} {xs zs : List (List PV)} {q : PV} (hx : (S l m).ev x = .row n len) (ho : ol m n = some (.row ty es xs false)) (hlen : len = xs.length) (ha : (S l m).resL a = some as) (hp : pvs as = some ps) (hfs : frzs as = fs)
    (hr : RetU P f ty es xs ps zs q) (hn : n ∉ fs) (h : RunR P Q ks rs (S ((d, .p q) :: l) ((n, some (.row ty es zs false)) :: frzL fs m))) : RunR P Q ks (⟨some d, .callu f, x :: a, none⟩ :: rs) (S l m) := by
  refine r_cons ?_ h
  subst hfs; subst hlen
  have := Step1.callu (P := P) ⟨some d, .callu f, x :: a, none⟩ (S l m) f n x a as ps ty es xs zs rfl rfl rfl hx ho ha hp hn hr
  simpa only [frzL_ok, upd_ol, upd_tl, putT] using this

/-! ### Slices of slices -/
theorem r_slc {es : Nat} {lo hi : Bool} {x : Opd} {r : List Opd} {xs sp : List (List PV)} {rs' : List RA} {i j : Nat} (hx : (S l m).ev x = .p (.sl xs sp)) (hr : (S l m).resL r = some rs') (hb : bnds lo hi xs.length rs' = some (i, j)) (hij : i ≤ j ∧ j ≤ (xs ++ sp).length ∧ (i = 0 ∨ headLen es (xs ++ sp) = true))
    (h : RunR P Q ks rs (S ((d, .p (.sl (((xs ++ sp).take j).drop i) ((xs ++ sp).drop j))) :: l) m)) : RunR P Q ks (⟨some d, .slc es lo hi, x :: r, none⟩ :: rs) (S l m) :=
  r_sem (as := .p (.sl xs sp) :: rs') rfl (by simp only [St.resL, St.res, hx, lookT, hr]; rfl) (by simp only [sem, hb, Option.bind_some, if_pos hij]) rfl h
theorem r_slc_row {es n len es' ty : Nat} {lo hi : Bool} {x : Opd} {r : List Opd} {xs : List (List PV)} {fz : Bool} {rs' : List RA} {j : Nat} (hx : (S l m).ev x = .row n len) (ho : ol m n = some (.row ty es' xs fz)) (hle : len ≤ xs.length) (hr : (S l m).resL r = some rs') (hb : bnds lo hi len rs' = some (0, j)) (hij : j ≤ xs.length)
    (h : RunR P Q ks rs (S ((d, .row n j) :: l) m)) : RunR P Q ks (⟨some d, .slc es lo hi, x :: r, none⟩ :: rs) (S l m) := by
  refine r_cons ?_ h
  have hres : (S l m).resL (x :: r) = some (.row n len es' xs :: rs') := by
    simp only [St.resL, St.res, hx, lookT]
    rw [ho]; simp only [if_pos hle, hr]; rfl
  have := Step1.plain (P := P) ⟨some d, .slc es lo hi, x :: r, none⟩ (S l m) _ { v := .row n j } rfl rfl hres (by simp [SemA, sem, hb, hij]) (fun h => by cases h)
  simpa only [St.eff, putT, newO, frzO_nil, upd_tl] using this

/-! ### Maps -/
theorem r_look {kt kt' et : Nat} {z p : PV} {ok : Bool} {x y : Opd} {n : Nat} {k : ByteArray} {es : List (ByteArray × PV)} (hx : (S l m).ev x = .mp n) (ho : ol m n = some (.mp kt et es)) (hy : (S l m).ev y = .p (.v (.string k))) (hp : p = (match mfind k es, ok with
    | some x, true => .tup [x, .v (.bool true)]
    | some x, false => x
    | none, true => .tup [z, .v (.bool false)]
    | none, false => z)) (h : RunR P Q ks rs (S ((d, .p p) :: l) m)) : RunR P Q ks (⟨some d, .look kt z ok, [x, y], none⟩ :: rs) (S l m) := by
  refine r_sem (as := [.mp n kt et es, .p (.v (.string k))]) rfl ?_ ?_ rfl h
  · simp only [St.resL, St.res, hx, hy, lookT]; rw [ho]; rfl
  · subst hp; simp only [sem, if_true]; cases mfind k es <;> cases ok <;> rfl
theorem r_mset {kt et n : Nat} {x y z : Opd} {k : ByteArray} {p : PV} {es : List (ByteArray × PV)} (hx : (S l m).ev x = .mp n) (ho : ol m n = some (.mp kt et es)) (hy : (S l m).ev y = .p (.v (.string k))) (hz : (S l m).ev z = .p p)
    (h : RunR P Q ks rs (S l ((n, some (.mp kt et (mput k p es))) :: m))) : RunR P Q ks (⟨none, .mset kt et, [x, y, z], none⟩ :: rs) (S l m) := by
  refine r_cons ?_ h
  have := Step1.mset (P := P) ⟨none, .mset kt et, [x, y, z], none⟩ (S l m) kt et n x y z (.p p) k p [] es rfl rfl rfl rfl hx ho hy (by simp only [St.res, hz, lookT]) rfl (by simp [RA.frz])
  simpa only [RA.frz, frzO_nil, upd_ol] using this
theorem r_mdel {kt et n : Nat} {x y : Opd} {k : ByteArray} {es : List (ByteArray × PV)} (hx : (S l m).ev x = .mp n) (ho : ol m n = some (.mp kt et es)) (hy : (S l m).ev y = .p (.v (.string k)))
    (h : RunR P Q ks rs (S l ((n, some (.mp kt et (mcut k es))) :: m))) : RunR P Q ks (⟨none, .mdel kt, [x, y], none⟩ :: rs) (S l m) := by
  refine r_cons ?_ h
  have := Step1.mdel (P := P) ⟨none, .mdel kt, [x, y], none⟩ (S l m) kt et n x y k es rfl rfl rfl rfl hx ho hy
  simpa only [upd_ol] using this

/-- No list is longer than any may be. -/
def PV.bd1 : PV → Prop
  | .sl xs sp => (xs ++ sp).length ≤ maxLen
  | _ => True
def PV.bd : PV → Prop
  | .agg cs => ∀ c ∈ cs, c.bd1
  | p => p.bd1
theorem Rep.bd1 {F : Fz} {p : PV} {v : Value} (h : Rep F p v) : p.bd1 := by
  cases h with
  | sl xs sp es b off cap o ys hw hcap hm ho hl h1 hF hr => exact Nat.le_trans hcap hm
  | _ => exact trivial
theorem Rep.bd {F : Fz} {p : PV} {v : Value} (h : Rep F p v) : p.bd := by
  cases h with
  | agg cs ys hl h1 hr =>
    intro c hc
    obtain ⟨j, hj, rfl⟩ := List.mem_iff_getElem.1 hc
    exact (hr j _ (ys[j]'(by omega)) (by simp) (by simp)).bd1
  | sl xs sp es b off cap o ys hw hcap hm ho hl h1 hF hr => exact Nat.le_trans hcap hm
  | _ => exact trivial

/-- A contract, by a run. -/
theorem ret_run {f : FuncId} {fn : Func} {body : Code} {c : C} {nt : Nat} {ps : List PV} {rvs : List RV} {p : PV} (hf : P.funcs[f]? = some fn) (hb : fn.body = some body) (hname : (fn.name == "runtime.NumGoroutine") = false) (hnt : fn.ntmps = nt)
    (hr : mapO (trRes P nt) fn.results.toList = some rvs) (ht : trC P nt body = some c.base) (hdr : drC P body c = true) (h9 : Nat.ble nt LN = true) (hn : ps.length ≤ nt)
    (h : (∀ q ∈ ps, q.bd) → Run P (fun e s' => (∀ id, e ≠ .exit id) ∧ ∃ ns, s'.out rvs = some (p, ns)) [] c (S (initL 0 ps) [])) : Ret P f ps p := by
  have key : (∀ q ∈ ps, q.bd) → Ret P f ps p := fun hbd => by
    refine ret_of hf hb hname hnt hr ht hdr h9 hn ?_
    obtain ⟨e, s', h1, h2⟩ := (h hbd).out
    rw [init_eq]
    exact ⟨e, s', h1, h2⟩
  refine ⟨fun args w => ?_, fun w F ys hfin hrep => (key ?_).2 w F ys hfin hrep⟩
  · have hne : ¬ fn.name = "runtime.NumGoroutine" := by simpa using hname
    simp [callFunc, hf, hne, hb]
  · intro q hq
    obtain ⟨j, hj, rfl⟩ := List.mem_iff_getElem.1 hq
    have hl := hrep.1
    exact (hrep.2 j _ (ys[j]'(by omega)) (by simp) (by simp)).bd
/-- The same, of a function that hands out a row of its own. -/
theorem retN_run {f : FuncId} {fn : Func} {body : Code} {c : C} {nt t ty es : Nat} {ps : List PV} {zs : List (List PV)} (hf : P.funcs[f]? = some fn) (hb : fn.body = some body) (hname : (fn.name == "runtime.NumGoroutine") = false) (hnt : fn.ntmps = nt)
    (hr : fn.results = #[.tmp t]) (htn : t < nt) (ht : trC P nt body = some c.base) (hdr : drC P body c = true) (h9 : Nat.ble nt LN = true) (hn : ps.length ≤ nt)
    (h : (∀ q ∈ ps, q.bd) → Run P (fun e s' => (∀ id, e ≠ .exit id) ∧ ((s'.t t = .nil ∧ zs = []) ∨ ∃ n, s'.t t = .row n zs.length ∧ s'.o n = some (.row ty es zs false))) [] c (S (initL 0 ps) [])) : RetN P f ps ty es zs := by
  have key : (∀ q ∈ ps, q.bd) → RetN P f ps ty es zs := fun hbd => by
    refine retN_of hf hb hname hnt hr htn ht hdr h9 hn ?_
    obtain ⟨e, s', h1, h2⟩ := (h hbd).out
    rw [init_eq]
    exact ⟨e, s', h1, h2⟩
  refine ⟨fun args w => ?_, fun w F ys hfin hrep => (key ?_).2 w F ys hfin hrep⟩
  · have hne : ¬ fn.name = "runtime.NumGoroutine" := by simpa using hname
    simp [callFunc, hf, hne, hb]
  · intro q hq
    obtain ⟨j, hj, rfl⟩ := List.mem_iff_getElem.1 hq
    have hl := hrep.1
    exact (hrep.2 j _ (ys[j]'(by omega)) (by simp) (by simp)).bd
theorem initU_eq (len : Nat) (ps : List PV) (ty es : Nat) (xs : List (List PV)) : St.initU len ps ty es xs = S ((0, .row LN len) :: initL 1 ps) [(LN, some (.row ty es xs false))] := by
  simp only [St.initU, S, St.mk.injEq]
  refine ⟨?_, ?_⟩
  · funext k
    cases k with
    | zero => simp [tl]
    | succ k =>
      have := tl_initL ps 1 k
      rw [Nat.add_comm] at this
      simp only [tl]
      rw [if_neg (by omega)]
      exact this.symm
  · funext n; simp only [ol]
/-- The same, of a function that is lent a row. -/
theorem retU_run {f : FuncId} {fn : Func} {body : Code} {c : C} {nt ty es : Nat} {ps : List PV} {xs zs : List (List PV)} (hf : P.funcs[f]? = some fn) (hb : fn.body = some body) (hname : (fn.name == "runtime.NumGoroutine") = false) (hnt : fn.ntmps = nt)
    (hr : fn.results = #[]) (ht : trC P nt body = some c.base) (hdr : drC P body c = true) (h9 : Nat.ble nt LN = true) (hn : ps.length + 1 ≤ nt) (hzl : zs.length = xs.length) (hx : xs ≠ []) (hlv : ∀ p ∈ zs.flatten, ∃ x, p = .v x)
    (h : Run P (fun e s' => (∀ id, e ≠ .exit id) ∧ ∃ fz, s'.o LN = some (.row ty es zs fz)) [] c (S ((0, .row LN xs.length) :: initL 1 ps) [(LN, some (.row ty es xs false))])) : RetU P f ty es xs ps zs := by
  refine retU_of hf hb hname hnt hr ht hdr h9 hn hzl hx hlv ?_
  obtain ⟨e, s', h1, h2⟩ := h.out
  rw [initU_eq]
  exact ⟨e, s', h1, h2⟩
/-- The same, of a function that is lent a row and returns a leaf. -/
theorem retUv_run {f : FuncId} {fn : Func} {body : Code} {c : C} {nt t ty es : Nat} {ps : List PV} {xs zs : List (List PV)} {x : Value} (hf : P.funcs[f]? = some fn) (hb : fn.body = some body) (hname : (fn.name == "runtime.NumGoroutine") = false) (hnt : fn.ntmps = nt)
    (hr : fn.results = #[.tmp t]) (htn : t < nt) (ht : trC P nt body = some c.base) (hdr : drC P body c = true) (h9 : Nat.ble nt LN = true) (hn : ps.length + 1 ≤ nt) (hzl : zs.length = xs.length) (hx : xs ≠ []) (hlv : ∀ p ∈ zs.flatten, ∃ x, p = .v x)
    (h : Run P (fun e s' => (∀ id, e ≠ .exit id) ∧ ∃ fz, s'.t t = .p (.v x) ∧ s'.o LN = some (.row ty es zs fz)) [] c (S ((0, .row LN xs.length) :: initL 1 ps) [(LN, some (.row ty es xs false))])) : RetU P f ty es xs ps zs (.v x) := by
  refine retUv_of hf hb hname hnt hr htn ht hdr h9 hn hzl hx hlv ?_
  obtain ⟨e, s', h1, h2⟩ := h.out
  rw [initU_eq]
  exact ⟨e, s', h1, h2⟩
theorem fin_lentv {t ty es : Nat} {fz : Bool} {zs ws : List (List PV)} {x : Value} (h1 : s.t t = .p (.v x)) (h2 : s.o LN = some (.row ty es ws fz)) (he : ws = zs) : Fin P (fun e s' => (∀ id, e ≠ .exit id) ∧ ∃ fz, s'.t t = .p (.v x) ∧ s'.o LN = some (.row ty es zs fz)) [] .ret s :=
  ⟨⟨fun _ e => (by cases e), fz, h1, he ▸ h2⟩⟩
theorem fin_lent {ty es : Nat} {fz : Bool} {zs ws : List (List PV)} (h2 : s.o LN = some (.row ty es ws fz)) (he : ws = zs) : Fin P (fun e s' => (∀ id, e ≠ .exit id) ∧ ∃ fz, s'.o LN = some (.row ty es zs fz)) [] .n s :=
  ⟨⟨fun _ e => (by cases e), fz, he ▸ h2⟩⟩
/-- The same, of a row of leaves. -/
theorem retV_run {f : FuncId} {fn : Func} {body : Code} {c : C} {nt t ty es : Nat} {ps : List PV} {zs : List (List PV)} (hf : P.funcs[f]? = some fn) (hb : fn.body = some body) (hname : (fn.name == "runtime.NumGoroutine") = false) (hnt : fn.ntmps = nt)
    (hr : fn.results = #[.tmp t]) (htn : t < nt) (ht : trC P nt body = some c.base) (hdr : drC P body c = true) (h9 : Nat.ble nt LN = true) (hn : ps.length ≤ nt) (hl : ∀ p ∈ zs.flatten, ∃ x, p = .v x)
    (h : (∀ q ∈ ps, q.bd) → Run P (fun e s' => (∀ id, e ≠ .exit id) ∧ ∃ n fz, s'.t t = .row n zs.length ∧ s'.o n = some (.row ty es zs fz)) [] c (S (initL 0 ps) [])) : RetN P f ps ty es zs := by
  have key : (∀ q ∈ ps, q.bd) → RetN P f ps ty es zs := fun hbd => by
    refine retV_of hf hb hname hnt hr htn ht hdr h9 hn hl ?_
    obtain ⟨e, s', h1, h2⟩ := (h hbd).out
    rw [init_eq]
    exact ⟨e, s', h1, h2⟩
  refine ⟨fun args w => ?_, fun w F ys hfin hrep => (key ?_).2 w F ys hfin hrep⟩
  · have hne : ¬ fn.name = "runtime.NumGoroutine" := by simpa using hname
    simp [callFunc, hf, hne, hb]
  · intro q hq
    obtain ⟨j, hj, rfl⟩ := List.mem_iff_getElem.1 hq
    have hl := hrep.1
    exact (hrep.2 j _ (ys[j]'(by omega)) (by simp) (by simp)).bd
theorem fin_rowV {t ty es n len : Nat} {fz : Bool} {zs ws : List (List PV)} (h : s.t t = .row n len) (hl : len = zs.length) (h2 : s.o n = some (.row ty es ws fz)) (he : ws = zs) : Fin P (fun e s' => (∀ id, e ≠ .exit id) ∧ ∃ n fz, s'.t t = .row n zs.length ∧ s'.o n = some (.row ty es zs fz)) [] .ret s :=
  ⟨⟨fun _ e => (by cases e), n, fz, hl ▸ h, he ▸ h2⟩⟩
theorem r_len_row {d n len ty es : Nat} {x : Opd} {xs : List (List PV)} {fz : Bool} (hx : (S l m).ev x = .row n len) (ho : ol m n = some (.row ty es xs fz)) (hle : len ≤ xs.length)
    (h : RunR P Q ks rs (S ((d, .p (.v (.int .i64 (len : Nat)))) :: l) m)) : RunR P Q ks (⟨some d, .len 0, [x], none⟩ :: rs) (S l m) :=
  r_sem (as := [.row n len es xs]) rfl (by simp only [St.resL, St.res, hx, lookT]; rw [ho]; simp [hle]) rfl rfl h
theorem r_rem2 {d : Nat} {x y : Opd} {a b : Int} (hx : (S l m).ev x = .p (.v (.int .i64 a))) (hy : (S l m).ev y = .p (.v (.int .i64 b))) (hb : b ≠ 0)
    (h : RunR P Q ks rs (S ((d, .p (.v (.int .i64 (a.tmod b)))) :: l) m)) : RunR P Q ks (⟨some d, .bin .rem, [x, y], none⟩ :: rs) (S l m) := r_arith hx hy (by simp only [binV, if_true, if_neg hb]) h
theorem fin_row {t ty es n len : Nat} {zs ws : List (List PV)} (h : s.t t = .row n len) (hl : len = zs.length) (h2 : s.o n = some (.row ty es ws false)) (he : ws = zs) : Fin P (fun e s' => (∀ id, e ≠ .exit id) ∧ ((s'.t t = .nil ∧ zs = []) ∨ ∃ n, s'.t t = .row n zs.length ∧ s'.o n = some (.row ty es zs false))) [] .ret s :=
  ⟨⟨fun _ e => (by cases e), .inr ⟨n, hl ▸ h, he ▸ h2⟩⟩⟩
theorem fin_rowNil {t ty es : Nat} {zs : List (List PV)} (h : s.t t = .nil) (he : zs = []) : Fin P (fun e s' => (∀ id, e ≠ .exit id) ∧ ((s'.t t = .nil ∧ zs = []) ∨ ∃ n, s'.t t = .row n zs.length ∧ s'.o n = some (.row ty es zs false))) [] .ret s :=
  ⟨⟨fun _ e => (by cases e), .inl ⟨h, he⟩⟩⟩
theorem q_ret' {rvs : List RV} {p p0 : PV} {ns : List Nat} (h : s.out rvs = some (p0, ns)) (he : p0 = p) : (∀ id, Ex.ret ≠ .exit id) ∧ ∃ ns, s.out rvs = some (p, ns) := ⟨fun _ e => (by cases e), ns, he ▸ h⟩
theorem q_n' {rvs : List RV} {p p0 : PV} {ns : List Nat} (h : s.out rvs = some (p0, ns)) (he : p0 = p) : (∀ id, Ex.n ≠ .exit id) ∧ ∃ ns, s.out rvs = some (p, ns) := ⟨fun _ e => (by cases e), ns, he ▸ h⟩
theorem fin_out {rvs : List RV} {p p0 : PV} {ns : List Nat} (h : s.out rvs = some (p0, ns)) (he : p0 = p) : Fin P (fun e s' => (∀ id, e ≠ .exit id) ∧ ∃ ns, s'.out rvs = some (p, ns)) [] .ret s := ⟨⟨fun _ e => (by cases e), ns, he ▸ h⟩⟩
theorem fin_outn {rvs : List RV} {p p0 : PV} {ns : List Nat} (h : s.out rvs = some (p0, ns)) (he : p0 = p) : Fin P (fun e s' => (∀ id, e ≠ .exit id) ∧ ∃ ns, s'.out rvs = some (p, ns)) [] .n s := ⟨⟨fun _ e => (by cases e), ns, he ▸ h⟩⟩
theorem q_ret {rvs : List RV} {p : PV} {ns : List Nat} (h : s.out rvs = some (p, ns)) : (∀ id, Ex.ret ≠ .exit id) ∧ ∃ ns, s.out rvs = some (p, ns) := ⟨fun _ e => (by cases e), ns, h⟩
theorem q_n {rvs : List RV} {p : PV} {ns : List Nat} (h : s.out rvs = some (p, ns)) : (∀ id, Ex.n ≠ .exit id) ∧ ∃ ns, s.out rvs = some (p, ns) := ⟨fun _ e => (by cases e), ns, h⟩
end
end Go.Fw
