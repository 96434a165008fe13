/-
  Code of the abstract machine; what it does ('Exec'); soundness; contracts out of runs.
-/
import Derived.Test.YtikgpjnfifnilaaFwR
set_option linter.unusedVariables false
set_option linter.unusedSimpArgs false
namespace Go.Fw
open Go.RowKit

inductive C where
  | skip
  | reg (rs : List RG)
  | regd (rs : List RG)
  | regs (rs : List RG) (ps : List (Nat × Nat))
  | seq (a b : C)
  | cond (c : Opd) (a b : C)
  | block (id : Nat) (c : C)
  | loop (c : C)
  | exit (id : Nat)
  | ret

inductive Ex where
  | n
  | exit (id : Nat)
  | ret
def Ex.x : Ex → Exit
  | .n => .normal
  | .exit id => .exit id
  | .ret => .ret

def trC (P : Program) (nt : Nat) : Code → Option C
  | .skip => some .skip
  | .region _ ops draw =>
    (mapO (trOp P nt ops) ops.toList).bind fun rs =>
      if draw then some (.regd rs) else some (.reg rs)
  | .seq a b => (trC P nt a).bind fun x => (trC P nt b).map fun y => .seq x y
  | .cond c a b => (trOpd nt c).bind fun o => (trC P nt a).bind fun x => (trC P nt b).map fun y => .cond o x y
  | .block id c => (trC P nt c).map (.block id)
  | .loop c => (trC P nt c).map .loop
  | .exit id => some (.exit id)
  | .ret => some .ret
  | _ => none

/-- Drawn regions stand where they are drawn, and what is open in them makes no difference. -/
def drC (P : Program) : Code → C → Bool
  | .region _ ops true, .regd rs => P.follows .mixedOrders && drawOk ops rs
  | .region _ ops true, .regs rs ps => P.follows .mixedOrders && drawOkP ops rs ps
  | .region _ _ false, .reg _ => true
  | .seq a b, .seq x y => drC P a x && drC P b y
  | .cond _ a b, .cond _ x y => drC P a x && drC P b y
  | .block _ a, .block _ x => drC P a x
  | .loop a, .loop x => drC P a x
  | .skip, .skip => true
  | .exit _, .exit _ => true
  | .ret, .ret => true
  | _, _ => false

/-- The code in the model's own text. -/
def C.base : C → C
  | .reg rs => .reg (rs.map RG.base)
  | .regd rs => .regd (rs.map RG.base)
  | .regs rs _ => .regd (rs.map RG.base)
  | .seq a b => .seq a.base b.base
  | .cond c a b => .cond c a.base b.base
  | .block id c => .block id c.base
  | .loop c => .loop c.base
  | c => c

/-- A weaker state. -/
def Weak (s s' : St) : Prop := ∀ B w0 F0 nt a w, Inv B w0 F0 nt s a w → Inv B w0 F0 nt s' a w

inductive Exec (P : Program) : C → St → Ex → St → Prop
  | skip (s : St) : Exec P .skip s .n s
  | reg {rs : List RG} {s s' : St} (h : Steps P rs s s') : Exec P (.reg rs) s .n s'
  | regd {rs : List RG} {s s' : St} (hf : ∀ r ∈ rs, r.k.allocs = true → ∀ d, r.d = some d → s.fresh d) (h : Steps P rs s s') : Exec P (.regd rs) s .n s'
  | regs {rs : List RG} {ps : List (Nat × Nat)} {s s' : St} (hf : ∀ r ∈ rs, r.k.allocs = true → ∀ d, r.d = some d → s.fresh d) (h : Steps P rs s s') (hS : farS rs ps s' = true) : Exec P (.regs rs ps) s .n s'
  | seqN {a b : C} {s s1 s2 : St} {e : Ex} (h1 : Exec P a s .n s1) (h2 : Exec P b s1 e s2) : Exec P (.seq a b) s e s2
  | seqX {a b : C} {s s1 : St} {e : Ex} (h1 : Exec P a s e s1) (he : e ≠ .n) : Exec P (.seq a b) s e s1
  | cond {c : Opd} {a b : C} {s s1 : St} {e : Ex} {t : Bool} (hc : s.ev c = .p (.v (.bool t))) (h : Exec P (if t then a else b) s e s1) : Exec P (.cond c a b) s e s1
  | blkN {id : Nat} {c : C} {s s1 : St} (h : Exec P c s .n s1) : Exec P (.block id c) s .n s1
  | blkE {id : Nat} {c : C} {s s1 : St} (h : Exec P c s (.exit id) s1) : Exec P (.block id c) s .n s1
  | blkX {id id' : Nat} {c : C} {s s1 : St} (h : Exec P c s (.exit id') s1) (hne : id' ≠ id) : Exec P (.block id c) s (.exit id') s1
  | blkR {id : Nat} {c : C} {s s1 : St} (h : Exec P c s .ret s1) : Exec P (.block id c) s .ret s1
  | loopN {c : C} {s s1 s2 : St} {e : Ex} (h1 : Exec P c s .n s1) (h2 : Exec P (.loop c) s1 e s2) : Exec P (.loop c) s e s2
  | loopX {c : C} {s s1 : St} {e : Ex} (h1 : Exec P c s e s1) (he : e ≠ .n) : Exec P (.loop c) s e s1
  | exit (id : Nat) (s : St) : Exec P (.exit id) s (.exit id) s
  | ret (s : St) : Exec P .ret s .ret s
  | weak {c : C} {s s1 s2 : St} {e : Ex} (hw : Weak s s1) (h : Exec P c s1 e s2) : Exec P c s e s2

/-- The loop, entered at its body. -/
def LoopWp (P : Program) (c : Code) (Q : Exit → Act → World → Prop) (a : Act) (w : World) : Prop :=
  ∀ (b : Frame) (k : List Item) (cs : List Frame), ∃ e a' w', Q e a' w' ∧ Arrives P (lone (b.at a (.code c :: .inLoop c :: k)) cs w) b k cs e a' w'

theorem LoopWp.round {P : Program} {c : Code} {Q : Exit → Act → World → Prop} {a : Act} {w : World} (h : c.wp P (Exit.then (LoopWp P c Q) Q) a w) : LoopWp P c Q a w := by
  intro b k cs
  obtain ⟨e, a1, w1, hq, harr⟩ := h b (.inLoop c :: k) cs
  cases e with
  | normal =>
    obtain ⟨e2, a2, w2, hq2, harr2⟩ := hq b k cs
    exact ⟨e2, a2, w2, hq2, .of_steps (Steps.trans harr (.one step_inLoop)) harr2⟩
  | exit id => exact ⟨_, a1, w1, hq, .pass (x := .inLoop c) rfl (fun _ _ => .inl (by simp)) harr⟩
  | goto l => exact ⟨_, a1, w1, hq, .pass (x := .inLoop c) rfl (fun _ _ => .inl (by simp)) harr⟩
  | ret => exact ⟨_, a1, w1, hq, .pass (x := .inLoop c) rfl (fun _ _ => .inl (by simp)) harr⟩
  | panic ch => exact ⟨_, a1, w1, hq, .pass (x := .inLoop c) rfl (fun _ _ => .inl (by simp)) harr⟩
  | outgrown => exact ⟨_, a1, w1, hq, .pass (x := .inLoop c) rfl (fun _ _ => .inl (by simp)) harr⟩
theorem LoopWp.loop {P : Program} {c : Code} {Q : Exit → Act → World → Prop} {a : Act} {w : World} (h : LoopWp P c Q a w) : (Code.loop c).wp P Q a w := by
  intro b k cs
  obtain ⟨e, a', w', hq, harr⟩ := h b k cs
  exact ⟨e, a', w', hq, .of_steps (.one step_loop) harr⟩

theorem trs_of0 {P : Program} {nt : Nat} {ops : Array Oper} {rs : List RG} (h : mapO (trOp P nt ops) ops.toList = some rs) : rs.length = ops.size ∧ ∀ (i : Nat) (o : Oper), ops[i]? = some o → ∃ r : RG, rs[i]? = some r ∧ trOp P nt ops o = some r := by
  have key : ∀ {l : List Oper} {rs : List RG}, mapO (trOp P nt ops) l = some rs → rs.length = l.length ∧ ∀ (i : Nat) (o : Oper), l[i]? = some o → ∃ r : RG, rs[i]? = some r ∧ trOp P nt ops o = some r := by
    intro l
    induction l with
    | nil => intro rs h; cases h; exact ⟨rfl, fun i o h => by simp at h⟩
    | cons o l ih =>
      intro rs h
      simp only [mapO, Option.bind_eq_some_iff, Option.map_eq_some_iff] at h
      obtain ⟨r, hr, rs', hrs, rfl⟩ := h
      obtain ⟨h1, h2⟩ := ih hrs
      refine ⟨by simp [h1], fun i o' ho => ?_⟩
      cases i with
      | zero => simp at ho; subst ho; exact ⟨r, rfl, hr⟩
      | succ i => exact h2 i o' (by simpa using ho)
  obtain ⟨h1, h2⟩ := key h
  exact ⟨by simpa using h1, fun i o ho => h2 i o (by simpa using ho)⟩

theorem trs_of {P : Program} {nt : Nat} {ops : Array Oper} {rs : List RG} (h : mapO (trOp P nt ops) ops.toList = some (rs.map RG.base)) : Trs P nt ops rs := by
  obtain ⟨h1, h2⟩ := trs_of0 h
  refine ⟨by simpa using h1, fun i o ho => ?_⟩
  obtain ⟨r, hr, ht⟩ := h2 i o ho
  rw [List.getElem?_map, Option.map_eq_some_iff] at hr
  obtain ⟨r', hr', rfl⟩ := hr
  exact ⟨r', hr', ht⟩
theorem trs_of1 {P : Program} {nt : Nat} {ops : Array Oper} {rs : List RG} (h : mapO (trOp P nt ops) ops.toList = some rs) : Trs P nt ops rs := by
  obtain ⟨h1, h2⟩ := trs_of0 h
  refine ⟨h1, fun i o ho => ?_⟩
  obtain ⟨r, hr, ht⟩ := h2 i o ho
  exact ⟨r, hr, trOp_base ht⟩

theorem exec_sound {P : Program} {nt : Nat} {c : C} {s s' : St} {e : Ex} (h : Exec P c s e s') :
    (∀ code, trC P nt code = some c.base → drC P code c = true → ∀ {B : Nat} {w0 : World} {F0 : Fz} {a : Act} {w : World}, Inv B w0 F0 nt s a w → ∀ Q : Exit → Act → World → Prop, (∀ a w, Inv B w0 F0 nt s' a w → Q e.x a w) → code.wp P Q a w) ∧
    (∀ c', c = .loop c' → ∀ body, trC P nt body = some c'.base → drC P body c' = true → ∀ {B : Nat} {w0 : World} {F0 : Fz} {a : Act} {w : World}, Inv B w0 F0 nt s a w → ∀ Q : Exit → Act → World → Prop, (∀ a w, Inv B w0 F0 nt s' a w → Q e.x a w) → LoopWp P body Q a w) := by
  have inv0 : ∀ {code : Code} {c : C}, trC P nt code = some c →
      (c = .skip → code = .skip) ∧ (∀ rs, c = .reg rs → ∃ id ops, code = .region id ops false ∧ mapO (trOp P nt ops) ops.toList = some rs) ∧
      (∀ rs, c = .regd rs → ∃ id ops, code = .region id ops true ∧ mapO (trOp P nt ops) ops.toList = some rs) ∧
      (∀ x y, c = .seq x y → ∃ a b, code = .seq a b ∧ trC P nt a = some x ∧ trC P nt b = some y) ∧
      (∀ o x y, c = .cond o x y → ∃ o' a b, code = .cond o' a b ∧ trOpd nt o' = some o ∧ trC P nt a = some x ∧ trC P nt b = some y) ∧
      (∀ id x, c = .block id x → ∃ a, code = .block id a ∧ trC P nt a = some x) ∧
      (∀ x, c = .loop x → ∃ a, code = .loop a ∧ trC P nt a = some x) ∧
      (∀ id, c = .exit id → code = .exit id) ∧ (c = .ret → code = .ret) := by
    intro code c h
    cases code <;> simp only [trC, Option.bind_eq_some_iff, Option.map_eq_some_iff] at h <;> try (cases h; done)
    case skip => cases h; simp
    case region id ops draw =>
      obtain ⟨rs, hrs, h⟩ := h
      cases draw
      · simp at h; subst h; simp; exact ⟨_, _, ⟨rfl, rfl⟩, hrs⟩
      · simp at h; subst h; simp; exact ⟨_, _, ⟨rfl, rfl⟩, hrs⟩
    case seq a b => obtain ⟨x, hx, y, hy, rfl⟩ := h; simp; exact ⟨_, _, ⟨rfl, rfl⟩, hx, hy⟩
    case cond o a b => obtain ⟨o', ho, x, hx, y, hy, rfl⟩ := h; simp; exact ⟨_, _, _, ⟨rfl, rfl, rfl⟩, ho, hx, hy⟩
    case block id a => obtain ⟨x, hx, rfl⟩ := h; simp [hx]
    case loop a => obtain ⟨x, hx, rfl⟩ := h; simp [hx]
    case exit id => cases h; simp
    case ret => cases h; simp
  have inv : ∀ {code : Code} {c : C}, trC P nt code = some c.base → drC P code c = true →
      (c = .skip → code = .skip) ∧ (∀ rs, c = .reg rs → ∃ id ops, code = .region id ops false ∧ Trs P nt ops rs) ∧
      (∀ rs, c = .regd rs → ∃ id ops, code = .region id ops true ∧ Trs P nt ops rs ∧ P.follows .mixedOrders = true ∧ drawOk ops rs = true) ∧
      (∀ x y, c = .seq x y → ∃ a b, code = .seq a b ∧ (trC P nt a = some x.base ∧ drC P a x = true) ∧ trC P nt b = some y.base ∧ drC P b y = true) ∧
      (∀ o x y, c = .cond o x y → ∃ o' a b, code = .cond o' a b ∧ trOpd nt o' = some o ∧ (trC P nt a = some x.base ∧ drC P a x = true) ∧ trC P nt b = some y.base ∧ drC P b y = true) ∧
      (∀ id x, c = .block id x → ∃ a, code = .block id a ∧ trC P nt a = some x.base ∧ drC P a x = true) ∧
      (∀ x, c = .loop x → ∃ a, code = .loop a ∧ trC P nt a = some x.base ∧ drC P a x = true) ∧
      (∀ id, c = .exit id → code = .exit id) ∧ (c = .ret → code = .ret) ∧
      (∀ rs ps, c = .regs rs ps → ∃ id ops, code = .region id ops true ∧ Trs P nt ops rs ∧ P.follows .mixedOrders = true ∧ drawOkP ops rs ps = true) := by
    intro code c h hd
    have g := inv0 h
    refine ⟨?_, ?_, ?_, ?_, ?_, ?_, ?_, ?_, ?_, ?_⟩
    · rintro rfl; exact g.1 rfl
    · rintro rs rfl; obtain ⟨id, ops, h1, h2⟩ := g.2.1 _ rfl; exact ⟨id, ops, h1, trs_of h2⟩
    · rintro rs rfl
      obtain ⟨id, ops, rfl, h2⟩ := g.2.2.1 _ rfl
      simp only [drC, Bool.and_eq_true] at hd
      exact ⟨id, ops, rfl, trs_of h2, hd⟩
    · rintro x y rfl
      obtain ⟨a, b, rfl, h1, h2⟩ := g.2.2.2.1 _ _ rfl
      simp only [drC, Bool.and_eq_true] at hd
      exact ⟨a, b, rfl, ⟨h1, hd.1⟩, h2, hd.2⟩
    · rintro o x y rfl
      obtain ⟨o', a, b, rfl, ho, h1, h2⟩ := g.2.2.2.2.1 _ _ _ rfl
      simp only [drC, Bool.and_eq_true] at hd
      exact ⟨o', a, b, rfl, ho, ⟨h1, hd.1⟩, h2, hd.2⟩
    · rintro id x rfl
      obtain ⟨a, rfl, h1⟩ := g.2.2.2.2.2.1 _ _ rfl
      exact ⟨a, rfl, h1, by simpa only [drC] using hd⟩
    · rintro x rfl
      obtain ⟨a, rfl, h1⟩ := g.2.2.2.2.2.2.1 _ rfl
      exact ⟨a, rfl, h1, by simpa only [drC] using hd⟩
    · rintro id rfl; exact g.2.2.2.2.2.2.2.1 _ rfl
    · rintro rfl; exact g.2.2.2.2.2.2.2.2 rfl
    · rintro rs ps rfl
      obtain ⟨id, ops, rfl, h2⟩ := g.2.2.1 _ rfl
      simp only [drC, Bool.and_eq_true] at hd
      exact ⟨id, ops, rfl, trs_of h2, hd⟩
  have noloop : ∀ {c c' : C} {X : Prop}, (∀ x, c ≠ .loop x) → c = .loop c' → X := fun h e => absurd e (h _)
  induction h with
  | skip s =>
    refine ⟨fun code ht hd B w0 F0 a w hi Q hq => ?_, fun c' e => noloop (by simp) e⟩
    obtain rfl := (inv ht hd).1 rfl
    exact wp_skip (hq _ _ hi)
  | reg h =>
    refine ⟨fun code ht hd B w0 F0 a w hi Q hq => ?_, fun c' e => noloop (by simp) e⟩
    obtain ⟨id, ops, rfl, htr⟩ := (inv ht hd).2.1 _ rfl
    exact region_seq htr h hi hq
  | regd hf h =>
    refine ⟨fun code ht hd B w0 F0 a w hi Q hq => ?_, fun c' e => noloop (by simp) e⟩
    obtain ⟨id, ops, rfl, htr, hm, hok⟩ := (inv ht hd).2.2.1 _ rfl
    exact region_draw hm htr hok hf h hi hq
  | regs hf h hS =>
    refine ⟨fun code ht hd B w0 F0 a w hi Q hq => ?_, fun c' e => noloop (by simp) e⟩
    obtain ⟨id, ops, rfl, htr, hm, hok⟩ := (inv ht hd).2.2.2.2.2.2.2.2.2 _ _ rfl
    exact region_drawP hm htr hok hS hf h hi hq
  | seqN h1 h2 ih1 ih2 =>
    refine ⟨fun code ht hd B w0 F0 a w hi Q hq => ?_, fun c' e => noloop (by simp) e⟩
    obtain ⟨x, y, rfl, hx, hy⟩ := (inv ht hd).2.2.2.1 _ _ rfl
    exact wp_seq (ih1.1 x hx.1 hx.2 hi _ fun a w hi => ih2.1 y hy.1 hy.2 hi Q hq)
  | seqX h1 he ih1 =>
    rename_i a0 b0 s0 s1 ex
    refine ⟨fun code ht hd B w0 F0 a w hi Q hq => ?_, fun c' e => noloop (by simp) e⟩
    obtain ⟨x, y, rfl, hx, hy⟩ := (inv ht hd).2.2.2.1 _ _ rfl
    refine wp_seq (ih1.1 x hx.1 hx.2 hi _ fun a w hi => ?_)
    have := hq a w hi
    cases ex
    · exact absurd rfl he
    · exact this
    · exact this
  | cond hc h ih =>
    refine ⟨fun code ht hd B w0 F0 a w hi Q hq => ?_, fun c' e => noloop (by simp) e⟩
    obtain ⟨o, x, y, rfl, ho, hx, hy⟩ := (inv ht hd).2.2.2.2.1 _ _ _ rfl
    obtain ⟨F, m, hp⟩ := id hi
    have h1 := trOpd_rep hp ho
    rw [hc] at h1
    have h2 : a.eval o = _ := Rep.v_inv h1
    refine wp_cond h2 ?_
    split
    · rename_i ht'; rw [if_pos ht'] at ih; exact ih.1 x hx.1 hx.2 hi Q hq
    · rename_i ht'; rw [if_neg ht'] at ih; exact ih.1 y hy.1 hy.2 hi Q hq
  | blkN h ih =>
    refine ⟨fun code ht hd B w0 F0 a w hi Q hq => ?_, fun c' e => noloop (by simp) e⟩
    obtain ⟨x, rfl, hx⟩ := (inv ht hd).2.2.2.2.2.1 _ _ rfl
    exact wp_block (ih.1 x hx.1 hx.2 hi _ hq)
  | blkE h ih =>
    refine ⟨fun code ht hd B w0 F0 a w hi Q hq => ?_, fun c' e => noloop (by simp) e⟩
    obtain ⟨x, rfl, hx⟩ := (inv ht hd).2.2.2.2.2.1 _ _ rfl
    exact wp_block (ih.1 x hx.1 hx.2 hi _ fun a w hi => by simp only [Ex.x, Exit.inBlock, if_true]; exact hq a w hi)
  | blkX h hne ih =>
    refine ⟨fun code ht hd B w0 F0 a w hi Q hq => ?_, fun c' e => noloop (by simp) e⟩
    obtain ⟨x, rfl, hx⟩ := (inv ht hd).2.2.2.2.2.1 _ _ rfl
    exact wp_block (ih.1 x hx.1 hx.2 hi _ fun a w hi => by simp only [Ex.x, Exit.inBlock, hne, if_false]; exact hq a w hi)
  | blkR h ih =>
    refine ⟨fun code ht hd B w0 F0 a w hi Q hq => ?_, fun c' e => noloop (by simp) e⟩
    obtain ⟨x, rfl, hx⟩ := (inv ht hd).2.2.2.2.2.1 _ _ rfl
    exact wp_block (ih.1 x hx.1 hx.2 hi _ hq)
  | loopN h1 h2 ih1 ih2 =>
    have key : ∀ body, trC P nt body = some (C.base _) → drC P body _ = true → ∀ {B : Nat} {w0 : World} {F0 : Fz} {a : Act} {w : World}, Inv B w0 F0 nt _ a w → ∀ Q : Exit → Act → World → Prop, (∀ a w, Inv B w0 F0 nt _ a w → Q _ a w) → LoopWp P body Q a w :=
      fun body hb hbd B w0 F0 a w hi Q hq => LoopWp.round (ih1.1 body hb hbd hi _ fun a w hi => ih2.2 _ rfl body hb hbd hi Q hq)
    refine ⟨fun code ht hd B w0 F0 a w hi Q hq => ?_, fun c' e => ?_⟩
    · obtain ⟨x, rfl, hx⟩ := (inv ht hd).2.2.2.2.2.2.1 _ rfl
      exact (key x hx.1 hx.2 hi Q hq).loop
    · cases e; exact key
  | loopX h1 he ih1 =>
    rename_i c s s1 ex
    have key : ∀ body, trC P nt body = some c.base → drC P body c = true → ∀ {B : Nat} {w0 : World} {F0 : Fz} {a : Act} {w : World}, Inv B w0 F0 nt s a w → ∀ Q : Exit → Act → World → Prop, (∀ a w, Inv B w0 F0 nt s1 a w → Q ex.x a w) → LoopWp P body Q a w := by
      intro body hb hbd B w0 F0 a w hi Q hq
      refine LoopWp.round (ih1.1 body hb hbd hi _ fun a w hi => ?_)
      have := hq a w hi
      cases ex
      · exact absurd rfl he
      · exact this
      · exact this
    refine ⟨fun code ht hd B w0 F0 a w hi Q hq => ?_, fun c' e => ?_⟩
    · obtain ⟨x, rfl, hx⟩ := (inv ht hd).2.2.2.2.2.2.1 _ rfl
      exact (key x hx.1 hx.2 hi Q hq).loop
    · cases e; exact key
  | exit id s =>
    refine ⟨fun code ht hd B w0 F0 a w hi Q hq => ?_, fun c' e => noloop (by simp) e⟩
    obtain rfl := (inv ht hd).2.2.2.2.2.2.2.1 _ rfl
    exact wp_exit (hq _ _ hi)
  | ret s =>
    refine ⟨fun code ht hd B w0 F0 a w hi Q hq => ?_, fun c' e => noloop (by simp) e⟩
    obtain rfl := (inv ht hd).2.2.2.2.2.2.2.2.1 rfl
    exact wp_ret (hq _ _ hi)
  | weak hw h ih =>
    exact ⟨fun code ht hd B w0 F0 a w hi Q hq => ih.1 code ht hd (hw _ _ _ _ _ _ hi) Q hq, fun c' e body hb hbd B w0 F0 a w hi Q hq => ih.2 c' e body hb hbd (hw _ _ _ _ _ _ hi) Q hq⟩

end Go.Fw
