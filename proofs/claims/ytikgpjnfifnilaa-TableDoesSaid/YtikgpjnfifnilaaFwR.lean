/-
  Regions, sound: the text's order, and any order that the edges leave open.
-/
import Derived.Test.YtikgpjnfifnilaaFwQ
set_option linter.unusedVariables false
set_option linter.unusedSimpArgs false
namespace Go.Fw
open Go.RowKit

inductive Steps (P : Program) : List RG → St → St → Prop
  | nil (s : St) : Steps P [] s s
  | cons {r : RG} {l : List RG} {s s1 s2 : St} (h : Step1 P r s s1) (t : Steps P l s1 s2) : Steps P (r :: l) s s2

theorem Steps.index {P : Program} {rs : List RG} : ∀ {l : List RG} {k : Nat} {s s' : St}, Steps P l s s' → (∀ j, l[j]? = rs[k + j]? ∨ l.length ≤ j) → StepsI P rs (List.range' k l.length) s s'
  | [], k, s, s', h, _ => by cases h; exact .nil s
  | r :: l, k, s, s', h, hl => by
    cases h with
    | cons h t =>
      have h0 : rs[k]? = some r := by rcases hl 0 with e | e; simpa using e.symm; simp at e
      refine .cons h0 h ?_
      refine t.index fun j => ?_
      rcases hl (j + 1) with e | e
      · left; rw [show k + 1 + j = k + (j + 1) by omega, ← e]; simp
      · right; simpa using e

theorem Steps.range {P : Program} {rs : List RG} {s s' : St} (h : Steps P rs s s') : StepsI P rs (List.range rs.length) s s' := by
  rw [List.range_eq_range']
  exact h.index fun j => .inl (by simp)

def orL (b : List Nat) : List Edge → Nat
  | [] => 0
  | e :: es => if Region.binds .any e then 2 ^ e.on ||| b.getD e.on 0 ||| orL b es else orL b es
def maskGo : List Oper → List Nat → List Nat
  | [], b => b
  | o :: os, b => maskGo os (b ++ [orL b o.after.toList])
def maskChk (b : List Nat) : Nat → List Oper → Bool
  | _, [] => true
  | i, o :: os => (o.after.toList.all fun e => !Region.binds .any e || decide (e.on < i)) && b.getD i 0 == orL b o.after.toList && maskChk b (i + 1) os
/-- Two that may change places by what the slots hold at the end: a load and a store behind it, if their boxes differ; an append and a plain deed behind it that looks at nothing which the append ends. -/
def farB (rs : List RG) (bi : Nat) (j : Nat) (rj ri : RG) : Bool :=
  match rj.k, rj.a, ri.a with
  | .load _ _, [.t a], [.t b, _] => apartR rj ri && ri.k.isStore && ri.d.isNone && (List.range rs.length).all fun k => decide (k < j) || bi.testBit k || (match rs[k]? with | some r => r.d != some a && r.d != some b | none => true)
  | .app _ _ _, _, _ => apartR rj ri && (rj.bare && (ri.bare && (!ri.k.solo && ri.looks.all fun a => ri.d != some a && (List.range rs.length).all fun k => decide (k < j) || bi.testBit k || (match rs[k]? with | some r => r.d != some a | none => true))))
  | _, _, _ => false
/-- The boxes differ, or nothing looked at has ended: told by what the slots hold at the region's end. -/
def farS (rs : List RG) (ps : List (Nat × Nat)) (s' : St) : Bool := ps.all fun p =>
  match rs[p.1]?, rs[p.2]? with
  | some rj, some ri => match rj.k with
    | .app _ _ _ => ri.looks.all fun a => !(s'.t a).isAny
    | _ => match rj.a, ri.a with
      | [.t a], [.t b, _] => match s'.t a, s'.t b with | .own n1 _, .own n2 _ => !Nat.beq n1 n2 | _, _ => false
      | _, _ => false
  | _, _ => false
def chk1 (rs : List RG) (ps : List (Nat × Nat)) (i : Nat) (ri : RG) (bi : Nat) : Nat → List RG → Bool
  | _, [] => true
  | j, rj :: l => (bi.testBit j || comm rj ri || (ps.contains (j, i) && farB rs bi j rj ri)) && chk1 rs ps i ri bi (j + 1) l
def pairsOk (rs : List RG) (ps : List (Nat × Nat)) (b : List Nat) : Bool := (List.range rs.length).all fun i => match rs[i]? with | some ri => chk1 rs ps i ri (b.getD i 0) 0 (rs.take i) | none => true
def allocB (rs : List RG) : Bool := (List.range rs.length).all fun i => match rs[i]? with
  | some r => !r.k.allocs || (match r.d with | some d => (rs.eraseIdx i).all fun r' => r'.d != some d | none => true)
  | none => true
def drawOkP (ops : Array Oper) (rs : List RG) (ps : List (Nat × Nat)) : Bool :=
  let b := maskGo ops.toList []
  maskChk b 0 ops.toList && pairsOk rs ps b && allocB rs && rs.all RG.bare && rs.length == ops.size

def drawOk (ops : Array Oper) (rs : List RG) : Bool := drawOkP ops rs []

theorem orL_bit {b : List Nat} {j : Nat} : ∀ {es : List Edge}, (orL b es).testBit j = true → ∃ e ∈ es, Region.binds .any e = true ∧ (e.on = j ∨ (b.getD e.on 0).testBit j = true)
  | [], h => by simp [orL] at h
  | e :: es, h => by
    simp only [orL] at h
    split at h
    · rename_i hb
      rw [Nat.testBit_or, Nat.testBit_or, Bool.or_eq_true, Bool.or_eq_true] at h
      rcases h with (h | h) | h
      · refine ⟨e, by simp, hb, .inl ?_⟩
        rw [Nat.testBit_two_pow] at h; simpa using h
      · exact ⟨e, by simp, hb, .inr h⟩
      · obtain ⟨e', h1, h2⟩ := orL_bit h; exact ⟨e', by simp [h1], h2⟩
    · obtain ⟨e', h1, h2⟩ := orL_bit h; exact ⟨e', by simp [h1], h2⟩

theorem maskChk_at {b : List Nat} : ∀ {os : List Oper} {i k : Nat} {o : Oper}, maskChk b i os = true → os[k]? = some o → (∀ e ∈ o.after.toList, Region.binds .any e = true → e.on < i + k) ∧ b.getD (i + k) 0 = orL b o.after.toList
  | [], i, k, o, h, hk => by simp at hk
  | o' :: os, i, k, o, h, hk => by
    simp only [maskChk, Bool.and_eq_true] at h
    obtain ⟨⟨h1, h2⟩, h3⟩ := h
    cases k with
    | zero =>
      simp at hk; subst hk
      refine ⟨fun e he hb => ?_, by simpa using h2⟩
      have := List.all_eq_true.1 h1 e he
      simpa [hb] using this
    | succ k =>
      have := maskChk_at (k := k) h3 (by simpa using hk)
      rw [show i + (k + 1) = i + 1 + k by omega]; exact this

theorem chk1_at {rs : List RG} {ps : List (Nat × Nat)} {i : Nat} {ri : RG} {bi : Nat} : ∀ {l : List RG} {j0 k : Nat} {rj : RG}, chk1 rs ps i ri bi j0 l = true → l[k]? = some rj → bi.testBit (j0 + k) = true ∨ comm rj ri = true ∨ ((j0 + k, i) ∈ ps ∧ farB rs bi (j0 + k) rj ri = true)
  | [], j0, k, rj, h, hk => by simp at hk
  | r :: l, j0, k, rj, h, hk => by
    simp only [chk1, Bool.and_eq_true, Bool.or_eq_true] at h
    cases k with
    | zero =>
      simp at hk; subst hk
      rcases h.1 with (h | h) | h
      · exact .inl h
      · exact .inr (.inl h)
      · exact .inr (.inr ⟨by simpa using h.1, h.2⟩)
    | succ k =>
      have := chk1_at h.2 (by simpa using hk)
      rwa [show j0 + 1 + k = j0 + (k + 1) by omega] at this
theorem pairsOk_at {rs : List RG} {ps : List (Nat × Nat)} {b : List Nat} (h : pairsOk rs ps b = true) {i j : Nat} {ri rj : RG} (hi : rs[i]? = some ri) (hj : rs[j]? = some rj) (hji : j < i) : (b.getD i 0).testBit j = true ∨ comm rj ri = true ∨ ((j, i) ∈ ps ∧ farB rs (b.getD i 0) j rj ri = true) := by
  have hlt : i < rs.length := (List.getElem?_eq_some_iff.1 hi).1
  have h1 := List.all_eq_true.1 h i (List.mem_range.2 hlt)
  simp only [hi] at h1
  have := chk1_at h1 (k := j) (rj := rj) (by rw [List.getElem?_take_of_lt hji]; exact hj)
  simpa using this
theorem far_of {rs : List RG} {ps : List (Nat × Nat)} {s' : St} {i j bi : Nat} {rj ri : RG} {later : List Nat} (hj : rs[j]? = some rj) (hi : rs[i]? = some ri) (hp : (j, i) ∈ ps) (hB : farB rs bi j rj ri = true) (hS : farS rs ps s' = true)
    (hl : ∀ k ∈ later, bi.testBit k = false) : Far rs s' later j rj ri ∨ FarK rs s' later j rj ri := by
  have h1 := List.all_eq_true.1 hS (j, i) hp
  simp only [hj, hi] at h1
  unfold farB at hB
  split at hB
  · rename_i sz ag a b y hk ha1 ha2
    left
    simp only [Bool.and_eq_true, Option.isNone_iff_eq_none] at hB
    obtain ⟨⟨⟨g1, g2⟩, g3⟩, g4⟩ := hB
    simp only [hk, ha1, ha2] at h1
    split at h1
    · rename_i n1 o1 n2 o2 hv1 hv2
      refine ⟨a, b, y, sz, ag, n1, o1, n2, o2, g1, hk, ha1, g2, g3, ha2, hv1, hv2, ?_, ?_⟩
      · rintro rfl; simp at h1
      · intro k hk hjk r hr
        have h3 := List.all_eq_true.1 g4 k (List.mem_range.2 (List.getElem?_eq_some_iff.1 hr).1)
        simp only [hr, hl k hk, Bool.or_false, Bool.or_eq_true, decide_eq_true_eq, Bool.and_eq_true] at h3
        rcases h3 with h3 | h3
        · omega
        · exact ⟨by simpa using h3.1, by simpa using h3.2⟩
    · cases h1
  · rename_i ty es bytes hk
    right
    simp only [Bool.and_eq_true, Bool.not_eq_true'] at hB
    obtain ⟨g1, g2, g3, g4, g5⟩ := hB
    simp only [hk] at h1
    refine ⟨ty, es, bytes, g1, g2, g3, hk, g4, fun a ha => ?_⟩
    have h2 := List.all_eq_true.1 h1 a ha
    have h3 := List.all_eq_true.1 g5 a ha
    simp only [Bool.and_eq_true] at h3
    refine ⟨by simpa using h2, by simpa using h3.1, fun k hk hjk r hr => ?_⟩
    have h4 := List.all_eq_true.1 h3.2 k (List.mem_range.2 (List.getElem?_eq_some_iff.1 hr).1)
    simp only [hr, hl k hk, Bool.or_false, Bool.or_eq_true, decide_eq_true_eq] at h4
    rcases h4 with h4 | h4
    · omega
    · simpa using h4
  · cases hB

theorem allocB_ok {rs : List RG} (h : allocB rs = true) : allocOk rs := by
  intro i j r r' hne hi hj ha d hd
  have hil : i < rs.length := (List.getElem?_eq_some_iff.1 hi).1
  have := List.all_eq_true.1 h i (List.mem_range.2 hil)
  rw [hi] at this
  simp only [ha, hd, Bool.not_true, Bool.false_or] at this
  have hm : r' ∈ rs.eraseIdx i := List.mem_eraseIdx_iff_getElem?.2 ⟨j, Ne.symm hne, hj⟩
  have := List.all_eq_true.1 this r' hm
  simpa using this

section
variable {P : Program} {B nt : Nat} {w0 : World} {F0 : Fz} {s s' : St} {a : Act} {w : World}

theorem wpOp_of {ops : Array Oper} {Q : Exit → Act → World → Prop} {i : Nat} {o : Oper} (hi : ops[i]? = some o) {K : Act → World → Prop} {I : Act → World → Prop} (h : Does P ops o a w I) (hK : ∀ a w, I a w → K a w) : wpOp P ops Q i K a w := by
  unfold wpOp
  simp only [hi]
  have := h K Q hK
  split
  · rename_i hw; rw [if_pos hw] at this; exact .inl this
  · rename_i hw; rw [if_neg hw] at this; exact this

/-- The operations of a region with their translations. -/
def Trs (P : Program) (nt : Nat) (ops : Array Oper) (rs : List RG) : Prop := rs.length = ops.size ∧ ∀ (i : Nat) (o : Oper), ops[i]? = some o → ∃ r : RG, rs[i]? = some r ∧ trOp P nt ops o = some r.base

theorem wpOps_of {ops : Array Oper} {rs : List RG} (ht : Trs P nt ops rs) {Q : Exit → Act → World → Prop} : ∀ {l : List Nat} {s s' : St} {a : Act} {w : World}, StepsI P rs l s s' → Inv B w0 F0 nt s a w → (∀ a w, Inv B w0 F0 nt s' a w → Q .normal a w) → wpOps P ops Q l a w
  | [], s, s', a, w, h, hi, hq => by cases h; exact hq a w hi
  | i :: l, s, s', a, w, h, hi, hq => by
    cases h with
    | cons hr h t =>
      rw [wpOps_cons]
      have hlt : i < ops.size := by rw [← ht.1]; exact (List.getElem?_eq_some_iff.1 hr).1
      obtain ⟨r', h1, h2⟩ := ht.2 i ops[i] (by simp [hlt])
      rw [hr] at h1; cases h1
      exact wpOp_of (by simp [hlt]) (step_sound h hi h2) fun a w hi => wpOps_of ht t hi hq

theorem Inv.drawn (h : Inv B w0 F0 nt s a w) (n : Nat) : Inv B w0 F0 nt s a { w with drawn := n } := by
  obtain ⟨F, m, h⟩ := h
  refine ⟨F, m, h.defers, h.size, ⟨h.below.os, h.below.tape, h.below.output, h.below.size, h.below.block⟩, h.base, h.on, h.fin, h.tmps, fun n x hx => ?_, h.inj, h.ownL, h.mfix, h.ntle⟩
  exact (h.own n x hx).keep (fun _ _ => rfl) F.le_refl fun _ _ _ => rfl

def ListedOk (ops : Array Oper) (listed : Array Bool) : Prop := ∀ i o, ops[i]? = some o → listed.getD i true = true → ∀ e ∈ o.after.toList, Region.binds .any e = true → listed.getD e.on false = true

theorem anc_listed {ops : Array Oper} {listed : Array Bool} {b : List Nat} (hm : maskChk b 0 ops.toList = true) (hsz : listed.size = ops.size) (hl : ListedOk ops listed) : ∀ (i : Nat) (o : Oper), ops[i]? = some o → (∀ e ∈ o.after.toList, Region.binds .any e = true → listed.getD e.on false = true) →
    ∀ j, (b.getD i 0).testBit j = true → listed.getD j false = true := by
  intro i
  induction i using Nat.strongRecOn with
  | _ i ih =>
    intro o ho hp j hj
    obtain ⟨h1, h2⟩ := maskChk_at (k := i) hm (by simpa using ho)
    simp only [Nat.zero_add] at h1 h2
    rw [h2] at hj
    obtain ⟨e, he, hb, h3⟩ := orL_bit hj
    have hle := hp e he hb
    rcases h3 with rfl | h3
    · exact hle
    · have hlt := h1 e he hb
      have hil : i < ops.size := (Array.getElem?_eq_some_iff.1 ho).1
      have hel : e.on < ops.size := by omega
      refine ih e.on hlt ops[e.on] (by simp [hel]) ?_ j h3
      refine hl e.on _ (by simp [hel]) ?_
      rw [Array.getD_eq_getD_getElem?] at hle ⊢
      have : e.on < listed.size := by omega
      simpa [this] using hle

theorem getD_eq {listed : Array Bool} {i : Nat} (h : i < listed.size) (x y : Bool) : listed.getD i x = listed.getD i y := by
  simp [Array.getD_eq_getD_getElem?, h]

theorem wpAny_of {ops : Array Oper} {rs : List RG} (ht : Trs P nt ops rs) {b : List Nat} (hm : maskChk b 0 ops.toList = true) {ps : List (Nat × Nat)} (hpo : pairsOk rs ps b = true) (hS : farS rs ps s' = true) (hal : allocOk rs) (hb : ∀ r ∈ rs, r.bare = true) {Q : Exit → Act → World → Prop}
    (hq : ∀ a w, Inv B w0 F0 nt s' a w → Q .normal a w) : ∀ (fuel : Nat) (listed : Array Bool) (l : List Nat) (s : St) (a : Act) (w : World), listed.size = ops.size → ListedOk ops listed → l = (List.range ops.size).filter (fun i => !listed.getD i true) → fuel = l.length → Fr rs l s →
    StepsI P rs l s s' → Inv B w0 F0 nt s a w → wpAny P .any ops Q fuel listed a w := by
  intro fuel
  induction fuel with
  | zero =>
    intro listed l s a w hsz hlo hl hn hf hst hi
    have : l = [] := List.eq_nil_of_length_eq_zero hn.symm
    subst this
    cases hst
    refine ⟨?_, hq a w hi⟩
    apply List.eq_nil_iff_forall_not_mem.2
    intro i hi'
    simp only [Region.ready, List.mem_filter, Bool.and_eq_true] at hi'
    have : i ∈ (List.range ops.size).filter (fun i => !listed.getD i true) := List.mem_filter.2 ⟨hi'.1, hi'.2.1⟩
    rw [← hl] at this; cases this
  | succ fuel ih =>
    intro listed l s a w hsz hlo hl hn hf hst hi
    have hnd : l.Nodup := by rw [hl]; exact List.Pairwise.filter _ List.nodup_range
    have hpw : l.Pairwise (· < ·) := by rw [hl]; exact List.Pairwise.filter _ List.pairwise_lt_range
    refine ⟨fun hr => ?_, fun i hi' => ?_⟩
    · exfalso
      cases hc : l with
      | nil => rw [hc] at hn; simp at hn
      | cons k l' =>
        have hk : k ∈ l := by rw [hc]; simp
        rw [hl] at hk
        obtain ⟨hk1, hk2⟩ := List.mem_filter.1 hk
        have hks : k < ops.size := List.mem_range.1 hk1
        have : k ∈ Region.ready .any ops listed := by
          refine List.mem_filter.2 ⟨hk1, ?_⟩
          simp only [Bool.and_eq_true]
          refine ⟨hk2, ?_⟩
          rw [Array.getElem?_eq_getElem hks]
          simp only [Option.map_some, Option.getD_some]
          rw [← Array.all_toList]
          refine List.all_eq_true.2 fun e he => ?_
          cases hbn : Region.binds .any e with
          | false => rfl
          | true =>
            simp only [Bool.not_true, Bool.false_or]
            obtain ⟨h1, _⟩ := maskChk_at (k := k) (o := ops[k]) hm (by simp [hks])
            have hlt := h1 e he hbn
            simp only [Nat.zero_add] at hlt
            cases hle : listed.getD e.on false with
            | true => rfl
            | false =>
              exfalso
              have hel : e.on < listed.size := by omega
              have : e.on ∈ l := by
                rw [hl]
                refine List.mem_filter.2 ⟨List.mem_range.2 (by omega), ?_⟩
                rw [getD_eq hel true false, hle]; rfl
              rw [hc] at this hpw
              rcases List.mem_cons.1 this with e1 | e1
              · omega
              · have := (List.pairwise_cons.1 hpw).1 _ e1; omega
        rw [hr] at this; cases this
    · obtain ⟨hi1, hi2⟩ := List.mem_filter.1 hi'
      simp only [Bool.and_eq_true] at hi2
      have his : i < ops.size := List.mem_range.1 hi1
      have hil : i ∈ l := by rw [hl]; exact List.mem_filter.2 ⟨hi1, hi2.1⟩
      obtain ⟨pre, post, hsplit⟩ := List.append_of_mem hil
      obtain ⟨ri, hri, htr⟩ := ht.2 i ops[i] (by simp [his])
      have hpreds : ∀ e ∈ (ops[i]).after.toList, Region.binds .any e = true → listed.getD e.on false = true := by
        have h2 := hi2.2
        rw [Array.getElem?_eq_getElem his] at h2
        simp only [Option.map_some, Option.getD_some] at h2
        rw [← Array.all_toList] at h2
        intro e he hbn
        have := List.all_eq_true.1 h2 e he
        simpa [hbn] using this
      have hcomm : ∀ j ∈ pre, ∀ rj, rs[j]? = some rj → comm rj ri = true ∨ Far rs s' (pre ++ post) j rj ri ∨ FarK rs s' (pre ++ post) j rj ri := by
        intro j hj rj hrj
        have hji : j < i := by
          rw [hsplit] at hpw
          exact (List.pairwise_append.1 hpw).2.2 j hj i (by simp)
        rcases pairsOk_at hpo hri hrj hji with h | h | h
        · exfalso
          have h1 := anc_listed hm hsz hlo i ops[i] (by simp [his]) hpreds j h
          have hjl : j ∈ l := by rw [hsplit]; simp [hj]
          rw [hl] at hjl
          have h2 := (List.mem_filter.1 hjl).2
          rw [getD_eq (by omega) true false, h1] at h2
          cases h2
        · exact .inl h
        · refine .inr (far_of hrj hri h.1 h.2 hS fun k hk => ?_)
          cases hbit : (b.getD i 0).testBit k with
          | false => rfl
          | true =>
            exfalso
            have h1 := anc_listed hm hsz hlo i ops[i] (by simp [his]) hpreds k hbit
            have hkl : k ∈ l := by
              rw [hsplit]
              rcases List.mem_append.1 hk with h | h
              · exact List.mem_append_left _ h
              · exact List.mem_append_right _ (List.mem_cons_of_mem _ h)
            rw [hl] at hkl
            have h3 := List.mem_filter.1 hkl
            have h2 := h3.2
            have := List.mem_range.1 h3.1
            rw [getD_eq (by omega) true false, h1] at h2
            cases h2
      rw [hsplit] at hst hf hnd hpw
      obtain ⟨t, g1, g2⟩ := move_front hal hb hri pre hnd hpw hcomm hf hst
      refine wpOp_of (by simp [his]) (step_sound g1 hi htr) fun a1 w1 hi1 => ?_
      have hnotin : i ∉ pre ++ post := by
        have h3 : (i :: (pre ++ post)).Nodup := List.perm_middle.nodup hnd
        exact (List.nodup_cons.1 h3).1
      refine ih (listed.setIfInBounds i true) (pre ++ post) t a1 w1 (by simp [hsz]) ?_ ?_ ?_ ?_ g2 hi1
      · intro k o ho hk e he hbn
        have hset : ∀ q x, (listed.setIfInBounds i true).getD q x = if q = i then true else listed.getD q x := fun q x => by
          simp only [Array.getD_eq_getD_getElem?, Array.getElem?_setIfInBounds]
          by_cases e1 : i = q
          · subst e1; simp [hsz, his]
          · simp [e1, Ne.symm e1]
        rw [hset] at hk ⊢
        split
        · rfl
        · by_cases e1 : k = i
          · subst e1
            have : ops[k]? = some ops[k] := by simp [his]
            rw [this] at ho; cases ho
            exact hpreds e he hbn
          · rw [if_neg e1] at hk
            exact hlo k o ho hk e he hbn
      · have h1 : (List.range ops.size).filter (fun k => !(listed.setIfInBounds i true).getD k true) = l.filter (fun k => decide (k ≠ i)) := by
          rw [hl, List.filter_filter]
          apply List.filter_congr
          intro k hk
          simp only [Array.getD_eq_getD_getElem?, Array.getElem?_setIfInBounds]
          by_cases e1 : i = k
          · subst e1; simp [hsz, his]
          · simp [e1, Ne.symm e1]
        rw [h1, hsplit, List.filter_append, List.filter_cons]
        simp only [ne_eq, not_true_eq_false, decide_false, Bool.false_eq_true, if_false]
        rw [List.filter_eq_self.2, List.filter_eq_self.2]
        · intro k hk; simp; rintro rfl; exact hnotin (by simp [hk])
        · intro k hk; simp; rintro rfl; exact hnotin (by simp [hk])
      · rw [hsplit] at hn; simp only [List.length_append, List.length_cons] at hn ⊢; omega
      · exact (hf.mono fun k hk => by
          rcases List.mem_append.1 hk with h | h
          · exact List.mem_append_left _ h
          · exact List.mem_append_right _ (List.mem_cons_of_mem _ h)).step hal hb hri g1 hnotin

theorem region_seq {ops : Array Oper} {rs : List RG} (ht : Trs P nt ops rs) {Q : Exit → Act → World → Prop} {id : Nat} (h : Steps P rs s s') (hi : Inv B w0 F0 nt s a w) (hq : ∀ a w, Inv B w0 F0 nt s' a w → Q .normal a w) : (Code.region id ops false).wp P Q a w := by
  refine wp_region ?_
  rw [← ht.1]
  exact wpOps_of ht h.range hi hq

theorem region_drawP {ps : List (Nat × Nat)} (hm : P.follows .mixedOrders = true) {ops : Array Oper} {rs : List RG} (ht : Trs P nt ops rs) (hok : drawOkP ops rs ps = true) (hS : farS rs ps s' = true) {Q : Exit → Act → World → Prop} {id : Nat} (hf : ∀ r ∈ rs, r.k.allocs = true → ∀ d, r.d = some d → s.fresh d) (h : Steps P rs s s') (hi : Inv B w0 F0 nt s a w)
    (hq : ∀ a w, Inv B w0 F0 nt s' a w → Q .normal a w) : (Code.region id ops true).wp P Q a w := by
  simp only [drawOkP, Bool.and_eq_true] at hok
  obtain ⟨⟨⟨⟨h1, h2⟩, h3⟩, h4⟩, h5⟩ := hok
  have hall : ∀ i, i < ops.size → (Array.replicate ops.size false).getD i true = false := fun i hi => by
    simp [Array.getD_eq_getD_getElem?, hi]
  have hl : List.range ops.size = (List.range ops.size).filter (fun i => !(Array.replicate ops.size false).getD i true) := by
    symm
    apply List.filter_eq_self.2
    intro i hi
    rw [hall i (List.mem_range.1 hi)]; rfl
  refine wp_region_any hm ?_
  refine wpAny_of ht h1 h2 hS (allocB_ok h3) (fun r hr => List.all_eq_true.1 h4 r hr) hq ops.size _ (List.range ops.size) s a _ (by simp) ?_ hl (by simp) ?_ ?_ (hi.drawn _)
  · intro i o ho hk
    rw [hall i (Array.getElem?_eq_some_iff.1 ho).1] at hk; cases hk
  · intro i hi r hr ha d hd
    exact hf r (List.mem_of_getElem? hr) ha d hd
  · rw [← ht.1]; exact h.range
theorem region_draw (hm : P.follows .mixedOrders = true) {ops : Array Oper} {rs : List RG} (ht : Trs P nt ops rs) (hok : drawOk ops rs = true) {Q : Exit → Act → World → Prop} {id : Nat} (hf : ∀ r ∈ rs, r.k.allocs = true → ∀ d, r.d = some d → s.fresh d) (h : Steps P rs s s') (hi : Inv B w0 F0 nt s a w)
    (hq : ∀ a w, Inv B w0 F0 nt s' a w → Q .normal a w) : (Code.region id ops true).wp P Q a w := region_drawP hm ht (ps := []) hok rfl hf h hi hq
end
end Go.Fw
