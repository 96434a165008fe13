/-
  Counts: what a count that is closed leaves of a plain house: in plain terms, no program in sight.
-/
import Derived.Test.YtghhmkogooancaaGreatHCp
import Derived.Test.YtghhmkogooancaaGreatHCw
import Derived.Test.YtghhmkogooancaaGreatHCx
set_option linter.unusedVariables false
set_option linter.unusedSimpArgs false
set_option maxRecDepth 10000
namespace Go.Fw
open Go.Proofs

theorem once_iff {α κ : Type} {key : α → κ} {xs : List α} : Once key xs xs.length ↔ Uniq key xs := by
  unfold Uniq
  rw [List.pairwise_iff_getElem]
  constructor
  · intro h i j hi hj hij
    exact h j i xs[j] xs[i] hj (by simp [hj]) hij (by simp [hi])
  · intro h i k x y hi hx hk hy
    obtain ⟨_, rfl⟩ := List.getElem?_eq_some_iff.1 hx
    obtain ⟨_, rfl⟩ := List.getElem?_eq_some_iff.1 hy
    exact h k i _ _ hk
theorem allOk_iff {α : Type} {bad : α → Bool} {xs : List α} : AllOk bad xs xs.length ↔ ∀ x ∈ xs, bad x = false := by
  constructor
  · intro h x hx
    obtain ⟨i, hi, rfl⟩ := List.mem_iff_getElem.1 hx
    exact h i _ hi (by simp [hi])
  · intro h i x hi hx
    exact h x (List.mem_of_getElem? hx)
theorem plain_iff {h : House} : h.Plain ↔ (∀ x ∈ h.quants.xs, qBad x = false) ∧ Uniq Quant.key h.quants.xs ∧ Uniq Total.name h.totals.xs ∧ (∀ x ∈ h.counted.xs, cBad x = false) ∧ Uniq Counted.key h.counted.xs :=
  ⟨fun p => ⟨allOk_iff.1 p.goodQ, once_iff.1 p.onceQ, once_iff.1 p.onceT, allOk_iff.1 p.goodC, once_iff.1 p.onceC⟩, fun ⟨a, b, c, d, e⟩ => ⟨allOk_iff.2 a, once_iff.2 b, once_iff.2 c, allOk_iff.2 d, once_iff.2 e⟩⟩

/-! ### The balance -/
def Total.net (t : Total) : Int := t.tin - t.out + t.back + t.fixed
theorem balance_cg (h : House) (i c : Str) : Cg (h.balance i c) ((h.tot i c).net - sumOf (ofLot i c) h.quants.xs) := by
  unfold House.balance Total.net House.tot
  refine (cg_w _).trans (Cg.sub ?_ ?_)
  · exact (cg_w _).trans (Cg.add ((cg_w _).trans (Cg.add (cg_w _) (Cg.refl _))) (Cg.refl _))
  · have := sum_cg i c h.quants.xs 0
    rw [Int.zero_add] at this
    exact this
theorem balance_w (h : House) (i c : Str) : w64 (h.balance i c) = h.balance i c := cg_w _
theorem balance_eq {g h : House} {i c : Str} (hc : Cg ((g.tot i c).net - sumOf (ofLot i c) g.quants.xs) ((h.tot i c).net - sumOf (ofLot i c) h.quants.xs)) : g.balance i c = h.balance i c := by
  rw [← balance_w g, ← balance_w h]
  exact ((balance_cg g i c).trans hc).trans (balance_cg h i c).symm

/-! ### One thing that was counted -/
structure Sound (h : House) : Prop where
  good : ∀ x ∈ h.quants.xs, qBad x = false
  q : Uniq Quant.key h.quants.xs
  t : Uniq Total.name h.totals.xs
theorem total_find (h : House) (i c : Str) : h.total? i c = h.totals.xs.find? fun y => decide (y.name = (i, c)) := by
  unfold House.total?
  congr 1
  funext y
  unfold Total.name
  rw [Bool.eq_iff_iff]
  simp [Prod.ext_iff]
theorem qBad_iff {q : Quant} : qBad q = false ↔ 0 ≤ q.held ∧ q.held ≤ q.qty ∧ 1 ≤ q.qty := by
  unfold qBad
  simp
  omega
theorem quant_key {h : House} {k : Key} {q : Quant} (hq : h.quant? k = some q) : q ∈ h.quants.xs ∧ q.key = k := by
  unfold House.quant? at hq
  exact ⟨List.mem_of_find?_eq_some hq, by simpa using List.find?_some hq⟩
theorem was_held {h : House} (hs : Sound h) (c : Counted) : 0 ≤ (h.was c).held := by
  unfold House.was
  cases hq : h.quant? c.key with
  | none => exact Int.le_refl 0
  | some q => exact (qBad_iff.1 (hs.good q (quant_key hq).1)).1

/-- The quants behind one thing that was counted. -/
theorem counts_quants (h : House) (c : Counted) (hs : Sound h) : (h.counts c).quants.xs.Perm (if c.qty = 0 then rest Quant.key c.key h.quants.xs else h.now c :: rest Quant.key c.key h.quants.xs) := by
  have e : (h.counts c).quants.xs = (h.setQuant (h.now c)).quants.xs := by unfold House.counts; split <;> rfl
  rw [e]
  unfold House.setQuant
  split
  · rename_i h0
    rw [if_pos (show c.qty = 0 from h0)]
    show (dropL quantCmp (h.now c) h.quants.xs).Perm _
    rw [drop_rest Quant.key quantCmp quant0 _ _ hs.q]
    exact List.Perm.refl _
  · rename_i h0
    rw [if_neg (show ¬ c.qty = 0 from h0)]
    exact put_perm Quant.key quantCmp quant0 _ _ hs.q
theorem counts_quant? (h : House) (c : Counted) (hs : Sound h) (k : Key) : (h.counts c).quant? k = if k = c.key then (if c.qty = 0 then none else some (h.now c)) else h.quant? k := by
  have e : (h.counts c).quants.xs = (h.setQuant (h.now c)).quants.xs := by unfold House.counts; split <;> rfl
  unfold House.quant?
  rw [e]
  unfold House.setQuant
  split
  · rename_i h0
    rw [if_pos (show c.qty = 0 from h0)]
    show (dropL quantCmp (h.now c) h.quants.xs).find? _ = _
    rw [drop_rest Quant.key quantCmp quant0 _ _ hs.q, find_rest]
    rfl
  · rename_i h0
    rw [if_neg (show ¬ c.qty = 0 from h0)]
    show (putL quantCmp (h.now c) h.quants.xs).find? _ = _
    rw [find_put Quant.key quantCmp quant0]
    have : (h.now c).key = c.key := rfl
    rw [this]
    by_cases hk : k = c.key
    · rw [if_pos hk, if_pos hk.symm]
    · rw [if_neg hk, if_neg (Ne.symm hk)]
theorem counts_tot (h : House) (c : Counted) (i l : Str) : Cg ((h.counts c).tot i l).net ((h.tot i l).net + if c.item = i ∧ c.lot = l then h.more c else 0) := by
  unfold House.counts
  split
  · rename_i ht
    have e : ((h.setQuant (h.now c)).withTotal (h.toTotal c)).total? i l = if (h.toTotal c).name = (i, l) then some (h.toTotal c) else h.total? i l := by
      rw [total_find, total_find]
      have h1 : ((h.setQuant (h.now c)).withTotal (h.toTotal c)).totals.xs = putL totalCmp (h.toTotal c) h.totals.xs := by
        show putL totalCmp (h.toTotal c) (h.setQuant (h.now c)).totals.xs = _
        rw [(setQuant_same h (h.now c)).1]
      rw [h1, find_put Total.name totalCmp total0]
    have hn : (h.toTotal c).name = (c.item, c.lot) := by
      show ((h.tot c.item c.lot).item, (h.tot c.item c.lot).lot) = _
      unfold House.tot
      cases hq : h.total? c.item c.lot with
      | none => rfl
      | some t =>
        unfold House.total? at hq
        have := List.find?_some hq
        simp at this
        simp [this]
    unfold House.tot
    rw [e, hn]
    by_cases hm : c.item = i ∧ c.lot = l
    · obtain ⟨rfl, rfl⟩ := hm
      rw [if_pos rfl, if_pos ⟨rfl, rfl⟩]
      show Cg ((h.tot c.item c.lot).tin - (h.tot c.item c.lot).out + (h.tot c.item c.lot).back + w64 ((h.tot c.item c.lot).fixed + h.more c)) ((h.tot c.item c.lot).net + h.more c)
      refine (Cg.add (Cg.refl _) (cg_w _)).trans ?_
      unfold Total.net
      rw [show ∀ a b c : Int, a + (b + c) = a + b + c from fun a b c => by omega]
      exact Cg.refl _
    · rw [if_neg (show ¬ (c.item, c.lot) = (i, l) from fun e => hm (by simpa [Prod.ext_iff] using e)), if_neg hm, Int.add_zero]
      exact Cg.refl _
  · rename_i ht
    have h0 : h.more c = 0 := by
      unfold House.tells at ht
      simp at ht
      exact ht.2
    have e : (h.setQuant (h.now c)).tot i l = h.tot i l := by
      unfold House.tot House.total?
      rw [(setQuant_same h (h.now c)).1]
    rw [e, h0]
    split <;> (rw [Int.add_zero]; exact Cg.refl _)
theorem was_sum (h : House) (c : Counted) (hs : Sound h) (i l : Str) : sumOf (ofLot i l) h.quants.xs = (if c.item = i ∧ c.lot = l then (h.was c).qty else 0) + sumOf (ofLot i l) (rest Quant.key c.key h.quants.xs) := by
  unfold House.was
  cases hq : h.quant? c.key with
  | none =>
    have : rest Quant.key c.key h.quants.xs = h.quants.xs := none_rest Quant.key hq
    rw [this]
    have : ((none : Option Quant).getD Quant.zero).qty = 0 := rfl
    rw [this]
    split <;> omega
  | some q =>
    have hp : h.quants.xs.Perm (q :: rest Quant.key c.key h.quants.xs) := some_perm Quant.key hs.q hq
    rw [sumOf_perm hp]
    have hk := (quant_key hq).2
    have h1 : q.item = c.item := congrArg Key.item hk
    have h2 : q.lot = c.lot := congrArg Key.lot hk
    simp only [sumOf, ofLot, h1, h2, Option.getD_some]
theorem counts_sum (h : House) (c : Counted) (hs : Sound h) (i l : Str) : sumOf (ofLot i l) (h.counts c).quants.xs = (if c.item = i ∧ c.lot = l then c.qty else 0) + sumOf (ofLot i l) (rest Quant.key c.key h.quants.xs) := by
  rw [sumOf_perm (counts_quants h c hs)]
  split
  · rename_i h0
    rw [h0]
    split <;> omega
  · rfl
theorem counts_balance (h : House) (c : Counted) (hs : Sound h) (i l : Str) : (h.counts c).balance i l = h.balance i l := by
  refine balance_eq ?_
  rw [counts_sum h c hs, was_sum h c hs]
  generalize sumOf (ofLot i l) (rest Quant.key c.key h.quants.xs) = r
  have ht := counts_tot h c i l
  generalize ((h.counts c).tot i l).net = a at *
  generalize (h.tot i l).net = b at *
  have hm : Cg (h.more c) (c.qty - (h.was c).qty) := cg_w _
  by_cases hi : c.item = i ∧ c.lot = l
  · rw [if_pos hi] at ht
    rw [if_pos hi, if_pos hi]
    have h1 := ht.trans (Cg.add (Cg.refl b) hm)
    have h2 := Cg.sub h1 (Cg.refl (c.qty + r))
    have e : b + (c.qty - (h.was c).qty) - (c.qty + r) = b - ((h.was c).qty + r) := by omega
    rw [e] at h2
    exact h2
  · rw [if_neg hi] at ht
    rw [if_neg hi, if_neg hi]
    rw [Int.add_zero] at ht
    exact Cg.sub ht (Cg.refl _)
theorem counts_sound {h : House} {c : Counted} (hs : Sound h) (h0 : 0 ≤ c.qty) (he : h.setE c = 0) : Sound (h.counts c) := by
  have hp := counts_quants h c hs
  have hheld : ¬ c.qty < (h.was c).held := by
    intro h1
    unfold House.setE at he
    rw [if_pos h1] at he; cases he
  refine ⟨fun x hx => ?_, ?_, ?_⟩
  · have := hp.mem_iff.1 hx
    split at this
    · exact hs.good x ((rest_mem Quant.key).1 this).1
    · rename_i hq
      rcases List.mem_cons.1 this with rfl | h2
      · have := was_held hs c
        exact qBad_iff.2 ⟨this, show (h.was c).held ≤ c.qty by omega, show 1 ≤ c.qty by omega⟩
      · exact hs.good x ((rest_mem Quant.key).1 h2).1
  · refine Uniq.perm Quant.key ?_ hp.symm
    split
    · exact rest_uniq Quant.key hs.q
    · exact uniq_cons Quant.key (x := h.now c) hs.q
  · unfold House.counts
    split
    · show Uniq Total.name (putL totalCmp (h.toTotal c) (h.setQuant (h.now c)).totals.xs)
      rw [(setQuant_same h (h.now c)).1]
      exact Uniq.perm Total.name (uniq_cons Total.name hs.t) (put_perm Total.name totalCmp total0 _ _ hs.t).symm
    · rw [(setQuant_same h (h.now c)).1]; exact hs.t

/-! ### All that was counted -/
structure After (h g : House) (cs : List Counted) : Prop where
  sound : Sound g
  bal : ∀ i l, g.balance i l = h.balance i l
  yes : ∀ x ∈ cs, (g.quant? x.key).isSome = decide (0 < x.qty) ∧ ((g.quant? x.key).getD Quant.zero).qty = x.qty
  no : ∀ k, (∀ x ∈ cs, x.key ≠ k) → g.quant? k = h.quant? k
  bins : g.bins = h.bins
  counted : g.counted = h.counted
  items : g.items = h.items
theorem counts_same (h : House) (c : Counted) : (h.counts c).bins = h.bins ∧ (h.counts c).counted = h.counted ∧ (h.counts c).items = h.items := by
  obtain ⟨s1, s2, s3, s4, -⟩ := setQuant_same h (h.now c)
  unfold House.counts
  split
  · exact ⟨s2, s3, s4⟩
  · exact ⟨s2, s3, s4⟩
theorem setAll_after : ∀ (cs : List Counted) (h g : House), Sound h → (∀ x ∈ cs, 0 ≤ x.qty) → Uniq Counted.key cs → h.setAll cs = (g, 0) → After h g cs
  | [], h, g, hs, _, _, hr => by
    cases hr
    exact ⟨hs, fun _ _ => rfl, fun x hx => (by cases hx), fun _ _ => rfl, rfl, rfl, rfl⟩
  | c :: cs, h, g, hs, h0, hu, hr => by
    unfold House.setAll at hr
    split at hr
    · rename_i he
      obtain ⟨u1, u2⟩ := List.pairwise_cons.1 hu
      have hc0 := h0 c (by simp)
      have a := setAll_after cs (h.counts c) g (counts_sound hs hc0 he) (fun x hx => h0 x (by simp [hx])) u2 hr
      obtain ⟨s1, s2, s3⟩ := counts_same h c
      refine ⟨a.sound, fun i l => (a.bal i l).trans (counts_balance h c hs i l), fun x hx => ?_, fun k hk => ?_, a.bins.trans s1, a.counted.trans s2, a.items.trans s3⟩
      · rcases List.mem_cons.1 hx with rfl | hx
        · rw [a.no x.key fun y hy => Ne.symm (u1 y hy), counts_quant? h x hs, if_pos rfl]
          split
          · rename_i e; rw [e]; exact ⟨rfl, rfl⟩
          · rename_i e
            refine ⟨?_, rfl⟩
            rw [decide_eq_true (show (0 : Int) < x.qty by omega)]; rfl
        · exact a.yes x hx
      · rw [a.no k fun x hx => hk x (by simp [hx]), counts_quant? h c hs, if_neg (fun e => hk c (by simp) e.symm)]
    · rename_i he
      exact absurd (congrArg Prod.snd hr) he
theorem load_sameQ {g h : House} (hq : g.quants = h.quants) (hi : g.items = h.items) (c : Str) : g.load c = h.load c := by
  unfold House.load
  rw [hq]
  congr 1
  funext a q
  unfold ldStep House.item?
  rw [hi]

/-- A count that is closed. -/
structure Closed (h g : House) (c : Str) : Prop where
  plain : g.Plain
  bin : ∃ b, g.bin? c = some b ∧ b.frozen = false ∧ beyond (g.load c) b = false
  bal : ∀ i l, g.balance i l = h.balance i l
  yes : ∀ x ∈ h.counted.xs, x.bin = c → (g.quant? x.key).isSome = decide (0 < x.qty) ∧ ((g.quant? x.key).getD Quant.zero).qty = x.qty
  no : ∀ k, (∀ x ∈ h.counted.xs, x.bin = c → x.key ≠ k) → g.quant? k = h.quant? k
theorem close_no {h g : House} {c r : Str} {e : Int} (hr : h.close c r = (g, e)) (he : e ≠ 0) : g = House.zero := by
  unfold House.close at hr
  split at hr
  · cases hr; rfl
  split at hr
  · cases hr; rfl
  split at hr
  · cases hr; rfl
  unfold House.closed at hr
  split at hr
  · cases hr; rfl
  split at hr
  · cases hr; rfl
  unfold House.count at hr
  split at hr
  · cases hr; exact absurd rfl he
  · cases hr; rfl
theorem close_yes {h g : House} {c r : Str} (hp : h.Plain) (hr : h.close c r = (g, 0)) : Closed h g c := by
  obtain ⟨p1, p2, p3, p4, p5⟩ := plain_iff.1 hp
  unfold House.close at hr
  split at hr
  · rename_i h1; exact absurd (congrArg Prod.snd hr) h1
  split at hr
  · rename_i h1; exact absurd (congrArg Prod.snd hr) h1
  rename_i h1 h2
  split at hr
  · rename_i h3; exact absurd (congrArg Prod.snd hr) h3
  rename_i h3
  obtain ⟨⟨g1, e1⟩, hg1⟩ : ∃ p, p = h.setAll (h.counted.xs.filter (inBin c)) := ⟨_, rfl⟩
  rw [← hg1] at h3 hr
  have he1 : e1 = 0 := by simpa using h3
  subst he1
  have hmem : ∀ x, x ∈ h.counted.xs.filter (inBin c) ↔ x ∈ h.counted.xs ∧ x.bin = c := fun x => by simp [List.mem_filter, inBin]
  have a := setAll_after _ h g1 ⟨p1, p2, p3⟩ (fun x hx => by
    have := p4 x ((hmem x).1 hx).1
    unfold cBad at this
    have := of_decide_eq_false this
    omega) (p5.filter _) hg1.symm
  have hfz : ∃ b, h.bin? c = some b ∧ b.frozen = true := by
    unfold House.frozenE at h2
    cases hb : h.bin? c with
    | none => rw [hb] at h2; simp at h2
    | some b =>
      rw [hb] at h2
      cases hf : b.frozen with
      | true => exact ⟨b, rfl, hf⟩
      | false => simp [hf] at h2
  obtain ⟨b, hb, hbf⟩ := hfz
  rw [hb] at hr
  unfold House.closed at hr
  split at hr
  · simp at hr
  split at hr
  · simp at hr
  rename_i h4 h5
  have hb1 : g1.bin? c = some b := by unfold House.bin?; rw [a.bins]; exact hb
  unfold House.count House.freeze at hr
  rw [hb1] at hr
  simp [hbf] at hr
  have hbc : b.code = c := by
    unfold House.bin? at hb
    simpa using List.find?_some hb
  obtain ⟨b', hb'⟩ : ∃ b' : Bin, b' = { b with frozen := false } := ⟨_, rfl⟩
  have hg : g = (g1.withBin b').without c := by rw [hb']; exact hr.symm
  have hq : g.quants = g1.quants := by rw [hg]; rfl
  have ht : g.totals = g1.totals := by rw [hg]; rfl
  have hi : g.items = g1.items := by rw [hg]; rfl
  have hcn : g.counted.xs = h.counted.xs.filter (notIn c) := by rw [hg, ← a.counted]; rfl
  refine ⟨plain_iff.2 ⟨by rw [hq]; exact a.sound.good, by rw [hq]; exact a.sound.q, by rw [ht]; exact a.sound.t, fun x hx => ?_, by rw [hcn]; exact p5.filter _⟩, ⟨b', ?_, by rw [hb'], ?_⟩, fun i l => ?_, fun x hx hxc => ?_, fun k hk => ?_⟩
  · rw [hcn] at hx; exact p4 x (List.mem_filter.1 hx).1
  · have : g.bins.xs = putL binCmp b' g1.bins.xs := by rw [hg]; rfl
    unfold House.bin?
    rw [this, find_put Bin.code binCmp bin0, if_pos (show b'.code = c by rw [hb']; exact hbc)]
  · rw [load_sameQ hq hi]
    have : beyond (g1.load c) b' = beyond (g1.load c) b := by rw [hb']; rfl
    rw [this]
    simpa using h5
  · have : g.balance i l = g1.balance i l := by unfold House.balance House.sum House.total?; rw [hq, ht]
    rw [this]; exact a.bal i l
  · have : g.quant? x.key = g1.quant? x.key := by unfold House.quant?; rw [hq]
    rw [this]; exact a.yes x ((hmem x).2 ⟨hx, hxc⟩)
  · have : g.quant? k = g1.quant? k := by unfold House.quant?; rw [hq]
    rw [this]; exact a.no k fun x hx => hk x ((hmem x).1 hx).1 ((hmem x).1 hx).2
end Go.Fw
