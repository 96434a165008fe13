/-
  Names, lots, the layout: plain facts.
-/
import Derived.Test.YtdmackpiohkanaaHK
set_option linter.unusedVariables false
set_option linter.unusedSimpArgs false
set_option maxRecDepth 10000
namespace Go.Fw
open Go.Proofs

/-! ### Names -/
def badB (b : UInt8) : Bool := decide ((b.toNat : Int) ≤ 32) || decide ((126 : Int) < (b.toNat : Int))
def nameBad (s : Str) : Bool := decide (s = ⟨#[]⟩) || s.data.toList.any badB
def nameE (s : Str) : Int := if (12 : Int) < (s.size : Int) then 4 else if nameBad s = true then 3 else 0

/-! ### Lots -/
def House.addLot (h : House) (x : Lot) : House × Int :=
  if (h.item? x.item).isSome = false then (House.zero, 12)
  else if ((h.item? x.item).getD Item.zero).lots = false then (House.zero, 21)
  else if nameE x.code ≠ 0 then (House.zero, nameE x.code)
  else if (decide (x.expiry < 0) || decide (100000 < x.expiry)) = true then (House.zero, 5)
  else if (h.lot? x.item x.code).isSome = true then (House.zero, 11)
  else if 128 ≤ h.lots.xs.length then (House.zero, 14)
  else (h.withLot x, 0)
theorem addLot_no {h g : House} {x : Lot} {e : Int} (hr : h.addLot x = (g, e)) (he : e ≠ 0) : g = House.zero := by
  unfold House.addLot at hr
  repeat' split at hr
  all_goals (simp at hr; first | exact hr.1.symm | exact absurd hr.2.symm he)
theorem quant_fold {i c : Str} : ∀ {l : List Quant} {n : Int}, (∀ q ∈ l, ¬ (q.item = i ∧ q.lot = c)) → l.foldl (addQ i c) n = n
  | [], _, _ => rfl
  | q :: l, n, h => by
    rw [List.foldl_cons, addQ, if_neg (h q (by simp))]
    exact quant_fold fun q hq => h q (by simp [hq])
theorem addLot_yes {h g : House} {x : Lot} (hr : h.addLot x = (g, 0)) :
    g = h.withLot x ∧ g.lots.xs.length = h.lots.xs.length + 1 ∧ (g.addLot x).2 = 11 ∧ g.day x.item x.code = (if x.expiry = 0 then 100001 else x.expiry) ∧ ((∀ q ∈ h.quants.xs, ¬ (q.item = x.item ∧ q.lot = x.code)) → g.fits x.item x.code 1 = 0) := by
  unfold House.addLot at hr
  split at hr
  · simp at hr
  rename_i h1
  split at hr
  · simp at hr
  rename_i h2
  split at hr
  · rename_i h3; simp at hr; exact absurd hr.2 h3
  rename_i h3
  split at hr
  · simp at hr
  rename_i h4
  split at hr
  · simp at hr
  rename_i h5
  split at hr
  · simp at hr
  rename_i h6
  have hg : g = h.withLot x := by simpa using hr.symm
  have hi : ∀ c, g.item? c = h.item? c := fun c => by rw [hg]; rfl
  have hl : g.lot? x.item x.code = some x := by rw [hg, lot_with, if_pos ⟨rfl, rfl⟩]
  refine ⟨hg, ?_, ?_, ?_, fun hq => ?_⟩
  · rw [hg]
    show (putL lotCmp x h.lots.xs).length = _
    rw [put_len, if_neg]
    rw [findB_find]
    have hq : eqQ lotCmp x = fun y : Lot => decide (y.item = x.item) && decide (y.code = x.code) := by
      funext y; rw [Bool.eq_iff_iff]; simp [eqQ, lotCmp_eq]
    rw [hq]; exact h5
  · unfold House.addLot
    rw [hi, hl, if_neg h1, if_neg h2, if_neg h3, if_neg h4]; rfl
  · unfold House.day
    rw [hl]; rfl
  · unfold House.fits
    rw [hi, hl, if_neg h1]
    have h7 : ((h.item? x.item).getD Item.zero).lots = true := by simpa using h2
    have hqs : g.quants = h.quants := by rw [hg]; rfl
    rw [h7, hqs, quant_fold hq]
    simp

/-! ### The layout -/
def House.addZone (h : House) (x : Zone) : House × Int :=
  if nameE x.code ≠ 0 then (House.zero, nameE x.code)
  else if nameE x.site ≠ 0 then (House.zero, nameE x.site)
  else if (h.zone? x.code).isSome = true then (House.zero, 11)
  else if 16 ≤ h.zones.xs.length then (House.zero, 14)
  else (h.withZone x, 0)
def outR (m n : Int) : Bool := decide (n < 0) || decide (m < n)
def badPlace (x : Bin) : Bool := outR 999 x.aisle || outR 999 x.place || outR 1000000000000 x.volume || outR 1000000000000 x.weight
def House.refuses (h : House) (x : Bin) : Int :=
  if nameE x.code ≠ 0 then nameE x.code
  else if (h.zone? x.zone).isSome = false then 12
  else if (decide (x.kind < 1) || decide (4 < x.kind)) = true then 23
  else if badPlace x = true then 5
  else if x.frozen = true then 13
  else if (h.bin? x.code).isSome = true then 11
  else if 64 ≤ h.bins.xs.length then 15
  else 0
def House.addBin (h : House) (x : Bin) : House × Int := if h.refuses x = 0 then (h.withBin x, 0) else (House.zero, h.refuses x)
def House.siteOf (h : House) (c : Str) : Str := match h.bin? c with
  | none => ⟨#[]⟩
  | some b => ((h.zone? b.zone).getD Zone.zero).site
def House.freeze (h : House) (c : Str) (on : Bool) : House × Int := match h.bin? c with
  | none => (House.zero, 12)
  | some b => if (on && b.frozen) = true then (House.zero, 25) else if on = b.frozen then (House.zero, 13) else (h.withBin { b with frozen := on }, 0)
theorem addBin_no {h g : House} {x : Bin} {e : Int} (hr : h.addBin x = (g, e)) (he : e ≠ 0) : g = House.zero := by
  unfold House.addBin at hr
  split at hr
  · simp at hr; exact absurd hr.2.symm he
  · simp at hr; exact hr.1.symm
theorem refuses_no {h : House} {x : Bin} (hr : h.refuses x = 0) : nameE x.code = 0 ∧ (h.zone? x.zone).isSome = true ∧ (1 ≤ x.kind ∧ x.kind ≤ 4) ∧ badPlace x = false ∧ x.frozen = false ∧ h.bin? x.code = none ∧ h.bins.xs.length < 64 := by
  unfold House.refuses at hr
  split at hr
  · rename_i h1; exact absurd hr h1
  rename_i h1
  split at hr
  · cases hr
  rename_i h2
  split at hr
  · cases hr
  rename_i h3
  split at hr
  · cases hr
  rename_i h4
  split at hr
  · cases hr
  rename_i h5
  split at hr
  · cases hr
  rename_i h6
  split at hr
  · cases hr
  rename_i h7
  simp only [Bool.or_eq_true, decide_eq_true_eq, not_or, Int.not_lt] at h3
  refine ⟨by simpa using h1, (Bool.not_eq_false _).mp h2, h3, by simpa using h4, by simpa using h5, by simpa using h6, by omega⟩
theorem put_back {bs : List Bin} {b b' : Bin} (hc : b'.code = b.code) (hf : bs.find? (fun y => decide (y.code = b.code)) = some b) : putL binCmp b (putL binCmp b' bs) = bs := by
  obtain ⟨k, hk, hz, hp, hlo⟩ := put_set Bin.code binCmp bin0 b' bs b (by rw [hc]; exact hf)
  rw [hp]
  have hf2 : (bs.set k b').find? (fun y => decide (y.code = b.code)) = some b' := by
    rw [← hp, find_put Bin.code binCmp bin0, if_pos hc]
  obtain ⟨j, hj, hy, hp2, hlo2⟩ := put_set Bin.code binCmp bin0 b (bs.set k b') b' hf2
  have hjk : j = k := by
    rcases Nat.lt_trichotomy j k with h | h | h
    · have hjl : j < bs.length := by omega
      rw [List.getElem?_set_ne (by omega)] at hy
      exact absurd rfl (hlo j b' h hy)
    · exact h
    · exact absurd hc (hlo2 k b' h (by simp [hk]))
  subst hjk
  rw [hp2, List.set_set]
  obtain ⟨hlt, rfl⟩ := List.getElem?_eq_some_iff.1 hz
  exact List.set_getElem_self hlt
theorem addBin_yes {h g : House} {x : Bin} (hr : h.addBin x = (g, 0)) :
    g = h.withBin x ∧ g.bins.xs.length = h.bins.xs.length + 1 ∧ g.bin? x.code = some x ∧ g.siteOf x.code = ((h.zone? x.zone).getD Zone.zero).site ∧
    g.freeze x.code true = (g.withBin { x with frozen := true }, 0) ∧ (g.withBin { x with frozen := true }).bin? x.code = some { x with frozen := true } ∧
    (g.withBin { x with frozen := true }).freeze x.code false = ((g.withBin { x with frozen := true }).withBin x, 0) ∧ ((g.withBin { x with frozen := true }).withBin x).bins.xs = g.bins.xs := by
  unfold House.addBin at hr
  split at hr
  case isFalse h0 => simp at hr; exact absurd hr.2 h0
  rename_i h0
  obtain ⟨_, h2, h3, h4, h5, h6, h7⟩ := refuses_no h0
  have hg : g = h.withBin x := by simpa using hr.symm
  have hb : g.bin? x.code = some x := by rw [hg, bin_with, if_pos rfl]
  have hk : (g.withBin { x with frozen := true }).bin? x.code = some { x with frozen := true } := by rw [bin_with, if_pos rfl]
  have hx : ({ x with frozen := false } : Bin) = x := by cases x; simp at h5; simp [h5]
  refine ⟨hg, ?_, hb, ?_, ?_, hk, ?_, ?_⟩
  · rw [hg]
    show (putL binCmp x h.bins.xs).length = _
    rw [put_len, if_neg]
    rw [findB_find]
    have hq : eqQ binCmp x = fun y : Bin => decide (y.code = x.code) := by
      funext y; rw [Bool.eq_iff_iff]; rw [eqQ_key Bin.code binCmp bin0]; simp
    rw [hq]
    rw [show h.bins.xs.find? (fun y => decide (y.code = x.code)) = none from h6]; simp
  · unfold House.siteOf
    rw [hb, hg]; rfl
  · unfold House.freeze
    rw [hb]
    simp [h5]
  · unfold House.freeze
    rw [hk]
    simp only [Bool.false_and, Bool.false_eq_true, if_false]
    rw [hx]
  · exact put_back (b' := { x with frozen := true }) rfl hb
/-- A house as it grows from nothing. -/
structure House.Grown (h : House) : Prop where
  zlen : h.zones.xs.length ≤ 16
  blen : h.bins.xs.length ≤ 64
  zup : UpK Zone.code h.zones.xs
  bup : UpK Bin.code h.bins.xs
  good : ∀ b ∈ h.bins.xs, (h.zone? b.zone).isSome = true ∧ b.frozen = false ∧ (1 ≤ b.kind ∧ b.kind ≤ 4) ∧ 0 ≤ b.volume ∧ 0 ≤ b.weight
theorem grown_zero : House.zero.Grown := ⟨by simp [House.zero, Ls.nil], by simp [House.zero, Ls.nil], List.Pairwise.nil, List.Pairwise.nil, by simp [House.zero, Ls.nil]⟩
theorem grown_zone {h g : House} {x : Zone} (hh : h.Grown) (hr : h.addZone x = (g, 0)) : g.Grown := by
  unfold House.addZone at hr
  split at hr
  · rename_i h1; simp at hr; exact absurd hr.2 h1
  split at hr
  · rename_i h1; simp at hr; exact absurd hr.2 h1
  split at hr
  · simp at hr
  rename_i h3
  split at hr
  · simp at hr
  rename_i h4
  have hg : g = h.withZone x := by simpa using hr.symm
  subst hg
  refine ⟨?_, hh.blen, put_up Zone.code zoneCmp (fun _ _ => rfl) hh.zup, hh.bup, fun b hb => ?_⟩
  · have := (put_length zoneCmp x h.zones.xs).2
    show (putL zoneCmp x h.zones.xs).length ≤ 16
    omega
  · obtain ⟨g1, g2⟩ := hh.good b hb
    refine ⟨?_, g2⟩
    rw [zone_with]
    split
    · rfl
    · exact g1
theorem grown_bin {h g : House} {x : Bin} (hh : h.Grown) (hr : h.addBin x = (g, 0)) : g.Grown := by
  unfold House.addBin at hr
  split at hr
  case isFalse h0 => simp at hr; exact absurd hr.2 h0
  rename_i h0
  obtain ⟨_, h2, h3, h4, h5, h6, h7⟩ := refuses_no h0
  have hg : g = h.withBin x := by simpa using hr.symm
  subst hg
  refine ⟨hh.zlen, ?_, hh.zup, put_up Bin.code binCmp (fun _ _ => rfl) hh.bup, fun b hb => ?_⟩
  · have := (put_length binCmp x h.bins.xs).2
    show (putL binCmp x h.bins.xs).length ≤ 64
    omega
  · rcases put_mem binCmp x h.bins.xs b hb with rfl | hb
    · simp only [badPlace, outR, Bool.or_eq_false_iff, decide_eq_false_iff_not, Int.not_lt] at h4
      exact ⟨h2, h5, h3, by omega, by omega⟩
    · exact hh.good b hb
end Go.Fw
