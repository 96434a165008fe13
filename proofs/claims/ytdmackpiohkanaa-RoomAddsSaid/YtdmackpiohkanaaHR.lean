/-
  Room: what loads, fits and capacities are; plain facts.
-/
import Derived.Test.YtdmackpiohkanaaHK
set_option linter.unusedVariables false
set_option linter.unusedSimpArgs false
set_option maxRecDepth 10000
namespace Go.Fw
open Go.Proofs

def w64 (n : Int) : Int := IntKind.i64.wrap n
abbrev Am := Int × Int
def plus (a : Am) (x : Item) (q : Int) : Am := (w64 (a.1 + w64 (q * x.volume)), w64 (a.2 + w64 (q * x.weight)))
def beyond (a : Am) (b : Bin) : Bool := decide (b.volume < a.1) || decide (b.weight < a.2)
def ldStep (h : House) (c : Str) (a : Am) (q : Quant) : Am := if q.bin = c then (match h.item? q.item with | some x => plus a x q.qty | none => a) else a
def House.load (h : House) (c : Str) : Am := h.quants.xs.foldl (ldStep h c) (0, 0)
def House.room (h : House) (c i : Str) (n : Int) : Int := match h.bin? c, h.item? i with
  | some b, some x => if beyond (plus (h.load c) x n) b = true then 26 else 0
  | _, _ => 12
def House.full (h : House) (b : Bin) : Bool := beyond (h.load b.code) b
def House.over (h : House) : List Str := (h.bins.xs.filter h.full).map Bin.code
def stQ (c i : Str) (q : Quant) : Bool := decide (q.bin = c) && decide (q.item = i)
def House.stands (h : House) (c i : Str) : Bool := h.quants.xs.any (stQ c i)
def badM (m v w : Int) : Bool := decide (v < 0) || decide (m < v) || (decide (w < 0) || decide (m < w))
def House.resize (h : House) (i : Str) (v w : Int) : House × Int := match h.item? i with
  | none => (House.zero, 12)
  | some x => if badM 1000000 v w = true then (House.zero, 5)
    else if (h.withItem { x with volume := v, weight := w }).bins.xs.any (fun b => (h.withItem { x with volume := v, weight := w }).stands b.code i && (h.withItem { x with volume := v, weight := w }).full b) = true then (House.zero, 26)
    else (h.withItem { x with volume := v, weight := w }, 0)
def House.limit (h : House) (c : Str) (v w : Int) : House × Int := match h.bin? c with
  | none => (House.zero, 12)
  | some b => if badM 1000000000000 v w = true then (House.zero, 5)
    else if beyond (h.load c) { b with volume := v, weight := w } = true then (House.zero, 26)
    else (h.withBin { b with volume := v, weight := w }, 0)

theorem item_code {h : House} {i : Str} {x : Item} (e : h.item? i = some x) : x.code = i := by
  have := List.find?_some e
  simpa using this
theorem bin_code {h : House} {c : Str} {b : Bin} (e : h.bin? c = some b) : b.code = c := by
  have := List.find?_some e
  simpa using this
theorem over_nil {h : House} : h.over = [] ↔ ∀ b ∈ h.bins.xs, h.full b = false := by
  unfold House.over
  rw [List.map_eq_nil_iff, List.filter_eq_nil_iff]
  simp
theorem foldl_same {α β : Type} {f g : β → α → β} : ∀ {l : List α} {b : β}, (∀ b, ∀ a ∈ l, f b a = g b a) → l.foldl f b = l.foldl g b
  | [], _, _ => rfl
  | a :: l, b, h => by
    rw [List.foldl_cons, List.foldl_cons, h b a (by simp)]
    exact foldl_same fun b a ha => h b a (by simp [ha])
theorem resize_holds {h g : House} {i : Str} {v w : Int} (hr : h.resize i v w = (g, 0)) (ho : h.over = []) : g.over = [] := by
  unfold House.resize at hr
  cases hi : h.item? i with
  | none => rw [hi] at hr; simp at hr
  | some x =>
    rw [hi] at hr
    simp only at hr
    split at hr
    · simp at hr
    split at hr
    · simp at hr
    rename_i hany
    have hg : g = h.withItem { x with volume := v, weight := w } := by simpa using hr.symm
    rw [← hg] at hany
    have hbins : g.bins = h.bins := by rw [hg]; rfl
    have hqs : g.quants = h.quants := by rw [hg]; rfl
    have hxc := item_code hi
    rw [over_nil] at ho ⊢
    intro b hb
    cases hst : g.stands b.code i with
    | true =>
      cases hf : g.full b with
      | false => rfl
      | true => exact absurd (List.any_eq_true.2 ⟨b, hb, by rw [hst, hf]; rfl⟩) hany
    | false =>
      have hl : g.load b.code = h.load b.code := by
        unfold House.load
        rw [hqs]
        refine foldl_same fun a q hq => ?_
        unfold ldStep
        split
        · rename_i hqb
          have hne : q.item ≠ i := fun e => by
            have := List.any_eq_false.1 (show g.quants.xs.any (stQ b.code i) = false from hst) q (by rw [hqs]; exact hq)
            simp [stQ, hqb, e] at this
          have : g.item? q.item = h.item? q.item := by
            rw [hg, item_with, if_neg]
            intro e
            exact hne (e.symm.trans hxc)
          rw [this]
        · rfl
      have := ho b (by rw [← hbins]; exact hb)
      unfold House.full at this ⊢
      rw [hl]; exact this
theorem limit_holds {h g : House} {c : Str} {v w : Int} (hr : h.limit c v w = (g, 0)) (ho : h.over = []) : g.over = [] := by
  unfold House.limit at hr
  cases hi : h.bin? c with
  | none => rw [hi] at hr; simp at hr
  | some b =>
    rw [hi] at hr
    simp only at hr
    split at hr
    · simp at hr
    split at hr
    · simp at hr
    rename_i hbe
    have hg : g = h.withBin { b with volume := v, weight := w } := by simpa using hr.symm
    have hbc := bin_code hi
    have hl : ∀ c, g.load c = h.load c := fun c => by
      unfold House.load
      rw [hg]
      exact foldl_same fun a q hq => rfl
    rw [over_nil] at ho ⊢
    intro d hd
    unfold House.full
    rw [hl]
    rw [hg] at hd
    rcases put_mem binCmp _ _ d hd with rfl | hd
    · show beyond (h.load b.code) _ = false
      rw [show h.load b.code = h.load c by rw [hbc]]; simpa using hbe
    · exact ho d hd
/-- Behind one quant more. -/
theorem load_more (h : House) (q : Quant) (sp : List (List PV)) (c : Str) : ({ h with quants := ⟨h.quants.xs ++ [q], sp⟩ } : House).load c = ldStep h c (h.load c) q := by
  unfold House.load
  rw [List.foldl_append]
  rfl
theorem nodup_inj {α κ : Type} {key : α → κ} : ∀ {l : List α}, (l.map key).Nodup → ∀ {a b : α}, a ∈ l → b ∈ l → key a = key b → a = b
  | [], _, a, _, h, _, _ => by simp at h
  | x :: l, hn, a, b, ha, hb, e => by
    rw [List.map_cons, List.nodup_cons] at hn
    rcases List.mem_cons.1 ha with rfl | ha' <;> rcases List.mem_cons.1 hb with rfl | hb'
    · rfl
    · exact absurd (e ▸ List.mem_map_of_mem hb') hn.1
    · exact absurd (e ▸ List.mem_map_of_mem ha') hn.1
    · exact nodup_inj hn.2 ha' hb' e
theorem room_adds {h : House} {c i : Str} {n : Int} {q : Quant} {sp : List (List PV)} (hu : (h.bins.xs.map Bin.code).Nodup) (hq1 : q.bin = c) (hq2 : q.item = i) (hq3 : q.qty = n) (hne : h.room c i n ≠ 12) :
    (h.room c i n = 26 ∧ c ∈ ({ h with quants := ⟨h.quants.xs ++ [q], sp⟩ } : House).over) ∨ (h.room c i n = 0 ∧ c ∉ ({ h with quants := ⟨h.quants.xs ++ [q], sp⟩ } : House).over) := by
  unfold House.room at hne ⊢
  cases hb : h.bin? c with
  | none => rw [hb] at hne; exact absurd rfl hne
  | some b =>
    cases hi : h.item? i with
    | none => rw [hb, hi] at hne; exact absurd rfl hne
    | some x =>
      simp only
      have hbc := bin_code hb
      have hbm : b ∈ h.bins.xs := List.mem_of_find?_eq_some hb
      have hl : ({ h with quants := ⟨h.quants.xs ++ [q], sp⟩ } : House).load c = plus (h.load c) x n := by
        rw [load_more]
        unfold ldStep
        rw [if_pos hq1, hq2, hi, hq3]
      have huniq : ∀ d ∈ h.bins.xs, d.code = c → d = b := by
        exact fun d hd hdc => nodup_inj hu hd hbm (hdc.trans hbc.symm)
      have hmem : c ∈ ({ h with quants := ⟨h.quants.xs ++ [q], sp⟩ } : House).over ↔ beyond (plus (h.load c) x n) b = true := by
        unfold House.over
        rw [List.mem_map]
        constructor
        · rintro ⟨d, hd, hdc⟩
          obtain ⟨hd1, hd2⟩ := List.mem_filter.1 hd
          have := huniq d hd1 hdc
          subst this
          unfold House.full at hd2
          rw [hdc, hl] at hd2
          exact hd2
        · intro hbe
          refine ⟨b, List.mem_filter.2 ⟨hbm, ?_⟩, hbc⟩
          unfold House.full
          rw [hbc, hl]; exact hbe
      split
      · rename_i hbe; exact .inl ⟨rfl, hmem.2 hbe⟩
      · rename_i hbe; exact .inr ⟨rfl, fun e => hbe (hmem.1 e)⟩
end Go.Fw
