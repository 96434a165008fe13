/-
  From the typed reading of an argument to the values of the abstract machine.
-/
import Derived.Test.YtdmackpiohkanaaFwV
import Derived.ProofKit
set_option linter.unusedVariables false
set_option linter.unusedSimpArgs false
namespace Go.Fw
open Go.RowKit

/-- A cell's type: a leaf, or a list of rows of leaves. -/
inductive CT where
  | k (k : Ck)
  | sl (ks : List Ck)
def toK : List CT → Option (List Ck)
  | [] => some []
  | .k k :: r => (toK r).map (k :: ·)
  | _ => none
def flatFsT (P : Program) (g : TypeId → Option (List CT)) : List Field → Nat → Option (List CT)
  | [], _ => some []
  | f :: fs, off => (g f.type).bind fun js => if f.offset = off ∧ P.cellsOf f.type = js.length then (flatFsT P g fs (off + js.length)).map (js ++ ·) else none
def flatT (P : Program) : Nat → TypeId → Option (List CT)
  | 0, _ => none
  | d + 1, t =>
    match P.underlying t with
    | some .bool => some [.k .b]
    | some (.int k) => some [.k (.i k)]
    | some .string => some [.k .s]
    | some (.slice e) => (flatT P d e).bind fun js => (toK js).bind fun ks => if P.cellsOf e = ks.length ∧ 0 < ks.length then some [.sl ks] else none
    | some (.struct fs) => (flatFsT P (flatT P d) fs.toList 0).bind fun js => if P.cellsOf t = js.length then some js else none
    | some (.array n e) => (flatT P d e).bind fun js => if P.cellsOf e = js.length ∧ P.cellsOf t = n * js.length then some (List.replicate n js).flatten else none
    | _ => none

def KOk : Ck → Value → Prop
  | .b, c => ∃ b, c = .bool b
  | .i k, c => ∃ n, c = .int k n ∧ k.min ≤ n ∧ n ≤ k.max
  | .s, c => ∃ s, c = .string s
def RowOk (ks : List Ck) (row : List Value) : Prop := row.length = ks.length ∧ ∀ (j : Nat) (k : Ck) (y : Value), ks[j]? = some k → row[j]? = some y → KOk k y
def CellOk (w : World) : CT → Value → Prop
  | .k k, c => KOk k c
  | .sl ks, c => ∃ (o : Option Addr) (len cap : Nat) (rows : List (List Value)), c = .slice o len cap ∧ rows.length = len ∧ len ≤ cap ∧ cap ≤ maxLen ∧ (∀ row ∈ rows, RowOk ks row) ∧
      (len ≠ 0 → ∃ b off, o = some ⟨b, off, none⟩ ∧ ∀ (i : Nat) (row : List Value), rows[i]? = some row → ∀ (j : Nat) (y : Value), row[j]? = some y → w.cell? ⟨b, off + (i * ks.length + j), none⟩ = some y)
def CellsOk (w : World) (cts : List CT) (cs : List Value) : Prop := cs.length = cts.length ∧ ∀ (j : Nat) (ct : CT) (y : Value), cts[j]? = some ct → cs[j]? = some y → CellOk w ct y

theorem CellsOk.nil {w : World} : CellsOk w [] [] := ⟨rfl, fun j ct y h => by simp at h⟩
theorem CellsOk.one {w : World} {ct : CT} {c : Value} (h : CellOk w ct c) : CellsOk w [ct] [c] := ⟨rfl, fun j ct' y h1 h2 => by
  cases j with
  | zero => simp at h1 h2; subst h1; subst h2; exact h
  | succ j => simp at h1⟩
theorem CellsOk.append {w : World} {a b : List CT} {x y : List Value} (h : CellsOk w a x) (k : CellsOk w b y) : CellsOk w (a ++ b) (x ++ y) := by
  refine ⟨by simp [h.1, k.1], fun j ct v h1 h2 => ?_⟩
  rcases Nat.lt_or_ge j a.length with hj | hj
  · rw [List.getElem?_append_left hj] at h1
    rw [List.getElem?_append_left (by rw [h.1]; exact hj)] at h2
    exact h.2 j ct v h1 h2
  · rw [List.getElem?_append_right hj] at h1
    rw [List.getElem?_append_right (by rw [h.1]; exact hj), h.1] at h2
    exact k.2 _ ct v h1 h2
theorem mapM_some {α β : Type} {f : α → Option β} : ∀ {l : List α} {ys : List β}, l.mapM f = some ys → ys.length = l.length ∧ ∀ (i : Nat) (x : α), l[i]? = some x → ∃ y, f x = some y ∧ ys[i]? = some y
  | [], ys, h => by simp at h; subst h; exact ⟨rfl, fun i x h => by simp at h⟩
  | x :: l, ys, h => by
    simp only [List.mapM_cons, Option.pure_def, Option.bind_eq_bind, Option.bind_eq_some_iff, Option.some.injEq] at h
    obtain ⟨y, hy, zs, hz, rfl⟩ := h
    obtain ⟨h1, h2⟩ := mapM_some hz
    refine ⟨by simp [h1], fun i x' hx => ?_⟩
    cases i with
    | zero => simp at hx; subst hx; exact ⟨y, hy, rfl⟩
    | succ i => exact h2 i x' (by simpa using hx)

theorem toK_rows {w : World} : ∀ {js : List CT} {ks : List Ck} {row : List Value}, toK js = some ks → CellsOk w js row → RowOk ks row
  | [], ks, row, h, hr => by cases h; exact ⟨hr.1, fun j k y h => by simp at h⟩
  | .k k :: js, ks, row, h, hr => by
    simp only [toK, Option.map_eq_some_iff] at h
    obtain ⟨ks', h', rfl⟩ := h
    cases row with
    | nil => have := hr.1; simp at this
    | cons y row =>
      have h0 : CellOk w (.k k) y := hr.2 0 _ y rfl rfl
      have ht : CellsOk w js row := ⟨by simpa using hr.1, fun j ct v a b => hr.2 (j + 1) ct v (by simpa using a) (by simpa using b)⟩
      have hrec := toK_rows h' ht
      refine ⟨by simp [hrec.1], fun j k' v a b => ?_⟩
      cases j with
      | zero => simp at a b; subst a; subst b; exact h0
      | succ j => exact hrec.2 j k' v (by simpa using a) (by simpa using b)
  | .sl _ :: js, ks, row, h, hr => by cases h

theorem cells?_at {w : World} {a : Addr} {n : Nat} {row : List Value} (h : w.cells? 0 a n = some row) : row.length = n ∧ ∀ (j : Nat) (y : Value), row[j]? = some y → w.cell? (a.add j) = some y := by
  unfold World.cells? at h
  rw [if_pos (Nat.zero_le _)] at h
  obtain ⟨h1, h2⟩ := mapM_some h
  refine ⟨by simpa using h1, fun j y hy => ?_⟩
  have hj : j < n := by have := (List.getElem?_eq_some_iff.1 hy).1; rw [h1] at this; simpa using this
  obtain ⟨z, hz, hzj⟩ := h2 j j (by simp [hj])
  rw [hy] at hzj; cases hzj; exact hz

theorem cell_spot {w : World} {a : Addr} {y : Value} (h : w.cell? a = some y) : a.spot = none := by
  unfold World.cell? at h
  split at h
  · split at h
    · cases h
    · rename_i hs; simpa using hs
  · cases h

theorem trod_flat {H : Type} {enc : TypeId × Value → H} {P : Program} {w : World} {sp : Nat → Bool} {held : Bool} : ∀ (n : Nat) {t : TypeId} {cts : List CT}, flatT P n t = some cts → ∀ {fuel : Nat} {cs : List Value} {x : DataW H × List MemPlace}, DataW.trod enc P w 0 sp held fuel t cs = some x → CellsOk w cts cs
  | 0, t, cts, h, _, _, _, _ => by cases h
  | n + 1, t, cts, h, 0, cs, x, hx => by cases hx
  | n + 1, t, cts, h, fuel + 1, cs, x, hx => by
    have ih := @trod_flat H enc P w sp held n
    simp only [flatT] at h
    split at h
    · rename_i hu
      cases h
      unfold DataW.trod at hx
      rw [hu] at hx
      split at hx <;> first | cases hx | skip
      all_goals (first | (rename_i e; cases e; done) | skip)
      rename_i b _
      exact .one ⟨b, rfl⟩
    · rename_i k hu
      cases h
      unfold DataW.trod at hx
      rw [hu] at hx
      split at hx <;> first | cases hx | skip
      all_goals (first | (rename_i e; cases e; done) | skip)
      rename_i k0 k' m e
      cases e
      split at hx
      · rename_i hk; obtain ⟨rfl, hwf⟩ := hk; simp only [Lit.wf, Bool.and_eq_true, decide_eq_true_eq] at hwf; exact .one ⟨m, rfl, hwf⟩
      · cases hx
    · rename_i hu
      cases h
      unfold DataW.trod at hx
      rw [hu] at hx
      split at hx <;> first | cases hx | skip
      all_goals (first | (rename_i e; cases e; done) | skip)
      rename_i s _
      exact .one ⟨s, rfl⟩
    · rename_i e hu
      simp only [Option.bind_eq_some_iff] at h
      obtain ⟨js, hjs, ks, hks, h⟩ := h
      split at h
      · rename_i hc
        cases h
        unfold DataW.trod at hx
        rw [hu] at hx
        split at hx <;> first | cases hx | skip
        all_goals (first | (rename_i e; cases e; done) | skip)
        · exact .one ⟨none, 0, 0, [], rfl, rfl, Nat.le_refl _, Nat.zero_le _, by simp, by simp⟩
        · rename_i e' a len cap e1
          cases e1
          simp only at hx
          split at hx
          · rename_i hb
            simp only [Option.bind_eq_some_iff] at hx
            obtain ⟨elems, hel, hx⟩ := hx
            obtain ⟨h1, h2⟩ := mapM_some hel
            have hrow : ∀ i, i < len → ∃ row, w.cells? 0 (a.add (i * P.cellsOf e)) (P.cellsOf e) = some row ∧ RowOk ks row := by
              intro i hi
              obtain ⟨y, hy, _⟩ := h2 i i (by simp [hi])
              obtain ⟨row, hr, ht⟩ := Option.bind_eq_some_iff.1 hy
              exact ⟨row, hr, toK_rows hks (ih hjs ht)⟩
            refine .one ⟨some a, len, cap, (List.range len).map fun i => (w.cells? 0 (a.add (i * P.cellsOf e)) (P.cellsOf e)).getD [], rfl, by simp, hb.2.1, hb.2.2, ?_, ?_⟩
            · intro row hr
              obtain ⟨i, hi, rfl⟩ := List.mem_map.1 hr
              obtain ⟨row, h3, h4⟩ := hrow i (List.mem_range.1 hi)
              rw [h3]; exact h4
            · intro hne
              obtain ⟨row0, h3, h4⟩ := hrow 0 (by omega)
              have hspot : a.spot = none := by
                obtain ⟨g1, g2⟩ := cells?_at h3
                have hpos : 0 < row0.length := by rw [g1]; omega
                have := g2 0 row0[0] (by simp [hpos])
                have := cell_spot this
                simpa [Addr.add] using this
              obtain ⟨b, off, spot⟩ := a
              simp only at hspot
              subst hspot
              refine ⟨b, off, rfl, fun i row hr j y hy => ?_⟩
              simp only [List.getElem?_map, Option.map_eq_some_iff] at hr
              obtain ⟨i', hi', rfl⟩ := hr
              have hil : i < len := by have := (List.getElem?_eq_some_iff.1 hi').1; simpa using this
              have : i' = i := by simp [hil] at hi'; exact hi'.symm
              subst this
              obtain ⟨row, h5, h6⟩ := hrow i' hil
              rw [h5] at hy
              have := (cells?_at h5).2 j y hy
              rw [← hc.1]
              have e1 : ((⟨b, off, none⟩ : Addr).add (i' * P.cellsOf e)).add j = ⟨b, off + (i' * P.cellsOf e + j), none⟩ := by
                simp only [Addr.add]
                by_cases z1 : i' * P.cellsOf e = 0
                · by_cases z2 : j = 0 <;> simp [z1, z2]
                · by_cases z2 : j = 0 <;> simp [z1, z2, Nat.add_assoc]
              rw [← e1]; exact this
          · cases hx
      · cases h
    · rename_i fs hu
      simp only [Option.bind_eq_some_iff] at h
      obtain ⟨js, hjs, h⟩ := h
      split at h
      · rename_i hc
        cases h
        unfold DataW.trod at hx
        rw [hu] at hx
        simp only at hx
        split at hx
        · rename_i hlen
          obtain ⟨ys, hys, _⟩ := Option.map_eq_some_iff.1 hx
          obtain ⟨h1, h2⟩ := mapM_some hys
          have key : ∀ (l : List Field) (off : Nat) (js : List CT), flatFsT P (flatT P n) l off = some js → (∀ f ∈ l, ∃ y, DataW.trod enc P w 0 sp held fuel f.type ((cs.drop f.offset).take (P.cellsOf f.type)) = some y) → off + js.length = cs.length → CellsOk w js (cs.drop off) := by
            intro l
            induction l with
            | nil =>
              intro off js h _ hl
              cases h
              rw [List.drop_eq_nil_of_le (by simp at hl; omega)]
              exact .nil
            | cons f l ihl =>
              intro off js h hall hl
              simp only [flatFsT, Option.bind_eq_some_iff] at h
              obtain ⟨j1, hj1, h⟩ := h
              split at h
              · rename_i hoff
                obtain ⟨j2, hj2, rfl⟩ := Option.map_eq_some_iff.1 h
                obtain ⟨y, hy⟩ := hall f (by simp)
                rw [hoff.1, hoff.2] at hy
                have h3 := ih hj1 hy
                simp only [List.length_append] at hl
                have h4 := ihl _ _ hj2 (fun f' hf' => hall f' (by simp [hf'])) (by omega)
                have : cs.drop off = (cs.drop off).take j1.length ++ cs.drop (off + j1.length) := by
                  rw [← List.drop_drop, List.take_append_drop]
                rw [this]
                exact h3.append h4
              · cases h
          have := key fs.toList 0 _ hjs (fun f hf => by
            obtain ⟨i, hi, rfl⟩ := List.mem_iff_getElem.1 hf
            obtain ⟨y, hy, _⟩ := h2 i fs.toList[i] (List.getElem?_eq_getElem hi)
            exact ⟨y, hy⟩) (by omega)
          simpa using this
        · cases hx
      · cases h
    · rename_i m e hu
      simp only [Option.bind_eq_some_iff] at h
      obtain ⟨js, hjs, h⟩ := h
      split at h
      · rename_i hc
        cases h
        unfold DataW.trod at hx
        rw [hu] at hx
        simp only at hx
        split at hx
        · rename_i hlen
          obtain ⟨ys, hys, _⟩ := Option.map_eq_some_iff.1 hx
          obtain ⟨h1, h2⟩ := mapM_some hys
          have key : ∀ (q i : Nat), i + q = m → CellsOk w (List.replicate q js).flatten (cs.drop (i * js.length)) := by
            intro q
            induction q with
            | zero =>
              intro i hi
              have him : i = m := by omega
              rw [List.drop_eq_nil_of_le (by rw [hlen, hc.2, him]; exact Nat.le_refl _)]
              exact .nil
            | succ q ihq =>
              intro i hi
              have him : i < m := by omega
              obtain ⟨y, hy, _⟩ := h2 i i (by simp [him])
              rw [hc.1] at hy
              have h3 := ih hjs hy
              have h4 := ihq (i + 1) (by omega)
              have : cs.drop (i * js.length) = (cs.drop (i * js.length)).take js.length ++ cs.drop ((i + 1) * js.length) := by
                rw [Nat.succ_mul, ← List.drop_drop, List.take_append_drop]
              rw [this, List.replicate_succ, List.flatten_cons]
              exact h3.append h4
          have := key m 0 (by omega)
          simpa using this
        · cases hx
      · cases h
    · cases h
end Go.Fw
