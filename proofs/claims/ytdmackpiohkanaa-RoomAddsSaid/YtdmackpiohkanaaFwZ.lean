/-
  The words of a long text, one by one.
-/
import Derived.ProofKit
set_option linter.unusedVariables false
set_option linter.unusedSimpArgs false
namespace Go.Fw

def joinW : List (List Nat) → List Char
  | [] => []
  | [w] => w.map Char.ofNat
  | w :: ws => w.map Char.ofNat ++ Char.ofNat 32 :: joinW ws
def okW (w : List Nat) : Bool := w.all fun n => Nat.blt n 128 && !Nat.beq n 32
theorem ofNat_all : ∀ n : Fin 128, n.val ≠ 32 → Char.ofNat n.val ≠ Char.ofNat 32 := by decide +kernel
theorem ofNat_ne {n : Nat} (h1 : n < 128) (h2 : n ≠ 32) : Char.ofNat n ≠ Char.ofNat 32 := ofNat_all ⟨n, h1⟩ h2
theorem ws_cons {c : Char} (h : c ≠ Char.ofNat 32) (r : List Char) : wordsSigns (c :: r) = match wordsSigns r with
    | w :: ws => (c :: w) :: ws
    | [] => [[c]] := by
  rw [wordsSigns]
  · rfl
  · exact h
theorem ws_space (r : List Char) : wordsSigns (Char.ofNat 32 :: r) = [] :: wordsSigns r := rfl
theorem ws_word : ∀ (w : List Nat), okW w = true → ∀ rest, wordsSigns (w.map Char.ofNat ++ Char.ofNat 32 :: rest) = w.map Char.ofNat :: wordsSigns rest
  | [], _, rest => rfl
  | n :: w, h, rest => by
    simp only [okW, List.all_cons, Bool.and_eq_true] at h
    have h1 : n < 128 := by have := h.1.1; simp [Nat.blt] at this; omega
    have h2 : n ≠ 32 := by have := h.1.2; intro e; subst e; simp at this
    have ih := ws_word w h.2 rest
    rw [List.map_cons, List.cons_append, ws_cons (ofNat_ne h1 h2), ih]
theorem ws_last : ∀ (w : List Nat), okW w = true → wordsSigns (w.map Char.ofNat) = [w.map Char.ofNat]
  | [], _ => rfl
  | n :: w, h => by
    simp only [okW, List.all_cons, Bool.and_eq_true] at h
    have h1 : n < 128 := by have := h.1.1; simp [Nat.blt] at this; omega
    have h2 : n ≠ 32 := by have := h.1.2; intro e; subst e; simp at this
    have ih := ws_last w h.2
    rw [List.map_cons, ws_cons (ofNat_ne h1 h2), ih]
theorem ws_all : ∀ (ws : List (List Nat)), ws ≠ [] → ws.all okW = true → wordsSigns (joinW ws) = ws.map (·.map Char.ofNat)
  | [], h, _ => absurd rfl h
  | [w], _, h => by simp only [List.all_cons, List.all_nil, Bool.and_true] at h; exact ws_last w h
  | w :: v :: ws, _, h => by
    simp only [List.all_cons, Bool.and_eq_true] at h
    have ih := ws_all (v :: ws) (by simp) (by simp only [List.all_cons, Bool.and_eq_true]; exact h.2)
    have := ws_word w h.1 (joinW (v :: ws))
    simp only [joinW]
    rw [this, ih]; rfl
theorem words_of {s : String} {ws : List (List Nat)} (h : s = String.ofList (joinW ws)) (hn : ws ≠ []) (ho : ws.all okW = true) : wordsSigns s.toList = ws.map (·.map Char.ofNat) := by
  rw [h, String.toList_ofList]
  exact ws_all ws hn ho
theorem make_of {P : Program} {ws : List (List Char)} (h : wordsSigns P.initOrder.toList = ws) {c : List Char} {rest : List (List Char)} (hb : behindMainWord ws = c :: rest) (h1 : (c == "gc".toList || c == "spec".toList) = false) (h2 : (c == "cut".toList) = true) : P.make = some .cut := by
  unfold Program.make
  rw [h, hb]
  simp only [h1, h2]
  simp
theorem mayEnter_of {P : Program} {ws : List (List Char)} (h : wordsSigns P.initOrder.toList = ws) {c : List Char} {rest : List (List Char)} (hb : behindMainWord ws = c :: rest) (hs : stripLifts liftWords (c :: rest) = ([], c :: rest)) (h2 : (c == "cut".toList) = true)
    (hl : P.laysLater = false) (hr : P.bearsReflect = false) (hd : P.doorFits [] = true) : P.mayEnter = true := by
  unfold Program.mayEnter
  rw [h, hb]
  simp only [hs, hl, hr, hd]
  have hc : c = "cut".toList := by simpa using h2
  subst hc
  simp
theorem liftsFinal_of {P : Program} {ws : List (List Char)} (h : wordsSigns P.initOrder.toList = ws) (hk : ((behindMainWord ws).head? == some "carried".toList) = false) (hs : (stripLifts liftWords (behindMainWord ws)).1 = []) : P.liftsFinal = false := by
  unfold Program.liftsFinal Program.headLifts
  rw [h]
  simp only [hk, hs]
  simp
end Go.Fw
