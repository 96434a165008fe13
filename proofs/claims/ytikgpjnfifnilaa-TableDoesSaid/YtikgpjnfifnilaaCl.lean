/-
  slices.Clone hands out a new row of the same elements: the walk.
-/
import Derived.Test.YtikgpjnfifnilaaFwW
import Derived.Test.YtikgpjnfifnilaaProg
import Derived.WalkKit
import Derived.Lib.Walk
import Derived.Lib.SliceRun
import Derived.Shelf.RegionOpenPlain
import Derived.KernelRfl
set_option linter.unusedVariables false
set_option linter.unusedSimpArgs false
namespace Go.Fw
open Go.Proofs Go.RowKit Go.Lib Go.Shelf

theorem info24 : (Try.prog.info? 24).map (fun i => (i.zero, i.size, i.bytes)) = some (some (.agg #[.string ⟨#[]⟩, .int .i64 0]), 2, 24) := by kernel_rfl

set_option maxHeartbeats 1000000 in
set_option maxRecDepth 100000 in
theorem clone25_some (ad : Addr) (n c : Nat) (news : List Value) (w : World) (hl : news.length = n * 2) (hn : n ≤ maxLen) (hbig : n * 24 ≤ 140737488355328)
    (hc : ∀ j u, news[j]? = some u → w.cell? (ad.add j) = some u) (h1 : ∀ u ∈ news, u.oneCell' = true) :
    Calls Try.prog 25 #[.slice (some ad) n c] w fun e w' => ∃ v', e = .returned v' ∧ w'.ownsRow w.heap.size 24 2 v' n news ∧ v' ≠ .slice none 0 0 ∧ Below w.heap.size w w' := by
  obtain ⟨i0, hi, hz0, hz1, hz2⟩ := info_parts info24
  have q22 : ∀ (w : World) (a : Option Addr) (n c n' c' : Nat), (binOp .eql 22 (.slice a n c) (.slice none n' c')).run Try.prog w = .ok (.bool a.isNone) w := fun w a n c n' c' => Lib.run_eql_slice_nil w _ _ a n c n' c' Try.underlying22
  have A : Aside (∀ j u, news[j]? = some u → w.cell? (ad.add j) = some u) := ⟨hc⟩
  clear hc
  go_enter Try.func25, Try.ntmps25
  go_wp2_with (at_builtin; refine wpList_append_own _ rfl _ _ 22 rfl w.heap.size 24 i0 _ 2 24 Try.underlying22 hi hz0 hz1 hz2 rfl (by decide) _ _ _ rfl (World.ownsRow_made w #[] 0 (Nat.le_refl _) (Nat.zero_le _) (by simp)) ad n c news rfl ?qc1 ?qc2 ?qc3 ?qc4 ?qc5 ?qc6 ?_)
  case qc1 => exact hl
  case qc2 =>
    intro j u hj
    exact Lib.cell?_alloc_some _ (A.out j u hj)
  case qc3 => exact h1
  case qc4 => rw [Nat.zero_add]; exact hn
  case qc5 => rw [Nat.zero_add]; exact hbig
  case qc6 => simp
  intro v' w1 hown hgrow hnil
  go_wp2
  go_ret
  refine ⟨v', rfl, by simpa using hown, ?_, ?_⟩
  · intro e
    exact hnil e
  · exact ((Below.refl _ w).alloc (Nat.le_refl _) _).grown hgrow (by simp) (by intro k hk; simp [Value.ownBlock] at hk; omega)

set_option maxHeartbeats 1000000 in
theorem clone25_nil (n c : Nat) (w : World) : Calls Try.prog 25 #[.slice none n c] w fun e w' => e = .returned (.slice none 0 0) ∧ w' = w := by
  have q22 : ∀ (w : World) (a : Option Addr) (n c n' c' : Nat), (binOp .eql 22 (.slice a n c) (.slice none n' c')).run Try.prog w = .ok (.bool a.isNone) w := fun w a n c n' c' => Lib.run_eql_slice_nil w _ _ a n c n' c' Try.underlying22
  go_enter Try.func25, Try.ntmps25
  go_wp2
  go_ret
  exact ⟨rfl, rfl⟩

theorem clone25 (xs sp : List (List PV)) (hx : ∀ x ∈ xs, x.length = 2) (hb : xs.length * 24 ≤ 140737488355328) : RetN Try.prog 25 [.sl xs sp] 24 2 xs := by
  refine ⟨enters_of Try.func25 rfl rfl, fun w F ys hfin hrep => ?_⟩
  obtain ⟨y, zs, rfl, hy, hn⟩ := hrep.head
  obtain rfl : zs = [] := List.eq_nil_of_length_eq_zero hn.1
  obtain ⟨o, cap, news, rfl, r1, r2, r3, r4, r5, r6⟩ := rep_sl hy hx hfin
  have hml : xs.length ≤ maxLen := by omega
  cases o with
  | none =>
    have hnil : xs = [] := Classical.byContradiction fun h => by obtain ⟨ad, h1, _⟩ := r6 h; cases h1
    subst hnil
    refine (clone25_nil _ cap w).mono ?_
    rintro e w' ⟨rfl, rfl⟩
    exact ⟨_, F, [], rfl, ⟨World.ownsRow_nil w' _ 24 2, RepL.nil, by simp, by simp, fun _ => rfl, by simp [Value.ownBlock]⟩, hfin, FzOn.refl _ _, Below.refl _ _⟩
  | some ad =>
    have hc : ∀ j u, news[j]? = some u → w.cell? (ad.add j) = some u := by
      by_cases hnil : xs = []
      · subst hnil
        have : news = [] := List.eq_nil_of_length_eq_zero (by simpa using r3)
        subst this; simp
      · obtain ⟨ad', h1, h2⟩ := r6 hnil
        cases h1; exact h2
    refine (clone25_some ad xs.length cap news w r3 hml hb hc r2).mono ?_
    rintro e w' ⟨v, rfl, hown, hne, hbel⟩
    have hge : ∀ b, v.ownBlock = some b → w.heap.size ≤ b := fun b hb => (hown.lt b hb).1
    exact ⟨v, F, news, rfl, ⟨hown, r1, r2, hx, fun e => by
      rcases hown.2 with ⟨h, _⟩ | ⟨g, cp, cur, h, _⟩
      · exact absurd h hne
      · rw [h] at e; simp [Value.ownBlock] at e, fun b hb => hfin.noneF (hge b hb)⟩, hfin.blocks (fun k hk => hbel.block k hk), FzOn.refl _ _, hbel⟩
end Go.Fw
