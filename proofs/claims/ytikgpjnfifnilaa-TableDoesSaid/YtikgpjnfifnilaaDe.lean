/-
  slices.Delete of some elements of a row of the caller's own: the walk.
-/
import Derived.Test.YtikgpjnfifnilaaFwW
import Derived.Test.YtikgpjnfifnilaaCl
import Derived.Test.YtikgpjnfifnilaaProg
import Derived.WalkKit
import Derived.Lib.Walk
import Derived.Deep.RegionLaw
import Derived.Shelf.RegionOpenPlain
import Derived.KernelRfl
set_option linter.unusedVariables false
set_option linter.unusedSimpArgs false
namespace Go.Fw
open Go.Proofs Go.RowKit Go.Lib Go.Shelf

theorem zc24 : ∀ y ∈ (Value.agg #[.string ⟨#[]⟩, .int .i64 0]).cells.toList, y.oneCell' = true := by decide

set_option maxHeartbeats 4000000 in
set_option maxRecDepth 1000000 in
theorem delete28_run (g n cap i j : Nat) (cur : Array Value) (w : World) (hg : w.heap[g]? = some (.cells cur 24 (0, 0))) (hn : n ≤ cap) (hm : cap ≤ 9223372036854775807) (hcs : cur.size = cap * 2) (hlt : i < j) (hj : j ≤ n)
    (h1 : ∀ y ∈ cur.toList.take (n * 2), y.oneCell' = true) :
    Calls Try.prog 28 #[.slice (some ⟨g, 0, none⟩) n cap, .int .i64 i, .int .i64 j] w fun e w' => e = .returned (.slice (some ⟨g, 0, none⟩) (i + (n - j)) cap) ∧
      w' = (w.drew.setRow g (splice cur.toList (i * 2) ((cur.toList.take (n * 2)).drop (j * 2))).toArray).setRow g (splice (splice cur.toList (i * 2) ((cur.toList.take (n * 2)).drop (j * 2))) ((i + (n - j)) * 2) (Builtin.zeroCells (Value.agg #[.string ⟨#[]⟩, .int .i64 0]).cells (n - (i + (n - j)))).toList).toArray := by
  obtain ⟨i0, hi0, hz0, hz1, hz2⟩ := info_parts info24
  obtain ⟨news, hnews⟩ : ∃ news, news = (cur.toList.take (n * 2)).drop (j * 2) := ⟨_, rfl⟩
  rw [← hnews]
  have hlen : news.length = (n - j) * 2 := by
    rw [hnews]; simp only [List.length_drop, List.length_take, Array.length_toList, hcs]; omega
  obtain ⟨A, hA, hsrc⟩ : ∃ A : Addr, (if cap = j then some (⟨g, 0, none⟩ : Addr) else some ⟨g, j * 2, none⟩) = some A ∧ Hid (∀ t u, news[t]? = some u → w.drew.cell? (A.add t) = some u) := by
    by_cases h : cap = j
    · refine ⟨⟨g, 0, none⟩, by simp [h], fun t u hu => ?_⟩
      have h0 : news.length = 0 := by rw [hlen]; omega
      rw [List.length_eq_zero_iff.1 h0] at hu
      simp at hu
    · refine ⟨⟨g, j * 2, none⟩, by simp [h], fun t u hu => ?_⟩
      rw [hnews, List.getElem?_drop, List.getElem?_take] at hu
      split at hu
      · rw [Addr.add_lit]
        show w.cell? _ = _
        rw [cell_of_row w g _ cur 24 (0, 0) hg]
        simpa using hu
      · cases hu
  have s2 : Hid (∀ u ∈ news, u.oneCell' = true) := fun u hu => h1 u (by rw [hnews] at hu; exact List.mem_of_mem_drop hu)
  have s1 : Hid (news.length = (n - j) * 2) := hlen
  have s3' : i * 2 + news.length ≤ cur.size := by rw [hlen, hcs]; omega
  have s3 : Hid (i * 2 + news.length ≤ cur.size) := s3'
  have s4 : Hid (w.drew.heap[g]? = some (.cells cur 24 (0, 0))) := hg
  obtain ⟨W1, hW1⟩ : ∃ W1, W1 = w.drew.setRow g (splice cur.toList (i * 2) news).toArray := ⟨_, rfl⟩
  have hgW : W1.heap[g]? = some (.cells (splice cur.toList (i * 2) news).toArray 24 (0, 0)) := by rw [hW1]; exact setRow_heap _ g cur _ 24 (0, 0) hg
  have hsl : (splice cur.toList (i * 2) news).length = cap * 2 := by rw [splice_length _ _ _ (by simpa using s3')]; simpa using hcs
  have hcl : ∀ ty, (Builtin.clear_ #[22] ty #[.slice (some ⟨g, (i + (n - j)) * 2, none⟩) (n - (i + (n - j))) (cap - (i + (n - j)))]).run Try.prog W1 = .ok (.tuple #[]) (W1.setRow g (splice (splice cur.toList (i * 2) news) ((i + (n - j)) * 2) (Builtin.zeroCells (Value.agg #[.string ⟨#[]⟩, .int .i64 0]).cells (n - (i + (n - j)))).toList).toArray) := fun ty => by
    have := run_clearR (P := Try.prog) W1 22 24 ty _ 2 g ((i + (n - j)) * 2) (n - (i + (n - j))) (cap - (i + (n - j))) _ Try.underlying22 Try.zeroValue24 (by rfl) zc24 hgW (by omega) (by simp only [List.size_toArray, hsl]; omega)
    simpa using this
  have hW : Hid (W1 = w.drew.setRow g (splice cur.toList (i * 2) news).toArray) := hW1
  rw [← hW1]
  clear hW1 hgW hnews hlen h1 hsl s3' hcs hg
  have hic : i ≤ cap := by omega
  have hjc : j ≤ cap := by omega
  have mixed : Try.prog.follows .mixedOrders = true := by kernel_rfl
  go_enter Try.func28, Try.ntmps28
  go_wp2_with fail
  go_region_law_o (refine step_append_roomR rfl (.tmp 22) (.tmp 25) 22 rfl 24 i0 2 Try.underlying22 hi0 hz1 g i cap cur s4.out (by simp [Act.eval, Act.put]) A (n - j) (cap - j) news (by simp [Act.eval, Act.put]) s1.out hsrc.out s2.out (by omega) s3.out ?_; rw [← hW.out])
  go_wp2
  go_ret
  exact ⟨rfl, rfl⟩

/-- slices.Delete of one element. -/
theorem delete28 (xs : List (List PV)) (i : Nat) (a b : Int) (ha : a = i) (hb : b = (i + 1 : Nat)) (hi : i < xs.length) : RetI Try.prog 28 24 2 xs [.v (.int .i64 a), .v (.int .i64 b)] (xs.take i ++ xs.drop (i + 1)) := by
  subst ha; subst hb
  refine ⟨enters_of Try.func28 rfl rfl, fun w F B v us ys hfin hrep hB h => ?_⟩
  obtain ⟨y, ys, rfl, hy, hrep⟩ := hrep.head
  obtain ⟨y2, ys, rfl, hy2, hrep⟩ := hrep.head
  obtain rfl : ys = [] := List.eq_nil_of_length_eq_zero hrep.1
  obtain rfl := Rep.v_inv hy
  obtain rfl := Rep.v_inv hy2
  obtain ⟨g, cap, cur, rfl, hBg, hg, hle, hm, hcs, hus, hnone⟩ := h.open (fun e => by subst e; simp at hi)
  have hm' : cap ≤ 9223372036854775807 := by simpa [maxLen] using hm
  refine (delete28_run g xs.length cap i (i + 1) cur w hg hle hm' hcs (by omega) hi (by rw [hus]; exact h.one)).mono ?_
  rintro e w' ⟨rfl, rfl⟩
  rw [hus]
  have hlx : us.length = xs.length * 2 := h.own.1
  have hcl : cur.toList.length = cap * 2 := by simpa using hcs
  have hdl : (us.drop ((i + 1) * 2)).length = (xs.length - (i + 1)) * 2 := by rw [List.length_drop, hlx]; omega
  have hr1 : (splice cur.toList (i * 2) (us.drop ((i + 1) * 2))).length = cap * 2 := by rw [splice_length _ _ _ (by rw [hdl, hcl]; omega), hcl]
  have hlz : (xs.take i ++ xs.drop (i + 1)).length = i + (xs.length - (i + 1)) := by simp; omega
  have hgz := grownBy_set w g (splice cur.toList (i * 2) (us.drop ((i + 1) * 2))).toArray (splice (splice cur.toList (i * 2) (us.drop ((i + 1) * 2))) ((i + (xs.length - (i + 1))) * 2) (Builtin.zeroCells (Value.agg #[.string ⟨#[]⟩, .int .i64 0]).cells (xs.length - (i + (xs.length - (i + 1))))).toList).toArray
  rw [← hlz]
  refine ⟨_, us.take (i * 2) ++ us.drop ((i + 1) * 2), rfl, RowIs.close hBg (setRow_heap _ g _ _ 24 (0, 0) (setRow_heap _ g cur _ 24 (0, 0) hg)) (by omega) hm ?_ ?_ (repCut h.rep h.len _ _) (fun y hy => ?_) (fun x hx => ?_) hnone, fun b hb => .inl hb, hfin.grown hnone (by rw [hlz]; exact hgz), by rw [hlz]; exact hgz⟩
  · rw [List.size_toArray, splice_length, hr1]
    rw [hr1, hlz]
    have hzl : (Builtin.zeroCells (Value.agg #[.string ⟨#[]⟩, .int .i64 0]).cells (xs.length - (i + (xs.length - (i + 1))))).toList.length = (xs.length - (i + (xs.length - (i + 1)))) * 2 := by simp [Builtin.zeroCells, Value.cells]
    rw [hzl]; omega
  · show List.take _ (splice _ _ _) = _
    rw [splice_takeA _ _ _ (by rw [hr1, hlz]; omega), hlz, show (i + (xs.length - (i + 1))) * 2 = i * 2 + (us.drop ((i + 1) * 2)).length by rw [hdl]; omega, splice_take2 _ _ _ (by rw [hcl]; omega), ← hus, List.take_take, Nat.min_eq_left (by omega)]
  · rcases List.mem_append.1 hy with hy | hy
    · exact h.one y (List.mem_of_mem_take hy)
    · exact h.one y (List.mem_of_mem_drop hy)
  · rcases List.mem_append.1 hx with hx | hx
    · exact h.len x (List.mem_of_mem_take hx)
    · exact h.len x (List.mem_of_mem_drop hx)
end Go.Fw
