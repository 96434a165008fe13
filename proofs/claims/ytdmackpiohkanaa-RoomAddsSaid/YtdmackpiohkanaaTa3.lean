/-
  slices.Clone hands out a new row of the same elements; slices.Insert puts one in: the walks.
-/
import Derived.Deep.RegionLaw
import Derived.KernelRfl
import Derived.Lib.SliceRun
import Derived.Lib.Walk
import Derived.Shelf.RegionOpenPlain
import Derived.Test.YtdmackpiohkanaaFwW
import Derived.Test.YtdmackpiohkanaaProg
import Derived.WalkKit
set_option linter.unusedVariables false
set_option linter.unusedSimpArgs false
namespace Go.Fw
open Go.Proofs Go.RowKit Go.Lib Go.Shelf

theorem info82 : (Try.prog.info? 82).map (fun i => (i.zero, i.size, i.bytes)) = some (some (.agg #[.string ⟨#[]⟩, .string ⟨#[]⟩, .int .i64 0, .int .i64 0, .int .i64 0, .int .i64 0, .int .i64 0, .bool false]), 8, 80) := by kernel_rfl

set_option maxHeartbeats 1000000 in
set_option maxRecDepth 100000 in
theorem clone150_some (ad : Addr) (n c : Nat) (news : List Value) (w : World) (hl : news.length = n * 8) (hn : n ≤ maxLen) (hbig : n * 80 ≤ 140737488355328)
    (hc : ∀ j u, news[j]? = some u → w.cell? (ad.add j) = some u) (h1 : ∀ u ∈ news, u.oneCell' = true) :
    Calls Try.prog 150 #[.slice (some ad) n c] w fun e w' => ∃ v', e = .returned v' ∧ w'.ownsRow w.heap.size 82 8 v' n news ∧ v' ≠ .slice none 0 0 ∧ Below w.heap.size w w' := by
  obtain ⟨i0, hi, hz0, hz1, hz2⟩ := info_parts info82
  have qs : ∀ (w : World) (a : Option Addr) (n c n' c' : Nat), (binOp .eql 25 (.slice a n c) (.slice none n' c')).run Try.prog w = .ok (.bool a.isNone) w := fun w a n c n' c' => Lib.run_eql_slice_nil w _ _ a n c n' c' Try.underlying25
  have A : Aside (∀ j u, news[j]? = some u → w.cell? (ad.add j) = some u) := ⟨hc⟩
  clear hc
  go_enter Try.func150, Try.ntmps150
  go_wp2_with (at_builtin; refine wpList_append_own _ rfl _ _ 25 rfl w.heap.size 82 i0 _ 8 80 Try.underlying25 hi hz0 hz1 hz2 rfl (by decide) _ _ _ rfl (World.ownsRow_made w #[] 0 (Nat.le_refl _) (Nat.zero_le _) (by simp)) ad n c news rfl ?qc1 ?qc2 ?qc3 ?qc4 ?qc5 ?qc6 ?_)
  case qc1 => exact hl
  case qc2 =>
    intro j u hj
    exact Lib.cell?_alloc_some _ (A.out j u hj)
  case qc3 => exact h1
  case qc4 => rw [Nat.zero_add]; exact hn
  case qc5 => rw [Nat.zero_add]; exact hbig
  case qc6 => simp
  intro v' w1 hown hgrow hnil
  go_wp2
  go_ret
  refine ⟨v', rfl, by simpa using hown, ?_, ?_⟩
  · intro e
    exact hnil e
  · exact ((Below.refl _ w).alloc (Nat.le_refl _) _).grown hgrow (by simp) (by intro k hk; simp [Value.ownBlock] at hk; omega)

set_option maxHeartbeats 1000000 in
theorem clone150_nil (n c : Nat) (w : World) : Calls Try.prog 150 #[.slice none n c] w fun e w' => e = .returned (.slice none 0 0) ∧ w' = w := by
  have qs : ∀ (w : World) (a : Option Addr) (n c n' c' : Nat), (binOp .eql 25 (.slice a n c) (.slice none n' c')).run Try.prog w = .ok (.bool a.isNone) w := fun w a n c n' c' => Lib.run_eql_slice_nil w _ _ a n c n' c' Try.underlying25
  go_enter Try.func150, Try.ntmps150
  go_wp2
  go_ret
  exact ⟨rfl, rfl⟩

theorem clone150 (xs sp : List (List PV)) (hx : ∀ x ∈ xs, x.length = 8) (hb : xs.length * 80 ≤ 140737488355328) : RetN Try.prog 150 [.sl xs sp] 82 8 xs := by
  refine ⟨enters_of Try.func150 rfl rfl, fun w F ys hfin hrep => ?_⟩
  obtain ⟨y, zs, rfl, hy, hn⟩ := hrep.head
  obtain rfl : zs = [] := List.eq_nil_of_length_eq_zero hn.1
  obtain ⟨o, cap, news, rfl, r1, r2, r3, r4, r5, r6⟩ := rep_sl hy hx hfin
  have hml : xs.length ≤ maxLen := by omega
  cases o with
  | none =>
    have hnil : xs = [] := Classical.byContradiction fun h => by obtain ⟨ad, h1, _⟩ := r6 h; cases h1
    subst hnil
    refine (clone150_nil _ cap w).mono ?_
    rintro e w' ⟨rfl, rfl⟩
    exact ⟨_, F, [], rfl, ⟨World.ownsRow_nil w' _ 82 8, RepL.nil, by simp, by simp, fun _ => rfl, by simp [Value.ownBlock]⟩, hfin, FzOn.refl _ _, Below.refl _ _⟩
  | some ad =>
    have hc : ∀ j u, news[j]? = some u → w.cell? (ad.add j) = some u := by
      by_cases hnil : xs = []
      · subst hnil
        have : news = [] := List.eq_nil_of_length_eq_zero (by simpa using r3)
        subst this; simp
      · obtain ⟨ad', h1, h2⟩ := r6 hnil
        cases h1; exact h2
    refine (clone150_some ad xs.length cap news w r3 hml hb hc r2).mono ?_
    rintro e w' ⟨v, rfl, hown, hne, hbel⟩
    have hge : ∀ b, v.ownBlock = some b → w.heap.size ≤ b := fun b hb => (hown.lt b hb).1
    exact ⟨v, F, news, rfl, ⟨hown, r1, r2, hx, fun e => by
      rcases hown.2 with ⟨h, _⟩ | ⟨g, cp, cur, h, _⟩
      · exact absurd h hne
      · rw [h] at e; simp [Value.ownBlock] at e, fun b hb => hfin.noneF (hge b hb)⟩, hfin.blocks (fun k hk => hbel.block k hk), FzOn.refl _ _, hbel⟩

set_option maxHeartbeats 4000000 in
set_option maxRecDepth 1000000 in
theorem insert153_nil (v : Value) (m vc : Nat) (ad : Addr) (w : World) (hm : 0 < m) {v' : Value} {w' : World} (hrun : (Builtin.append_ #[25, 25] 25 #[.slice none 0 0, .slice (some ad) m vc]).run Try.prog w = .ok v' w') :
    Calls Try.prog 153 #[.slice none 0 0, .int .i64 0, .slice (some ad) m vc] w fun e w'' => e = .returned v' ∧ w'' = w' := by
  have hz1 : ¬ ((m : Int) = 0) := by omega
  have mixed : Try.prog.follows .mixedOrders = true := by kernel_rfl
  go_enter Try.func153, Try.ntmps153
  go_wp2_with (at_builtin; refine Lib.wpList_append_run _ rfl _ _ _ _ rfl _ _ rfl rfl _ _ hrun ?_)
  go_ret
  exact ⟨rfl, rfl⟩

set_option maxHeartbeats 4000000 in
set_option maxRecDepth 1000000 in
theorem insert153_end (g n c m vc : Nat) (ad : Addr) (w : World) (hm : 0 < m) (hnc : n ≤ c) {v' : Value} {w' : World} (hrun : (Builtin.append_ #[25, 25] 25 #[.slice (some ⟨g, 0, none⟩) n c, .slice (some ad) m vc]).run Try.prog w = .ok v' w') :
    Calls Try.prog 153 #[.slice (some ⟨g, 0, none⟩) n c, .int .i64 n, .slice (some ad) m vc] w fun e w'' => e = .returned v' ∧ w'' = w' := by
  have hz1 : ¬ ((m : Int) = 0) := by omega
  have mixed : Try.prog.follows .mixedOrders = true := by kernel_rfl
  go_enter Try.func153, Try.ntmps153
  go_wp2_with (at_builtin; refine Lib.wpList_append_run _ rfl _ _ _ _ rfl _ _ rfl rfl _ _ hrun ?_)
  all_goals (go_ret; exact ⟨rfl, rfl⟩)

set_option maxHeartbeats 4000000 in
set_option maxRecDepth 1000000 in
theorem insert153_shift (g n c i vb voff m vc : Nat) (cur : Array Value) (vs : List Value) (w : World) (hi : i < n) (hm : 0 < m) (hroom : n + m ≤ c) (hc63 : c ≤ 9223372036854775807) (hvb : vb ≠ g)
    (hg : w.heap[g]? = some (.cells cur 82 (0, 0))) (hcs : cur.size = c * 8) (hvl : vs.length = m * 8) (hvs : ∀ j v, vs[j]? = some v → w.cell? ⟨vb, voff + j, none⟩ = some v) (h1c : ∀ v ∈ cur.toList.take (n * 8), v.oneCell' = true) (h1v : ∀ v ∈ vs, v.oneCell' = true) :
    Calls Try.prog 153 #[.slice (some ⟨g, 0, none⟩) n c, .int .i64 i, .slice (some ⟨vb, voff, none⟩) m vc] w fun e w' =>
      e = .returned (.slice (some ⟨g, 0, none⟩) (n + m) c) ∧ w' = (w.drew.setRow g (splice cur.toList ((i + m) * 8) ((cur.toList.take (n * 8)).drop (i * 8))).toArray).setRow g (splice (splice cur.toList ((i + m) * 8) ((cur.toList.take (n * 8)).drop (i * 8))) (i * 8) vs).toArray := by
  obtain ⟨i0, hi0, hz0, hs0, hb0⟩ := info_parts info82
  have hsz : (Try.prog.info? 82).map (·.size) = some 8 := by simp [hi0, hs0]
  have hz1 : ¬ ((m : Int) = 0) := by omega
  have hz2 : ¬ ((i : Int) = (n : Int)) := by omega
  obtain ⟨mid, hmid⟩ : ∃ mid, mid = (cur.toList.take (n * 8)).drop (i * 8) := ⟨_, rfl⟩
  rw [← hmid]
  have hml : mid.length = (n - i) * 8 := by rw [hmid]; simp only [List.length_drop, List.length_take, Array.length_toList, hcs]; omega
  obtain ⟨tA, kA, hsa, hkA⟩ : ∃ tA kA, w.shape? vb = some (tA, kA) ∧ kA ≠ 0 := by
    have h0 := hvs 0 _ (List.getElem?_eq_getElem (by omega))
    simp only [World.cell?] at h0
    split at h0
    · rename_i cc tt fr e
      refine ⟨tt, cc.size, by simp [World.shape?, e], fun e0 => ?_⟩
      simp at h0
      have := (Array.getElem?_eq_some_iff.1 h0).1
      omega
    · cases h0
  have hov : ∀ lb cb, (callFunc 173 #[.slice (some ⟨vb, voff, none⟩) m vc, .slice (some ⟨g, (i + m) * 8, none⟩) lb cb]).run Try.prog w = .ok (.value (.bool false)) w := fun lb cb => by
    rw [run_callFunc_extern Try.func173 (by kernel_rfl) (by kernel_rfl) (by kernel_rfl) (e := Extern.SlicesOverlaps.overlaps #[25, 25] #[4]) (by kernel_rfl),
      run_overlapsR w 25 4 82 Try.underlying25 8 Try.sizeOf82 ⟨vb, voff, none⟩ ⟨g, (i + m) * 8, none⟩ m vc lb cb hvb tA 82 kA cur hsa hg (by omega) hkA]
    rfl
  have mixed : Try.prog.follows .mixedOrders = true := by kernel_rfl
  have hw1 : IntKind.i64.wrap ((i : Int) + (m : Int)) = (i : Int) + (m : Int) := by rw [IntKind.wrap_i64]; omega
  have hb1 : (0 : Int) ≤ (i : Int) + (m : Int) := by omega
  have hin : i ≤ n := by omega
  have htn : ((i : Int) + (m : Int)).toNat = i + m := by omega
  have hb2 : ¬ (c = i + m) := by omega
  have hb3 : (i : Int) ≤ (n : Int) + (m : Int) := by omega
  have hb4 : ¬ (c = i) := by omega
  have hmin1 : Nat.min (n + m - i) (n + m - (i + m)) = n - i := by simp only [Nat.min_def]; split <;> omega
  have hmin2 : Nat.min m (n + m - i) = m := by simp only [Nat.min_def]; split <;> omega
  obtain ⟨W1, hW1⟩ : ∃ W1, W1 = w.drew.setRow g (splice cur.toList ((i + m) * 8) mid).toArray := ⟨_, rfl⟩
  have hgW : W1.heap[g]? = some (.cells (splice cur.toList ((i + m) * 8) mid).toArray 82 (0, 0)) := by rw [hW1]; exact setRow_heap _ g cur _ 82 (0, 0) hg
  have hcp1 : ∀ ty dc sc, (Builtin.copy_ #[25, 25] ty #[.slice (some ⟨g, (i + m) * 8, none⟩) (n + m - (i + m)) dc, .slice (some ⟨g, i * 8, none⟩) (n + m - i) sc]).run Try.prog w.drew = .ok (goInt (n - i : Nat)) W1 := fun ty dc sc => by
    have := run_copyR (P := Try.prog) w.drew 25 25 ty 82 8 g ((i + m) * 8) (n + m - (i + m)) dc cur ⟨g, i * 8, none⟩ (n + m - i) sc mid Try.underlying25 hsz hg (by rw [hml, hmin1])
      (fun j v hj => by
        rw [Addr.add_lit]
        show w.cell? _ = _
        rw [cell_of_row w g _ cur 82 (0, 0) hg]
        rw [hmid, List.getElem?_drop, List.getElem?_take] at hj
        split at hj
        · simpa using hj
        · cases hj) (by rw [hml, hcs]; omega) (fun v hv => h1c v (by rw [hmid] at hv; exact List.mem_of_mem_drop hv))
    rw [hmin1, ← hW1] at this
    exact this
  have hcp2 : ∀ ty dc, (Builtin.copy_ #[25, 25] ty #[.slice (some ⟨g, i * 8, none⟩) (n + m - i) dc, .slice (some ⟨vb, voff, none⟩) m vc]).run Try.prog W1 = .ok (goInt (m : Nat)) (W1.setRow g (splice (splice cur.toList ((i + m) * 8) mid) (i * 8) vs).toArray) := fun ty dc => by
    have := run_copyR (P := Try.prog) W1 25 25 ty 82 8 g (i * 8) (n + m - i) dc _ ⟨vb, voff, none⟩ m vc vs Try.underlying25 hsz hgW (by rw [hvl, hmin2])
      (fun j v hj => by
        rw [Addr.add_lit, hW1]
        refine (World.cell?_of_block ?_).trans (hvs j v hj)
        rw [setRow_other _ g _ _ hvb]; rfl) (by rw [List.size_toArray, splice_length _ _ _ (by rw [hml]; simp only [Array.length_toList, hcs]; omega), hvl, Array.length_toList, hcs]; omega) h1v
    rw [hmin2] at this
    simpa using this
  rw [← hW1]
  clear hW1 hgW hml hmid h1c h1v hvs hvl hcs hg hsa hkA hmin1 hmin2 hsz hi0 hz0 hs0 hb0
  go_enter Try.func153, Try.ntmps153
  go_wp2_with (simp only [hov])
  go_region_law_o (refine step_copy_runR rfl _ _ 25 25 rfl _ _ (by simp [Act.eval, Act.put]) (by simp [Act.eval, Act.put]) (hcp1 _ _ _) ?_)
  go_wp2_with (at_builtin; refine wpList_copy_runR _ rfl _ _ 25 25 rfl _ _ rfl rfl (hcp2 _ _) ?_)
  go_ret
  exact ⟨rfl, rfl⟩

set_option maxHeartbeats 4000000 in
set_option maxRecDepth 1000000 in
theorem insert153_grow (g n c i vb voff m vc : Nat) (cur : Array Value) (vs : List Value) (w : World) (hi : i < n) (hm : 0 < m) (hnc : n ≤ c) (hroom : c < n + m) (hbig : (n + m) * 80 ≤ 140737488355328) (hc63 : c ≤ 9223372036854775807)
    (hg : w.heap[g]? = some (.cells cur 82 (0, 0))) (hcs : cur.size = c * 8) (hvl : vs.length = m * 8) (hvs : ∀ j v, vs[j]? = some v → w.cell? ⟨vb, voff + j, none⟩ = some v) (h1c : ∀ v ∈ cur.toList.take (n * 8), v.oneCell' = true) (h1v : ∀ v ∈ vs, v.oneCell' = true) :
    Calls Try.prog 153 #[.slice (some ⟨g, 0, none⟩) n c, .int .i64 i, .slice (some ⟨vb, voff, none⟩) m vc] w fun e w' => ∃ (C : Nat) (R : Array Value),
      e = .returned (.slice (some ⟨w.heap.size, 0, none⟩) (n + m) C) ∧ n + m ≤ C ∧ C ≤ maxLen ∧ R.size = C * 8 ∧ R.toList.take ((n + m) * 8) = cur.toList.take (i * 8) ++ vs ++ (cur.toList.take (n * 8)).drop (i * 8) ∧ w'.heap[w.heap.size]? = some (.cells R 82 (0, 0)) ∧ Below w.heap.size w w' := by
  obtain ⟨i0, hi0, hz0, hs0, hb0⟩ := info_parts info82
  have hsz : (Try.prog.info? 82).map (·.size) = some 8 := by simp [hi0, hs0]
  have hz1 : ¬ ((m : Int) = 0) := by omega
  have hz2 : ¬ ((i : Int) = (n : Int)) := by omega
  have hz3 : (c : Int) < (n : Int) + (m : Int) := by omega
  have hkk : (n : Int) + (m : Int) - (i : Int) = ((n + m - i : Nat) : Int) := by omega
  have hik : i + (n + m - i) = n + m := by omega
  obtain ⟨mid, hmid⟩ : ∃ mid, mid = (cur.toList.take (n * 8)).drop (i * 8) := ⟨_, rfl⟩
  obtain ⟨pre, hpre⟩ : ∃ pre, pre = cur.toList.take (i * 8) := ⟨_, rfl⟩
  rw [← hmid, ← hpre]
  have hml : mid.length = (n - i) * 8 := by rw [hmid]; simp only [List.length_drop, List.length_take, Array.length_toList, hcs]; omega
  have hpl : pre.length = i * 8 := by rw [hpre]; simp only [List.length_take, Array.length_toList, hcs]; omega
  have hgw : g < w.heap.size := (Array.getElem?_eq_some_iff.1 hg).1
  have hvw : vb < w.heap.size := World.block_lt_of_cell? w _ (hvs 0 _ (List.getElem?_eq_getElem (by omega)))
  have hold : (Builtin.firstCells i0.size i (.slice (some ⟨g, 0, none⟩) i c)).run Try.prog w.drew = .ok pre.toArray w.drew := by
    rw [hs0]
    exact run_firstCells_some w.drew 8 i ⟨g, 0, none⟩ i c pre hpl (fun j v hj => by
      rw [Addr.add_lit]
      show w.cell? _ = _
      rw [cell_of_row w g _ cur 82 (0, 0) hg]
      rw [hpre, List.getElem?_take] at hj
      split at hj
      · simpa using hj
      · cases hj)
  obtain ⟨G, hG⟩ : ∃ G, G = grownCap w (n + m) c 82 := ⟨_, rfl⟩
  obtain ⟨ROW, hROW⟩ : ∃ ROW : Array Value, ROW = pre.toArray ++ Builtin.zeroCells (.agg #[.string ⟨#[]⟩, .string ⟨#[]⟩, .int .i64 0, .int .i64 0, .int .i64 0, .int .i64 0, .int .i64 0, .bool false] : Value).cells (n + m - i) ++ Builtin.zeroCells (.agg #[.string ⟨#[]⟩, .string ⟨#[]⟩, .int .i64 0, .int .i64 0, .int .i64 0, .int .i64 0, .int .i64 0, .bool false] : Value).cells (G - (n + m)) := ⟨_, rfl⟩
  obtain ⟨W1, hW1⟩ : ∃ W1, W1 = w.drew.alloc (.cells ROW 82) := ⟨_, rfl⟩
  have hrz : ∀ ty, (Builtin.append_ #[25, 3] ty #[.slice (some ⟨g, 0, none⟩) i c, .int .i64 ((n : Int) + (m : Int) - (i : Int))]).run Try.prog w = .ok (.slice (some ⟨w.heap.size, 0, none⟩) (n + m) G) W1 := fun ty => by
    have h := Lib.run_append_grow_zeros w 25 3 ty 82 i0 _ .i64 .i64 Try.underlying25 Try.underlying3 hi0 hz0 (some ⟨g, 0, none⟩) i c pre hold (n + m - i) (by omega) (by omega) (by omega) (by omega) (by rw [hb0]; omega) (by rw [hb0, hik]; exact growslice_fits hroom hbig)
    rw [hik] at h
    rw [hkk, hW1, hROW, hG]
    exact h
  have hGn : n + m ≤ G := by rw [hG]; exact grownCap_ge w _ _ _
  have hGm : G ≤ maxLen := by rw [hG]; exact grownCap_le_maxLen w (n + m) c 82 (by unfold maxLen; omega)
  have hG63 : G ≤ 9223372036854775807 := by unfold maxLen at hGm; omega
  have hzl : ∀ k, (Builtin.zeroCells (.agg #[.string ⟨#[]⟩, .string ⟨#[]⟩, .int .i64 0, .int .i64 0, .int .i64 0, .int .i64 0, .int .i64 0, .bool false] : Value).cells k).size = k * 8 := fun k => by simp [Builtin.zeroCells, Value.cells]
  have hRl : ROW.size = G * 8 := by rw [hROW, Array.size_append, Array.size_append, hzl, hzl, List.size_toArray, hpl]; omega
  have hRp : ROW.toList.take (i * 8) = pre := by
    rw [hROW, Array.toList_append, Array.toList_append, List.append_assoc, ← hpl]
    exact List.take_left
  have hN1 : W1.heap[w.heap.size]? = some (.cells ROW 82 (0, 0)) := by rw [hW1]; exact heap_alloc_new w.drew _
  have hO1 : ∀ k, k < w.heap.size → W1.heap[k]? = w.heap[k]? := fun k hk => by rw [hW1]; exact heap_alloc_old w.drew _ hk
  have hB1 : Below w.heap.size w W1 := by rw [hW1]; exact ((Below.refl _ w).trans ⟨rfl, rfl, rfl, Nat.le_refl _, fun _ _ => rfl⟩ : Below _ w w.drew).alloc (Nat.le_refl _) _
  have hmin1 : Nat.min m (n + m - i) = m := by simp only [Nat.min_def]; split <;> omega
  have hmin2 : Nat.min (n - i) (n + m - (i + m)) = n - i := by simp only [Nat.min_def]; split <;> omega
  obtain ⟨r1, hr1⟩ : ∃ r1, r1 = (splice ROW.toList (i * 8) vs) := ⟨_, rfl⟩
  obtain ⟨W2, hW2⟩ : ∃ W2, W2 = W1.setRow w.heap.size r1.toArray := ⟨_, rfl⟩
  have hr1l : r1.length = G * 8 := by rw [hr1, splice_length _ _ _ (by rw [hvl, Array.length_toList, hRl]; omega), Array.length_toList, hRl]
  have hN2 : W2.heap[w.heap.size]? = some (.cells r1.toArray 82 (0, 0)) := by rw [hW2]; exact setRow_heap _ _ _ _ 82 (0, 0) hN1
  have hO2 : ∀ k, k < w.heap.size → W2.heap[k]? = w.heap[k]? := fun k hk => by rw [hW2, setRow_other _ _ _ _ (by omega)]; exact hO1 k hk
  have hcpA : ∀ ty dc, (Builtin.copy_ #[25, 25] ty #[.slice (some ⟨w.heap.size, i * 8, none⟩) (n + m - i) dc, .slice (some ⟨vb, voff, none⟩) m vc]).run Try.prog W1 = .ok (goInt (m : Nat)) W2 := fun ty dc => by
    have := run_copyR (P := Try.prog) W1 25 25 ty 82 8 w.heap.size (i * 8) (n + m - i) dc ROW ⟨vb, voff, none⟩ m vc vs Try.underlying25 hsz hN1 (by rw [hvl, hmin1])
      (fun j v hj => by rw [Addr.add_lit]; exact (World.cell?_of_block (hO1 _ hvw)).trans (hvs j v hj)) (by rw [hvl, hRl]; omega) h1v
    rw [hmin1] at this
    rw [hW2, hr1]; exact this
  obtain ⟨r2, hr2⟩ : ∃ r2, r2 = (splice r1 ((i + m) * 8) mid) := ⟨_, rfl⟩
  obtain ⟨W3, hW3⟩ : ∃ W3, W3 = W2.drew.setRow w.heap.size r2.toArray := ⟨_, rfl⟩
  have hr2l : r2.length = G * 8 := by rw [hr2, splice_length _ _ _ (by rw [hml, hr1l]; omega), hr1l]
  have hN3 : W3.heap[w.heap.size]? = some (.cells r2.toArray 82 (0, 0)) := by rw [hW3]; exact setRow_heap _ _ _ _ 82 (0, 0) hN2
  have hcpB : ∀ ty dc sc, (Builtin.copy_ #[25, 25] ty #[.slice (some ⟨w.heap.size, (i + m) * 8, none⟩) (n + m - (i + m)) dc, .slice (some ⟨g, i * 8, none⟩) (n - i) sc]).run Try.prog W2.drew = .ok (goInt (n - i : Nat)) W3 := fun ty dc sc => by
    have := run_copyR (P := Try.prog) W2.drew 25 25 ty 82 8 w.heap.size ((i + m) * 8) (n + m - (i + m)) dc r1.toArray ⟨g, i * 8, none⟩ (n - i) sc mid Try.underlying25 hsz hN2 (by rw [hml, hmin2])
      (fun j v hj => by
        rw [Addr.add_lit]
        show W2.cell? _ = _
        refine (World.cell?_of_block (hO2 _ hgw)).trans ?_
        rw [cell_of_row w g _ cur 82 (0, 0) hg]
        rw [hmid, List.getElem?_drop, List.getElem?_take] at hj
        split at hj
        · simpa using hj
        · cases hj) (by rw [hml, List.size_toArray, hr1l]; omega) (fun v hv => h1c v (by rw [hmid] at hv; exact List.mem_of_mem_drop hv))
    rw [hmin2] at this
    rw [hW3, hr2]; exact this
  have hB3 : Below w.heap.size w W3 := by
    rw [hW3, hW2]
    refine ⟨hB1.os, hB1.tape, hB1.output, ?_, fun k hk => ?_⟩
    · rw [size_setRow]; show _ ≤ (W1.setRow _ _).heap.size; rw [size_setRow]; exact hB1.size
    · rw [setRow_other _ _ _ _ (by omega)]; show (W1.setRow _ _).heap[k]? = _; rw [setRow_other _ _ _ _ (by omega)]; exact hB1.block k hk
  have hfin : r2.take ((n + m) * 8) = pre ++ vs ++ mid := by
    have e1 : (n + m) * 8 = (i + m) * 8 + mid.length := by rw [hml]; omega
    have e2 : (i + m) * 8 = i * 8 + vs.length := by rw [hvl]; omega
    rw [e1, hr2, splice_take2 _ _ _ (by rw [hr1l]; omega), e2, hr1, splice_take2 _ _ _ (by rw [Array.length_toList, hRl]; omega), hRp]
  have key : Aside (n + m ≤ G ∧ G ≤ maxLen ∧ r2.toArray.size = G * 8 ∧ r2.toArray.toList.take ((n + m) * 8) = pre ++ vs ++ mid ∧ W3.heap[w.heap.size]? = some (.cells r2.toArray 82 (0, 0)) ∧ Below w.heap.size w W3) :=
    ⟨hGn, hGm, by simpa using hr2l, hfin, hN3, hB3⟩
  have hGi : ¬ (G = i) := by omega
  have hGim : ¬ (G = i + m) := by omega
  have hci : ¬ (c = i) := by omega
  have hw1 : IntKind.i64.wrap ((i : Int) + (m : Int)) = (i : Int) + (m : Int) := by rw [IntKind.wrap_i64]; omega
  have hb1 : (0 : Int) ≤ (i : Int) + (m : Int) := by omega
  have hin : i ≤ n := by omega
  have htn : ((i : Int) + (m : Int)).toNat = i + m := by omega
  have hb3 : (i : Int) ≤ (n : Int) := by omega
  have mixed : Try.prog.follows .mixedOrders = true := by kernel_rfl
  clear hkk hik hold hROW hG hRl hRp hN1 hO1 hB1 hW1 hW2 hW3 hr1 hr2 hN2 hN3 hO2 hr1l hr2l hB3 hfin hmin1 hmin2 hmid hpre hml hpl hvs h1c h1v hg hcs hvl hzl hGm
  go_enter Try.func153, Try.ntmps153
  go_wp2_with (first
    | (at_builtin; refine Lib.wpList_append_run _ rfl _ _ _ _ rfl _ _ rfl rfl _ _ (hrz _) ?_)
    | (at_builtin; refine wpList_copy_runR _ rfl _ _ 25 25 rfl _ _ rfl rfl (hcpA _ _) ?_))
  go_region_law_o (refine step_copy_runR rfl _ _ 25 25 rfl _ _ (by simp [Act.eval, Act.put]) (by simp [Act.eval, Act.put]) (hcpB _ _ _) ?_)
  go_wp2
  go_ret
  exact ⟨G, r2.toArray, rfl, key.out⟩

/-- slices.Insert of one element. -/
theorem insert153 (xs : List (List PV)) (x : List PV) (sp : List (List PV)) (i : Nat) (a : Int) (ha : a = i) (hi : i ≤ xs.length) (hx : x.length = 8) (hbig : (xs.length + 1) * 80 ≤ 140737488355328) :
    RetI Try.prog 153 82 8 xs [.v (.int .i64 a), .sl [x] sp] (xs.take i ++ x :: xs.drop i) := by
  subst ha
  refine ⟨enters_of Try.func153 rfl rfl, fun w F B v us ys hfin hrep hB h => ?_⟩
  obtain ⟨y, ys, rfl, hy, hrep⟩ := hrep.head
  obtain ⟨u, ys, rfl, hu, hrep⟩ := hrep.head
  obtain rfl : ys = [] := List.eq_nil_of_length_eq_zero hrep.1
  obtain rfl := Rep.v_inv hy
  obtain ⟨vb, voff, vc, news, rfl, r1, r2, r3, r4, r5⟩ : ∃ vb voff vc news, u = .slice (some ⟨vb, voff, none⟩) 1 vc ∧ RepL F x news ∧ (∀ y ∈ news, y.oneCell' = true) ∧ news.length = 8 ∧ (∀ j v, news[j]? = some v → F vb (voff + j) = some v) ∧ (∀ j v, news[j]? = some v → w.cell? ⟨vb, voff + j, none⟩ = some v) := by
    have hu0 := hu
    cases hu with
    | sl xs sp es' b off cap o ys hw hcap hm ho hl h1 hF hr =>
      have hl1 : x.length ≤ ys.length := by rw [hl]; simp
      refine ⟨b, off, cap, ys.take x.length, by rw [ho (by simp)]; rfl, ⟨by simp [hl1], fun j p y e1 e2 => ?_⟩, fun y hy => h1 y (List.mem_of_mem_take hy), by simp; omega, fun j v e => ?_, fun j v e => ?_⟩
      · rw [List.getElem?_take] at e2
        split at e2
        · rename_i hj
          exact hr j p y (by simp only [List.cons_append, List.nil_append, List.flatten_cons]; rw [List.getElem?_append_left hj]; exact e1) e2
        · cases e2
      · rw [List.getElem?_take] at e
        split at e
        · exact hF j v e
        · cases e
      · rw [List.getElem?_take] at e
        split at e
        · exact hfin _ _ _ (hF j v e)
        · cases e
  have hlen2 : ∀ z ∈ xs.take i ++ x :: xs.drop i, z.length = 8 := by
    intro z hz
    rcases List.mem_append.1 hz with hz | hz
    · exact h.len z (List.mem_of_mem_take hz)
    · rcases List.mem_cons.1 hz with rfl | hz
      · exact hx
      · exact h.len z (List.mem_of_mem_drop hz)
  have hzl : (xs.take i ++ x :: xs.drop i).length = xs.length + 1 := by simp; omega
  have hone : ∀ y ∈ us.take (i * 8) ++ news ++ us.drop (i * 8), y.oneCell' = true := by
    intro y hy
    rcases List.mem_append.1 hy with hy | hy
    · rcases List.mem_append.1 hy with hy | hy
      · exact h.one y (List.mem_of_mem_take hy)
      · exact r2 y hy
    · exact h.one y (List.mem_of_mem_drop hy)
  by_cases hlt : i < xs.length
  · obtain ⟨g, cap, cur, rfl, hBg, hg, hle, hm, hcs, hus, hnone⟩ := h.open (fun e => by subst e; simp at hlt)
    have hm' : cap ≤ 9223372036854775807 := by simpa [maxLen] using hm
    have hvb : vb ≠ g := fun e => by
      have := r4 0 _ (List.getElem?_eq_getElem (by omega))
      rw [e, hnone] at this; cases this
    by_cases hroom : xs.length + 1 ≤ cap
    · refine (insert153_shift g xs.length cap i vb voff 1 vc cur news w hlt (by omega) hroom hm' hvb hg hcs (by omega) r5 (by rw [hus]; exact h.one) r2).mono ?_
      rintro e w' ⟨rfl, rfl⟩
      rw [hus]
      have hcl : cur.toList.length = cap * 8 := by simpa using hcs
      have hlx : us.length = xs.length * 8 := h.own.1
      have hdl : (us.drop (i * 8)).length = (xs.length - i) * 8 := by rw [List.length_drop, hlx]; omega
      have hr1 : (splice cur.toList ((i + 1) * 8) (us.drop (i * 8))).length = cap * 8 := by rw [splice_length _ _ _ (by rw [hdl, hcl]; omega), hcl]
      have hgz := grownBy_set w g (splice cur.toList ((i + 1) * 8) (us.drop (i * 8))).toArray (splice (splice cur.toList ((i + 1) * 8) (us.drop (i * 8))) (i * 8) news).toArray
      rw [← hzl]
      refine ⟨_, us.take (i * 8) ++ news ++ us.drop (i * 8), rfl, RowIs.close hBg (setRow_heap _ g _ _ 82 (0, 0) (setRow_heap _ g cur _ 82 (0, 0) hg)) (by omega) hm ?_ ?_ (repPut h.rep h.len r1 i) hone hlen2 hnone, fun b hb => .inl hb, hfin.grown hnone hgz, hgz⟩
      · rw [List.size_toArray, splice_length _ _ _ (by rw [hr1, r3]; omega), hr1]
      · show List.take _ (splice _ _ _) = _
        have e0 : (xs.take i ++ x :: xs.drop i).length * 8 = (i * 8 + news.length) + (us.drop (i * 8)).length := by rw [hzl, r3, hdl]; omega
        have e1 : (i + 1) * 8 = i * 8 + news.length := by rw [r3]; omega
        rw [e0, e1, splice_two _ _ _ _ (by rw [r3, hdl, hcl]; omega), ← hus, List.take_take, Nat.min_eq_left (by omega)]
    · refine (insert153_grow g xs.length cap i vb voff 1 vc cur news w hlt (by omega) hle (by omega) hbig hm' hg hcs (by omega) r5 (by rw [hus]; exact h.one) r2).mono ?_
      rintro e w' ⟨C, R, rfl, q1, q2, q3, q4, q5, q6⟩
      rw [hus] at q4
      have e1 : cur.toList.take (i * 8) = us.take (i * 8) := by rw [← hus, List.take_take, Nat.min_eq_left (by omega)]
      rw [e1] at q4
      have hnn : noneF F w.heap.size := hfin.noneF (Nat.le_refl _)
      rw [← hzl]
      exact ⟨_, _, rfl, RowIs.close hB q5 (by omega) q2 q3 (by rw [hzl]; exact q4) (repPut h.rep h.len r1 i) hone hlen2 hnn, fun b hb => .inr (by simp [Value.ownBlock] at hb; omega), hfin.blocks q6.block, ⟨q6.os, q6.tape, q6.output, q6.size, fun k hk _ => q6.block k hk⟩⟩
  · have hie : i = xs.length := by omega
    subst hie
    obtain ⟨i0, hi0, hz0, hs0, hb0⟩ := info_parts info82
    have hobs := h.own
    rw [← hs0] at hobs
    obtain ⟨v', w1, ns, hr, q1, q2, q3, q4, q5, q6⟩ := run_app (ty := 25) Try.underlying25 hi0 hz0 (by rw [hs0]; rfl) (by omega) (by omega) hobs hu (by intro z hz; simp at hz; subst hz; omega) hfin hB (by rw [hb0]; simpa using hbig)
    have hfr : ∀ b, v'.ownBlock = some b → v.ownBlock = some b ∨ w.heap.size ≤ b := fun b hb => by
      rcases q6 with ⟨e, _⟩ | ⟨e, _⟩
      · rw [e] at hb; exact .inl hb
      · rw [e] at hb; cases hb; exact .inr (Nat.le_refl _)
    have hcon : ∀ (e : Ending) (w' : World), (e = .returned v' ∧ w' = w1) → ∃ v'' us', e = .returned v'' ∧ RowIs F w' B 82 8 v'' (xs.take xs.length ++ x :: xs.drop xs.length) us' ∧ (∀ b, v''.ownBlock = some b → v.ownBlock = some b ∨ w.heap.size ≤ b) ∧ FzIn w' F ∧ w.grownBy w' v.ownBlock := by
      rintro e w' ⟨rfl, rfl⟩
      have hfree : ∀ b, v'.ownBlock = some b → noneF F b := fun b hb => by
        rcases hfr b hb with k | k
        · exact h.free b k
        · exact hfin.noneF k
      have hz : xs.take xs.length ++ x :: xs.drop xs.length = xs ++ [x] := by simp
      rw [hz]
      rw [hs0] at q3
      refine ⟨v', us ++ ns, rfl, ⟨by simpa using q3, ?_, ?_, by rw [← hz]; exact hlen2, fun e => by have := q5 e; simp at this, hfree⟩, hfr, ?_, q4⟩
      · rw [List.flatten_append]; exact h.rep.append q1
      · intro y hy
        rcases List.mem_append.1 hy with hy | hy
        · exact h.one y hy
        · exact q2 y hy
      · intro b o y e
        have h1 := hfin b o y e
        by_cases eb : v.ownBlock = some b
        · rw [h.free b eb o] at e; cases e
        · exact (World.cell?_of_block (q4.block b (World.block_lt_of_cell? w _ h1) (fun e' => eb e'.symm))).trans h1
    rcases h.own.2 with ⟨rfl, h0⟩ | ⟨g, cap, cur, rfl, hBg, hg, hle, hm, hcs, hus⟩
    · rw [h0] at hcon ⊢
      exact (insert153_nil .nilFunc 1 vc _ w (by omega) hr).mono hcon
    · exact (insert153_end g xs.length cap 1 vc _ w (by omega) hle hr).mono hcon
end Go.Fw

