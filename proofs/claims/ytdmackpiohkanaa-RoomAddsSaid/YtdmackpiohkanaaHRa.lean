/-
  The laws of room.
-/
import Derived.Test.YtdmackpiohkanaaHZb
import Derived.Test.YtdmackpiohkanaaHS
import Derived.Test.YtdmackpiohkanaaIrG
set_option linter.unusedVariables false
set_option linter.unusedSimpArgs false
set_option maxRecDepth 10000
namespace Go.Fw
open Go.Proofs

/-! ### The chapter's examples -/
def n11 : Item := { Item.zero with code := nut, volume := 3, weight := 1 }
def b11 : Bin := { Bin.zero with code := ⟨#[98]⟩, kind := 1, volume := 10, weight := 10 }
def q11 : Quant := ⟨⟨#[98]⟩, nut, ⟨#[]⟩, 1, 2, 0⟩
def h11 : House := { House.zero with items := ⟨[n11], []⟩, bins := ⟨[b11], []⟩, quants := ⟨[q11], []⟩ }
def h11i (v w : Int) : House := { h11 with items := ⟨[{ n11 with volume := v, weight := w }], []⟩ }
def h11b (v w : Int) : House := { h11 with bins := ⟨[{ b11 with volume := v, weight := w }], []⟩ }
theorem put_one11 {α : Type} {cmp : α → α → Int} {x y : α} (h : cmp y x = 0) : putL cmp x [y] = [x] := by
  have hf : findB (eqQ cmp x) [y] = true := by simp [findB, firstI, eqQ, h]
  unfold putL
  rw [if_pos hf]
  simp [findI, firstI, eqQ, h]
theorem w11i (v w : Int) : h11.withItem { n11 with volume := v, weight := w } = h11i v w := by
  have h : putL itemCmp { n11 with volume := v, weight := w } [n11] = [{ n11 with volume := v, weight := w }] := put_one11 ((item0 _ _).2 rfl)
  unfold House.withItem h11i
  show ({ h11 with items := ⟨putL itemCmp { n11 with volume := v, weight := w } [n11], []⟩ } : House) = _
  rw [h]
theorem e11l : h11.load ⟨#[98]⟩ = (6, 2) := by decide +kernel
theorem e11a : (h11.resize nut 5 1).2 = 0 := by
  have h := resize_cases h11 nut 5 1 (x := n11) rfl (by decide)
  rw [w11i] at h
  rw [h, if_neg (by decide +kernel)]
theorem e11b : (h11.resize nut 6 1).2 = 26 := by
  have h := resize_cases h11 nut 6 1 (x := n11) rfl (by decide)
  rw [w11i] at h
  rw [h, if_pos (by decide +kernel)]
theorem e11c : (h11.limit ⟨#[98]⟩ 6 2).2 = 0 := by
  unfold House.limit
  rw [show h11.bin? ⟨#[98]⟩ = some b11 from rfl]
  simp only
  rw [if_neg (by decide), if_neg (by decide +kernel)]
theorem e11d : (h11.limit ⟨#[98]⟩ 5 9).2 = 26 := by
  unfold House.limit
  rw [show h11.bin? ⟨#[98]⟩ = some b11 from rfl]
  simp only
  rw [if_neg (by decide), if_pos (by decide +kernel)]
theorem e11f : h11.room ⟨#[98]⟩ nut 1 = 0 := by decide +kernel
theorem e11g : h11.room ⟨#[98]⟩ nut 2 = 26 := by decide +kernel
theorem e11o : h11.over = [] := by decide +kernel
theorem small114 : Ret Try.prog 114 [] (.agg h11.enc) := by
  refine ret114 rfl fun hbd => ?_
  unfold c114
  repeat (first
    | refine r_sem rfl rfl rfl rfl ?_ | refine r_nil ?_ | refine r_storeAll rfl rfl rfl rfl rfl rfl ?_ | refine r_alloc rfl ?_ | refine r_bsl rfl rfl rfl rfl rfl rfl ?_
    | refine r_semF rfl rfl rfl rfl ?_ | refine run_seq ?_ | refine run_reg ?_ | refine run_ret ?_ | refine fin_seq ?_)
  exact fin_out rfl rfl
set_option maxHeartbeats 4000000 in
theorem awake46 : Ret Try.prog 46 [] (.v (.bool true)) := by
  refine ret46 rfl fun hbd => ?_
  have cl := load47 h11 ⟨#[98]⟩
  rw [e11l] at cl
  obtain ⟨g1, ca⟩ := out_of (resize54 h11 nut 5 1 (by decide) (by decide)) e11a
  obtain ⟨g2, cb⟩ := out_of (resize54 h11 nut 6 1 (by decide) (by decide)) e11b
  obtain ⟨g3, cc⟩ := out_of (limit56 h11 ⟨#[98]⟩ 6 2 (by decide)) e11c
  obtain ⟨g4, cd⟩ := out_of (limit56 h11 ⟨#[98]⟩ 5 9 (by decide)) e11d
  have cf := fits49 h11 ⟨#[98]⟩ nut 1
  rw [e11f] at cf
  have cg := fits49 h11 ⟨#[98]⟩ nut 2
  rw [e11g] at cg
  have co := over52 h11 (by decide)
  rw [e11o] at co
  unfold c46
  repeat (first
    | refine r_call rfl (small114) ?_ | refine r_call rfl (cl) ?_ | refine r_call rfl (ca) ?_ | refine r_call rfl (cb) ?_ | refine r_call rfl (cc) ?_ | refine r_call rfl (cd) ?_
    | refine r_call rfl (cf) ?_ | refine r_call rfl (cg) ?_ | refine r_call rfl (co) ?_ | refine r_mv_p rfl ?_ | refine r_doA rfl ?_ | refine r_loadB rfl rfl ?_
    | refine r_pickT rfl rfl rfl ?_ | refine r_sem rfl rfl rfl rfl ?_ | refine r_nil ?_ | refine r_storeAll rfl rfl rfl rfl rfl rfl ?_ | refine r_alloc rfl ?_ | refine run_seq ?_
    | refine run_reg ?_ | refine run_ret ?_ | refine fin_seq ?_)
  exact fin_out rfl rfl

structure Ask where
  bin : Str
  item : Str
  qty : Int
  volume : Int
  weight : Int
def Ask.enc (x : Ask) : List PV := [.v (.string x.bin), .v (.string x.item), .v (.int .i64 x.qty), .v (.int .i64 x.volume), .v (.int .i64 x.weight)]

theorem law_RoomFits (h : House) (x : Ask) : Ret Try.prog 19 [.agg h.enc, .agg x.enc] (.v (.bool true)) := by
  refine ret19 rfl fun hbd => ?_
  unfold c19
  repeat (first
    | refine r_call rfl (small_ok h) ?_ | refine r_mv_p rfl ?_ | refine r_loadB rfl rfl ?_ | refine r_sem rfl rfl rfl rfl ?_ | refine r_nil ?_ | refine r_box rfl rfl rfl ?_
    | refine run_seq ?_ | refine run_reg ?_ | refine fin_seq ?_)
  refine run_cond rfl (fun h1 => ?_) (fun h1 => ?_)
  · repeat (first
      | refine r_call rfl (awake46) ?_ | refine r_mv_p rfl ?_ | refine r_nil ?_ | refine run_seq ?_ | refine run_reg ?_ | refine run_ret ?_ | refine fin_seq ?_ | refine fin_seq_r ?_)
    exact fin_out rfl rfl
  have he : decide (h.room x.bin x.item x.qty = h.room x.bin x.item x.qty) = true := by simp
  repeat (first
    | refine r_call rfl (fits49 h x.bin x.item x.qty) ?_ | refine r_call rfl (refFits50 h x.bin x.item x.qty) ?_ | refine r_call rfl (awake46) ?_ | refine r_mv_p rfl ?_
    | refine r_doA rfl ?_ | refine r_fad rfl rfl ?_ | refine r_loadB rfl rfl ?_ | refine r_pickT rfl rfl rfl ?_ | refine r_sem rfl rfl rfl rfl ?_ | refine r_nil ?_ | refine run_seq ?_
    | refine run_regd rfl ?_ | refine run_skip ?_ | refine run_ret ?_ | refine fin_seq ?_)
  exact fin_out rfl rfl
theorem law_RoomOver (h : House) : Ret Try.prog 20 [.agg h.enc] (.v (.bool true)) := by
  refine ret20 rfl fun hbd => ?_
  unfold c20
  repeat (first
    | refine r_call rfl (small_ok h) ?_ | refine r_mv_p rfl ?_ | refine r_loadB rfl rfl ?_ | refine r_sem rfl rfl rfl rfl ?_ | refine r_nil ?_ | refine r_box rfl rfl rfl ?_
    | refine run_seq ?_ | refine run_reg ?_ | refine fin_seq ?_)
  refine run_cond rfl (fun h1 => ?_) (fun h1 => ?_)
  · repeat (first
      | refine r_call rfl (awake46) ?_ | refine r_mv_p rfl ?_ | refine r_nil ?_ | refine run_seq ?_ | refine run_reg ?_ | refine run_ret ?_ | refine fin_seq ?_ | refine fin_seq_r ?_)
    exact fin_out rfl rfl
  have hs : h.small = true := by simpa using h1
  obtain ⟨l0, l1, l2, l3, l4, -⟩ := small_lens hs
  have c1 := over52 h (by omega)
  have c2 := refOver53 h (by omega)
  clear l0 l1 l2 l3 l4
  repeat (first
    | refine r_call rfl (c1) ?_ | refine r_call rfl (c2) ?_ | refine r_call rfl (texts51 h.over h.over [] [] rfl) ?_ | refine r_call rfl (awake46) ?_ | refine r_mv_p rfl ?_
    | refine r_doA rfl ?_ | refine r_loadB rfl rfl ?_ | refine r_pickT rfl rfl rfl ?_ | refine r_nil ?_ | refine run_seq ?_ | refine run_regd rfl ?_ | refine run_skip ?_
    | refine run_ret ?_ | refine fin_seq ?_)
  exact fin_out rfl rfl
set_option maxHeartbeats 4000000 in
theorem law_RoomLoads (h : House) (hx : h.Ok) (x : Ask) : Ret Try.prog 13 [.agg h.enc, .agg x.enc] (.v (.bool true)) := by
  refine ret13 rfl fun hbd => ?_
  unfold c13
  repeat (first
    | refine r_call rfl (small_ok h) ?_ | refine r_mv_p rfl ?_ | refine r_loadB rfl rfl ?_ | refine r_sem rfl rfl rfl rfl ?_ | refine r_nil ?_ | refine r_box rfl rfl rfl ?_
    | refine run_seq ?_ | refine run_reg ?_ | refine fin_seq ?_)
  refine run_cond rfl (fun h1 => ?_) (fun h1 => ?_)
  · repeat (first
      | refine r_call rfl (awake46) ?_ | refine r_mv_p rfl ?_ | refine r_nil ?_ | refine run_seq ?_ | refine run_reg ?_ | refine run_ret ?_ | refine fin_seq ?_ | refine fin_seq_r ?_)
    exact fin_out rfl rfl
  have hs : h.small = true := by simpa using h1
  obtain ⟨l0, l1, l2, l3, l4, -⟩ := small_lens hs
  have c1 := over52 h.lent (show h.bins.xs.length * 16 ≤ _ by omega)
  rw [over_same (SameH.lent h)] at c1
  have c2 := refOver53 h (by omega)
  have ca := load47 h.lent x.bin
  rw [load_same (SameH.lent h)] at ca
  have cb := refLoad48 h x.bin
  have cf := fits49 h.lent x.bin x.item x.qty
  rw [room_same (SameH.lent h)] at cf
  have cg := refFits50 h x.bin x.item x.qty
  have ck := kept_ok h hx hs
  generalize h.load x.bin = am at *
  generalize h.room x.bin x.item x.qty = r at *
  obtain ⟨v, w⟩ := am
  unfold amOut at ca cb
  have hv : decide (v = v) = true := by simp
  have hw : decide (w = w) = true := by simp
  have hr : decide (r = r) = true := by simp
  clear l0 l1 l2 l3 l4
  repeat (first
    | refine r_call rfl (lent_ok h hx hs) ?_ | refine r_call rfl (ca) ?_ | refine r_call rfl (cb) ?_ | refine r_call rfl (cf) ?_ | refine r_call rfl (cg) ?_ | refine r_call rfl (c1) ?_
    | refine r_call rfl (c2) ?_ | refine r_call rfl (texts51 h.over h.over [] [] rfl) ?_ | refine r_call rfl (ck) ?_ | refine r_call rfl (awake46) ?_ | refine r_mv_p rfl ?_
    | refine r_doA rfl ?_ | refine r_fad rfl rfl ?_ | refine r_loadB rfl rfl ?_ | refine r_pickT rfl rfl rfl ?_ | refine r_sem rfl rfl rfl rfl ?_ | refine r_nil ?_
    | refine r_storeAll rfl rfl rfl rfl rfl rfl ?_ | refine r_alloc rfl ?_ | refine run_seq ?_ | refine run_reg ?_ | refine run_regd rfl ?_ | refine run_skip ?_ | refine run_ret ?_
    | refine fin_seq ?_)
  exact fin_out rfl rfl
set_option maxHeartbeats 4000000 in
theorem law_RoomResize (h : House) (hx : h.Ok) (x : Ask) : Ret Try.prog 17 [.agg h.enc, .agg x.enc] (.v (.bool true)) := by
  refine ret17 rfl fun hbd => ?_
  unfold c17
  repeat (first
    | refine r_call rfl (small_ok h) ?_ | refine r_mv_p rfl ?_ | refine r_loadB rfl rfl ?_ | refine r_sem rfl rfl rfl rfl ?_ | refine r_nil ?_ | refine r_box rfl rfl rfl ?_
    | refine run_seq ?_ | refine run_reg ?_ | refine fin_seq ?_)
  refine run_cond rfl (fun h1 => ?_) (fun h1 => ?_)
  · repeat (first
      | refine r_call rfl (awake46) ?_ | refine r_mv_p rfl ?_ | refine r_nil ?_ | refine run_seq ?_ | refine run_reg ?_ | refine run_ret ?_ | refine fin_seq ?_ | refine fin_seq_r ?_)
    exact fin_out rfl rfl
  have hs : h.small = true := by simpa using h1
  obtain ⟨l0, l1, l2, l3, l4, -⟩ := small_lens hs
  obtain ⟨g, k, e, c1, c2, c3⟩ := two (resize54 h.lent x.item x.volume x.weight (show (h.items.xs.length + 1) * 136 ≤ _ by omega) (show h.bins.xs.length ≤ _ by omega)) (refResize55 h x.item x.volume x.weight (by omega) (by omega) (by omega)) (resize_same (SameH.lent h) x.item x.volume x.weight) (resize_ok (House.lent_ok hx) x.item x.volume x.weight)
  have ck := kept_ok h hx hs
  have he : decide (e = e) = true := by simp
  clear l0 l1 l2 l3 l4
  repeat (first
    | refine r_call rfl (lent_ok h hx hs) ?_ | refine r_call rfl (c1) ?_ | refine r_call rfl (c2) ?_ | refine r_call rfl (c3) ?_ | refine r_call rfl (ck) ?_
    | refine r_call rfl (awake46) ?_ | refine r_mv_p rfl ?_ | refine r_doA rfl ?_ | refine r_fad rfl rfl ?_ | refine r_loadB rfl rfl ?_ | refine r_pickT rfl rfl rfl ?_
    | refine r_sem rfl rfl rfl rfl ?_ | refine r_nil ?_ | refine r_storeAll rfl rfl rfl rfl rfl rfl ?_ | refine r_alloc rfl ?_ | refine run_seq ?_ | refine run_reg ?_ | refine run_skip ?_
    | refine run_ret ?_ | refine fin_seq ?_)
  exact fin_out rfl rfl
set_option maxHeartbeats 4000000 in
theorem law_RoomLimit (h : House) (hx : h.Ok) (x : Ask) : Ret Try.prog 18 [.agg h.enc, .agg x.enc] (.v (.bool true)) := by
  refine ret18 rfl fun hbd => ?_
  unfold c18
  repeat (first
    | refine r_call rfl (small_ok h) ?_ | refine r_mv_p rfl ?_ | refine r_loadB rfl rfl ?_ | refine r_sem rfl rfl rfl rfl ?_ | refine r_nil ?_ | refine r_box rfl rfl rfl ?_
    | refine run_seq ?_ | refine run_reg ?_ | refine fin_seq ?_)
  refine run_cond rfl (fun h1 => ?_) (fun h1 => ?_)
  · repeat (first
      | refine r_call rfl (awake46) ?_ | refine r_mv_p rfl ?_ | refine r_nil ?_ | refine run_seq ?_ | refine run_reg ?_ | refine run_ret ?_ | refine fin_seq ?_ | refine fin_seq_r ?_)
    exact fin_out rfl rfl
  have hs : h.small = true := by simpa using h1
  obtain ⟨l0, l1, l2, l3, l4, -⟩ := small_lens hs
  obtain ⟨g, k, e, c1, c2, c3⟩ := two (limit56 h.lent x.bin x.volume x.weight (show (h.bins.xs.length + 1) * 80 ≤ _ by omega)) (refLimit57 h x.bin x.volume x.weight (by omega)) (limit_same (SameH.lent h) x.bin x.volume x.weight) (limit_ok (House.lent_ok hx) x.bin x.volume x.weight)
  have ck := kept_ok h hx hs
  have he : decide (e = e) = true := by simp
  clear l0 l1 l2 l3 l4
  repeat (first
    | refine r_call rfl (lent_ok h hx hs) ?_ | refine r_call rfl (c1) ?_ | refine r_call rfl (c2) ?_ | refine r_call rfl (c3) ?_ | refine r_call rfl (ck) ?_
    | refine r_call rfl (awake46) ?_ | refine r_mv_p rfl ?_ | refine r_doA rfl ?_ | refine r_fad rfl rfl ?_ | refine r_loadB rfl rfl ?_ | refine r_pickT rfl rfl rfl ?_
    | refine r_sem rfl rfl rfl rfl ?_ | refine r_nil ?_ | refine r_storeAll rfl rfl rfl rfl rfl rfl ?_ | refine r_alloc rfl ?_ | refine run_seq ?_ | refine run_reg ?_ | refine run_skip ?_
    | refine run_ret ?_ | refine fin_seq ?_)
  exact fin_out rfl rfl
set_option maxHeartbeats 4000000 in
theorem law_RoomTurns (h : House) (hx : h.Ok) (x : Ask) : Ret Try.prog 14 [.agg h.enc, .agg x.enc] (.v (.bool true)) := by
  refine ret14 rfl fun hbd => ?_
  unfold c14
  repeat (first
    | refine r_call rfl (small_ok h) ?_ | refine r_mv_p rfl ?_ | refine r_loadB rfl rfl ?_ | refine r_sem rfl rfl rfl rfl ?_ | refine r_nil ?_ | refine r_box rfl rfl rfl ?_
    | refine run_seq ?_ | refine run_reg ?_ | refine fin_seq ?_)
  refine run_cond rfl (fun h1 => ?_) (fun h1 => ?_)
  · repeat (first
      | refine r_call rfl (awake46) ?_ | refine r_mv_p rfl ?_ | refine r_nil ?_ | refine run_seq ?_ | refine run_reg ?_ | refine run_ret ?_ | refine fin_seq ?_ | refine fin_seq_r ?_)
    exact fin_out rfl rfl
  have hs : h.small = true := by simpa using h1
  obtain ⟨l0, l1, l2, l3, l4, -⟩ := small_lens hs
  obtain ⟨g, k, e, c1, c2, c3⟩ := two (resize54 h.lent x.item x.volume x.weight (show (h.items.xs.length + 1) * 136 ≤ _ by omega) (show h.bins.xs.length ≤ _ by omega)) (refResize55 h x.item x.volume x.weight (by omega) (by omega) (by omega)) (resize_same (SameH.lent h) x.item x.volume x.weight) (resize_ok (House.lent_ok hx) x.item x.volume x.weight)
  obtain ⟨g', k', e', c1', c2', c3'⟩ := two (limit56 h.lent x.bin x.volume x.weight (show (h.bins.xs.length + 1) * 80 ≤ _ by omega)) (refLimit57 h x.bin x.volume x.weight (by omega)) (limit_same (SameH.lent h) x.bin x.volume x.weight) (limit_ok (House.lent_ok hx) x.bin x.volume x.weight)
  have ck := kept_ok h hx hs
  have he : decide (e = e) = true := by simp
  have he' : decide (e' = e') = true := by simp
  clear l0 l1 l2 l3 l4
  repeat (first
    | refine r_call rfl (lent_ok h hx hs) ?_ | refine r_call rfl (c1) ?_ | refine r_call rfl (c2) ?_ | refine r_call rfl (c3) ?_ | refine r_call rfl (c1') ?_ | refine r_call rfl (c2') ?_
    | refine r_call rfl (c3') ?_ | refine r_call rfl (ck) ?_ | refine r_call rfl (awake46) ?_ | refine r_mv_p rfl ?_ | refine r_doA rfl ?_ | refine r_fad rfl rfl ?_
    | refine r_loadB rfl rfl ?_ | refine r_pickT rfl rfl rfl ?_ | refine r_sem rfl rfl rfl rfl ?_ | refine r_nil ?_ | refine r_storeAll rfl rfl rfl rfl rfl rfl ?_ | refine r_alloc rfl ?_
    | refine run_seq ?_ | refine run_reg ?_ | refine run_skip ?_ | refine run_ret ?_ | refine fin_seq ?_)
  exact fin_out rfl rfl

/-! ### No bin is overfull -/
theorem resize_len {h g : House} {i : Str} {v w : Int} (hr : h.resize i v w = (g, 0)) : g.items.xs.length ≤ h.items.xs.length + 1 ∧ g.bins.xs.length = h.bins.xs.length := by
  unfold House.resize at hr
  split at hr
  · simp at hr
  rename_i x _
  split at hr
  · simp at hr
  split at hr
  · simp at hr
  have hg : g = h.withItem { x with volume := v, weight := w } := by simpa using hr.symm
  rw [hg]
  exact ⟨(put_length itemCmp _ h.items.xs).2, rfl⟩
theorem limit_len {h g : House} {c : Str} {v w : Int} (hr : h.limit c v w = (g, 0)) : g.items.xs.length = h.items.xs.length ∧ g.bins.xs.length ≤ h.bins.xs.length + 1 := by
  unfold House.limit at hr
  split at hr
  · simp at hr
  rename_i x _
  split at hr
  · simp at hr
  split at hr
  · simp at hr
  have hg : g = h.withBin { x with volume := v, weight := w } := by simpa using hr.symm
  rw [hg]
  exact ⟨rfl, (put_length binCmp _ h.bins.xs).2⟩
structure Calm (h : House) (n : Nat) : Prop where
  over : h.over = []
  items : h.items.xs.length ≤ 80 + n
  bins : h.bins.xs.length ≤ 80 + n
theorem over_none {h : House} (ho : h.over = []) (hb : h.bins.xs.length * 16 ≤ 140737488355328) : Ret Try.prog 52 [.agg h.enc] (.sl [] []) := by
  have := over52 h hb
  rw [ho] at this; exact this
set_option maxHeartbeats 16000000 in
theorem law_RoomHolds (h : House) (xs : List Ask) (sp : List (List PV)) : Ret Try.prog 15 [.agg h.enc, .sl (xs.map Ask.enc) sp] (.v (.bool true)) := by
  refine ret15 rfl fun hbd => ?_
  have hb : xs.length ≤ 9223372036854775807 := by
    have := hbd _ (List.mem_cons_of_mem _ (List.mem_cons_self))
    simp only [PV.bd, PV.bd1, List.length_append, List.length_map, maxLen] at this
    omega
  unfold c15
  cases hs : h.small with
  | false =>
    have hs' := small_ok h
    rw [hs] at hs'
    repeat (first
      | refine r_call rfl (hs') ?_ | refine r_call rfl (awake46) ?_ | refine r_mv_p rfl ?_ | refine r_skipA rfl ?_ | refine r_loadB rfl rfl ?_ | refine r_pickT rfl rfl rfl ?_
      | refine r_sem rfl rfl rfl rfl ?_ | refine r_nil ?_ | refine r_box rfl rfl rfl ?_ | refine run_seq ?_ | refine run_reg ?_ | refine run_ret ?_ | refine fin_seq ?_ | refine fin_seq_r ?_
      | refine run_condT rfl ?_)
    exact fin_out rfl rfl
  | true =>
  have hs' := small_ok h
  rw [hs] at hs'
  obtain ⟨l0, l1, l2, l3, l4, -⟩ := small_lens hs
  have co := over52 h (by omega)
  cases k0 : decide ((0 : Int) < (((h.over.map one).length : Nat) : Int)) with
  | true =>
    repeat (first
      | refine r_call rfl (hs') ?_ | refine r_call rfl (co) ?_ | refine r_call rfl (awake46) ?_ | refine r_mv_p rfl ?_ | refine r_doA rfl ?_ | refine r_loadB rfl rfl ?_
      | refine r_pickF rfl rfl rfl ?_ | refine r_sem rfl rfl rfl rfl ?_ | refine r_nil ?_ | refine r_box rfl rfl rfl ?_ | refine run_seq ?_ | refine run_reg ?_ | refine run_ret ?_
      | refine fin_seq ?_ | refine fin_seq_r ?_ | refine run_condT rfl ?_)
    exact fin_out rfl rfl
  | false =>
  have ho : h.over = [] := by
    have := of_decide_eq_false k0
    simp only [List.length_map] at this
    exact List.eq_nil_of_length_eq_zero (by omega)
  repeat (first
    | refine r_call rfl (hs') ?_ | refine r_call rfl (co) ?_ | refine r_mv_p rfl ?_ | refine r_doA rfl ?_ | refine r_loadB rfl rfl ?_ | refine r_pickF rfl rfl rfl ?_
    | refine r_sem rfl rfl rfl rfl ?_ | refine r_nil ?_ | refine r_box rfl rfl rfl ?_ | refine run_seq ?_ | refine run_reg ?_ | refine run_block ?_ | refine run_skip ?_
    | refine fin_seq ?_ | refine run_condF rfl ?_)
  refine run_weak (weak_S ?_ ?_) (run_inv (fun q : Nat × House => S [(1, .p (.sl (xs.map Ask.enc) sp)), (2, .own 2 0), (5, .p (.v (.int .i64 (q.1 : Nat))))] [(2, some (.box q.2.enc false))])
    (fun q => q.1 ≤ xs.length ∧ q.1 ≤ 30 ∧ Calm q.2 q.1) (fun q => xs.length - q.1) ?_ (0, h) ⟨Nat.zero_le _, Nat.zero_le _, ⟨ho, by simp only; omega, by simp only; omega⟩⟩)
  · exact ⟨rfl, rfl, rfl, trivial⟩
  · exact ⟨rfl, trivial⟩
  clear hs hs' l0 l1 l2 l3 l4 co k0 ho hbd
  rintro ⟨i, h⟩ ⟨hi, hi30, hw⟩ ih
  simp only at hi hi30 hw
  cases k1 : decide ((i : Int) < (((xs.map Ask.enc).length : Nat) : Int)) with
  | false =>
    repeat (first
      | refine r_call rfl (awake46) ?_ | refine r_mv_p rfl ?_ | refine r_skipA rfl ?_ | refine r_pickF rfl rfl rfl ?_ | refine r_sem rfl rfl rfl rfl ?_ | refine r_nil ?_ | refine run_seq ?_
      | refine run_reg ?_ | refine run_exit ?_ | refine run_ret ?_ | refine fin_seq ?_ | refine fin_seq_e ?_ | refine fin_blk_e ?_ | refine fin_loop_e ?_ | refine run_condF rfl ?_)
    exact fin_out rfl rfl
  | true =>
    cases k2 : decide ((i : Int) < 30) with
    | false =>
      repeat (first
        | refine r_call rfl (awake46) ?_ | refine r_mv_p rfl ?_ | refine r_doA rfl ?_ | refine r_pickT rfl rfl rfl ?_ | refine r_sem rfl rfl rfl rfl ?_ | refine r_nil ?_ | refine run_seq ?_
        | refine run_reg ?_ | refine run_exit ?_ | refine run_ret ?_ | refine fin_seq ?_ | refine fin_seq_e ?_ | refine fin_blk_e ?_ | refine fin_loop_e ?_ | refine run_condF rfl ?_)
      exact fin_out rfl rfl
    | true =>
      have hlt : i < xs.length := by simpa using k1
      have hlt30 : i < 30 := by have := of_decide_eq_true k2; omega
      have hx : (xs.map Ask.enc)[i]? = some xs[i].enc := by simp [hlt]
      obtain ⟨x, hxe⟩ : ∃ x, x = xs[i] := ⟨_, rfl⟩
      rw [← hxe] at hx
      obtain ⟨hov, hil, hbl⟩ := hw
      obtain ⟨⟨g, e⟩, hr⟩ : ∃ p, p = h.resize x.item x.volume x.weight := ⟨_, rfl⟩
      have ca := resize54 h x.item x.volume x.weight (by omega) (by omega)
      rw [← hr] at ca
      replace ca : Ret Try.prog 54 _ (.tup [.agg g.enc, .v (.int .i64 e)]) := ca
      obtain ⟨n1, hN, hc⟩ : ∃ n1 : House, (n1.over = [] ∧ n1.items.xs.length ≤ 80 + i + 1 ∧ n1.bins.xs.length ≤ 80 + i) ∧ ((e = 0 ∧ n1 = g) ∨ (e ≠ 0 ∧ n1 = h)) := by
        by_cases he : e = 0
        · subst he
          have := resize_len hr.symm
          exact ⟨_, ⟨resize_holds hr.symm hov, by omega, by omega⟩, .inl ⟨rfl, rfl⟩⟩
        · exact ⟨_, ⟨hov, by omega, hbl⟩, .inr ⟨he, rfl⟩⟩
      clear hr
      repeat (first
        | refine r_call rfl (ca) ?_ | refine r_mv_p rfl ?_ | refine r_doA rfl ?_ | refine r_loadB rfl rfl ?_ | refine r_pickT rfl rfl rfl ?_ | refine r_sem rfl rfl rfl rfl ?_
        | refine r_nil ?_ | refine r_iadA rfl rfl ?_ | refine r_storeAll rfl rfl rfl rfl rfl rfl ?_ | refine r_alloc rfl ?_ | refine run_seq ?_ | refine run_reg ?_ | refine run_regd rfl ?_
        | refine run_block ?_ | refine run_skip ?_ | refine fin_seq ?_ | refine run_condT rfl ?_)
      refine run_join (S [(1, .p (.sl (xs.map Ask.enc) sp)), (2, .own 2 0), (5, .p (.v (.int .i64 (i : Nat)))), (6, .own 6 0)] [(2, some (.box n1.enc false)), (6, some (.box g.enc false))]) ?_ ?_
      · clear ih
        refine run_cond rfl (fun he => ?_) (fun he => ?_)
        · have he' : e = 0 := of_decide_eq_true he
          rcases hc with ⟨-, rfl⟩ | ⟨hc, -⟩
          · have co := over_none hN.1 (by omega)
            repeat (first
              | refine r_call rfl (co) ?_ | refine r_loadB rfl rfl ?_ | refine r_sem rfl rfl rfl rfl ?_ | refine r_nil ?_ | refine r_storeAll rfl rfl rfl rfl rfl rfl ?_ | refine run_seq ?_
              | refine run_reg ?_ | refine run_skip ?_ | refine fin_seq ?_ | refine run_condF rfl ?_)
            refine ⟨.inl ⟨rfl, weak_S ?_ ?_⟩⟩
            · exact ⟨rfl, rfl, rfl, rfl, trivial⟩
            · exact ⟨rfl, rfl, trivial⟩
          · exact absurd he' hc
        · have he' : e ≠ 0 := of_decide_eq_false he
          rcases hc with ⟨hc, -⟩ | ⟨-, rfl⟩
          · exact absurd hc he'
          · repeat (first
              | refine run_skip ?_)
            refine ⟨.inl ⟨rfl, weak_S ?_ ?_⟩⟩
            · exact ⟨rfl, rfl, rfl, rfl, trivial⟩
            · exact ⟨rfl, rfl, trivial⟩
      clear ca hc hov hil hbl
      obtain ⟨hov, hil, hbl⟩ := hN
      obtain ⟨⟨g2, e2⟩, hr⟩ : ∃ p, p = n1.limit x.bin x.volume x.weight := ⟨_, rfl⟩
      have ca := limit56 n1 x.bin x.volume x.weight (by omega)
      rw [← hr] at ca
      replace ca : Ret Try.prog 56 _ (.tup [.agg g2.enc, .v (.int .i64 e2)]) := ca
      obtain ⟨n2, hN, hc⟩ : ∃ n2 : House, Calm n2 (i + 1) ∧ ((e2 = 0 ∧ n2 = g2) ∨ (e2 ≠ 0 ∧ n2 = n1)) := by
        by_cases he : e2 = 0
        · subst he
          have := limit_len hr.symm
          exact ⟨_, ⟨limit_holds hr.symm hov, by omega, by omega⟩, .inl ⟨rfl, rfl⟩⟩
        · exact ⟨_, ⟨hov, by omega, by omega⟩, .inr ⟨he, rfl⟩⟩
      clear hr
      repeat (first
        | refine r_call rfl (ca) ?_ | refine r_mv_p rfl ?_ | refine r_loadB rfl rfl ?_ | refine r_sem rfl rfl rfl rfl ?_ | refine r_nil ?_ | refine r_iadA rfl rfl ?_
        | refine r_storeAll rfl rfl rfl rfl rfl rfl ?_ | refine run_seq ?_ | refine run_reg ?_ | refine run_regd rfl ?_ | refine fin_seq ?_)
      refine run_cond rfl (fun he => ?_) (fun he => ?_)
      · have he' : e2 = 0 := of_decide_eq_true he
        rcases hc with ⟨-, rfl⟩ | ⟨hc, -⟩
        · have co := over_none hN.over (by have := hN.bins; omega)
          repeat (first
            | refine r_call rfl (co) ?_ | refine r_mv_p rfl ?_ | refine r_addA rfl rfl ?_ | refine r_loadB rfl rfl ?_ | refine r_sem rfl rfl rfl rfl ?_ | refine r_nil ?_
            | refine r_storeAll rfl rfl rfl rfl rfl rfl ?_ | refine run_seq ?_ | refine run_reg ?_ | refine run_skip ?_ | refine fin_seq ?_ | refine fin_blk ?_ | refine run_condF rfl ?_)
          refine fin_loop (run_weak (weak_S ?_ ?_) (ih (i + 1, n2) ⟨hlt, hlt30, hN⟩ (by simp only; omega)))
          · exact ⟨rfl, rfl, rfl, trivial⟩
          · exact ⟨rfl, trivial⟩
        · exact absurd he' hc
      · have he' : e2 ≠ 0 := of_decide_eq_false he
        rcases hc with ⟨hc, -⟩ | ⟨-, rfl⟩
        · exact absurd hc he'
        · repeat (first
            | refine r_mv_p rfl ?_ | refine r_addA rfl rfl ?_ | refine r_nil ?_ | refine run_reg ?_ | refine run_skip ?_ | refine fin_seq ?_ | refine fin_blk ?_)
          refine fin_loop (run_weak (weak_S ?_ ?_) (ih (i + 1, n2) ⟨hlt, hlt30, hN⟩ (by simp only; omega)))
          · exact ⟨rfl, rfl, rfl, trivial⟩
          · exact ⟨rfl, trivial⟩
end Go.Fw
