/-
  The laws of tables, as they are stated: what is found, what a list is with a thing put, and without it.
-/
import Derived.Test.YtikgpjnfifnilaaRows
import Derived.Test.YtikgpjnfifnilaaTL
import Derived.Test.YtikgpjnfifnilaaFwY
import Derived.Test.YtikgpjnfifnilaaFwZ
import Derived.ProofKit
import Derived.SizedLaws
set_option linter.unusedVariables false
set_option linter.unusedSimpArgs false
namespace Go.Fw
open Go.RowKit Go.Proofs
/-- How long a slice's reading is. -/
theorem slice_len {H : Type} {enc : TypeId × Value → H} {P : Program} {w : World} {sp : Nat → Bool} {held : Bool} {t e : TypeId} {o : Option Addr} {n c : Nat} {d : DataW H} {ps : List MemPlace} (hu : P.underlying t = some (.slice e))
    (h : DataW.Trod enc P w 0 sp held t (.slice o n c) d ps) : n = 0 ∨ ∃ elems spare, d = .slice elems spare ∧ elems.length = n := by
  obtain ⟨fuel, hf⟩ := h
  rcases DataW.trod_slice hu hf with ⟨h0, _⟩ | ⟨a, len, cap, elems, rest, m, _, hcs, hx, hb, hl, hm, hlen, hel, hsp, hns⟩
  · left
    simp [Value.cells] at h0
    exact h0.2.1
  · right
    simp only [Value.cells, List.cons.injEq, Value.slice.injEq] at hcs
    obtain ⟨⟨_, rfl, _⟩, _⟩ := hcs
    cases hx
    exact ⟨_, _, rfl, by simpa using hlen⟩
/-- A slice argument with its reach in bytes. -/
theorem slice_reach {H : Type} {enc : TypeId × Value → H} {P : Program} {w : World} {sp : Nat → Bool} {held : Bool} {t e : TypeId} {v : Value} {d : DataW H} {ps : List MemPlace} {xs ys : List (List PV)} {F : Fz} (hu : P.underlying t = some (.slice e))
    (h : DataW.Trod enc P w 0 sp held t v d ps) (hr : Rep F (.sl xs ys) v) {ts : List TypeId} {ds : List (DataW H)} (hz : (DataW.weightsEach P ts ds).all (· ≤ reachBytes) = true) {j : Nat} (ht : ts[j]? = some t) (hd : ds[j]? = some d) : xs.length * P.bytesOf e ≤ reachBytes := by
  cases hr with
  | sl xs sp es b off cap o ys hw hcap hm ho hl h1 hF hr =>
    rcases slice_len hu h with h0 | ⟨elems, spare, rfl, h2⟩
    · rw [h0]; simp
    · have := sized_slice hz ht hd hu
      rw [h2] at this
      refine Nat.le_trans (Nat.mul_le_mul_right _ ?_) this
      omega
end Go.Fw
namespace Go.Proofs.Ytikgpjnfifnilaa
open Go.ChangeShapes Go.WideShapes Go.ChangeAt Go.RowKit Go.Fw
open Go.ChangeMaps (open_string)

theorem Try.own : ownKnob Try.prog.godebug = none := by kernel_rfl
theorem Try.laidOut : laidOutB Try.prog = true := by kernel_rfl
theorem Try.bytes24 : Try.prog.bytesOf 24 = 24 := by kernel_rfl
def s0 : Value := .slice none 0 0
def zPair : Value := .agg #[.string ⟨#[]⟩, .int .i64 0]
def ksPair : List Ck := [.s, .i .i64]
theorem flatPairs : flatT Try.prog 8 22 = some [.sl ksPair] := by kernel_rfl
theorem flatPair : flatT Try.prog 8 24 = some (ksPair.map .k) := by kernel_rfl
theorem pair_of (row : List PV) (h : PRowOk ksPair row) : ∃ x : Pair, row = x.enc := by
  obtain ⟨_, _, rfl, ⟨a1, rfl⟩, k1⟩ := h.inv
  obtain ⟨_, _, rfl, ⟨a2, rfl, -⟩, k2⟩ := k1.inv
  cases k2
  exact ⟨⟨a1, a2⟩, rfl⟩
theorem pair_of' {qs : List PV} (h : PCellsOk (ksPair.map .k) qs) : ∃ x : Pair, qs = x.enc := by
  obtain ⟨_, _, rfl, ⟨a1, rfl⟩, k1⟩ := h.inv
  obtain ⟨_, _, rfl, ⟨a2, rfl, -⟩, k2⟩ := k1.inv
  cases k2
  exact ⟨⟨a1, a2⟩, rfl⟩

/-- What a reading of an argument says, holds behind the call too. -/
theorem trod_behind {H : Type} {enc : TypeId × Value → H} {t : TypeId} (hr : Try.prog.readableRec t = true) (hrow : t < Try.prog.types.size) {W W' : World} {v : Value} {d : DataW H} {p ps : List MemPlace} (hb : Below W.heap.size W W')
    (h : DataW.Trod enc Try.prog W 0 (fun _ => true) true t v d p) (hlt : ∀ x ∈ ps, x.block < W.heap.size) (hp : ∀ x ∈ p, x ∈ ps) : DataW.Trod enc Try.prog W' 0 (fun b => decide (b < W.heap.size)) true t v d p :=
  Below.trod Try.laidOut hr hrow h hb fun x hx => hlt x (hp x hx)

/-! ### The closed facts -/
def wordNs : List (List Nat) := [[104, 97, 114, 110, 101, 115, 115], [55, 101, 52, 48, 98, 54, 51, 101, 53, 101, 53, 49, 52, 97, 57, 53, 55, 57, 100, 56, 52, 98, 57, 55, 50, 98, 50, 98, 101, 52, 48, 52, 54, 99, 101, 52, 97, 48, 48, 57, 99, 99, 57, 50, 51, 50, 53, 48, 51, 56, 50, 55, 56, 55, 102, 49, 57, 98, 102, 52, 50, 50, 49, 100], [99, 117, 116], [97, 116], [115, 116, 101, 118, 101, 100, 111, 114, 101, 47, 115, 116, 101, 118, 101, 100, 111, 114, 101, 108, 97, 119, 48, 50, 46, 84, 97, 98, 108, 101, 68, 111, 101, 115], [115, 116, 101, 118, 101, 100, 111, 114, 101, 47, 115, 116, 101, 118, 101, 100, 111, 114, 101, 108, 97, 119, 48, 50, 46, 84, 97, 98, 108, 101, 82, 105, 115, 101, 115], [115, 116, 101, 118, 101, 100, 111, 114, 101, 47, 115, 116, 101, 118, 101, 100, 111, 114, 101, 108, 97, 119, 48, 50, 46, 84, 97, 98, 108, 101, 83, 111, 114, 116, 115], [115, 116, 101, 118, 101, 100, 111, 114, 101, 47, 115, 116, 101, 118, 101, 100, 111, 114, 101, 108, 97, 119, 48, 50, 46, 84, 97, 98, 108, 101, 70, 105, 110, 100, 115], [115, 116, 101, 118, 101, 100, 111, 114, 101, 47, 115, 116, 101, 118, 101, 100, 111, 114, 101, 108, 97, 119, 48, 50, 46, 84, 97, 98, 108, 101, 80, 117, 116, 115], [115, 116, 101, 118, 101, 100, 111, 114, 101, 47, 115, 116, 101, 118, 101, 100, 111, 114, 101, 108, 97, 119, 48, 50, 46, 84, 97, 98, 108, 101, 68, 114, 111, 112, 115]]
theorem initOf : Try.prog.initOrder = String.ofList (joinW wordNs) := by kernel_rfl
theorem wordsOf : wordsSigns Try.prog.initOrder.toList = wordNs.map (·.map Char.ofNat) := words_of initOf (by simp [wordNs]) (by kernel_rfl)
theorem behindW : behindMainWord (wordNs.map (·.map Char.ofNat)) = [99, 117, 116].map Char.ofNat :: (wordNs.drop 3).map (·.map Char.ofNat) := by kernel_rfl
theorem mayEnterH : Try.prog.mayEnter = true := mayEnter_of wordsOf behindW (by kernel_rfl) (by kernel_rfl) (by kernel_rfl) (by kernel_rfl) (by kernel_rfl)
theorem liftsH : Try.prog.liftsFinal = false := liftsFinal_of wordsOf (by kernel_rfl) (by kernel_rfl)
theorem makeH : Try.prog.make = some .cut := make_of wordsOf behindW (by kernel_rfl) (by kernel_rfl)
theorem heardH : Try.prog.stopsHeard = true := by kernel_rfl
theorem plainH : Try.prog.plainKeys = true := by kernel_rfl
theorem rowedH : mapsRowed Try.prog = true := by kernel_rfl

set_option maxRecDepth 100000 in
theorem tableDoes_lifted (os : Os) (started : os.Started) (H : Type) (enc : TypeId × Value → H) :
    ReturnsInHanded {} Try.checked os 3 .any (Rows.tableDoesSpec.pre6 enc Try.prog Try.f3 Rows.tableDoesRow.domain false) (Rows.tableDoesSpec.post enc Try.prog Try.f3 false true false false) := by
  refine returnsInHanded_of_change_sized (C := Try.checked) Try.own started (by kernel_rfl) Try.func3
    (ChangeSpec.witness6 (enc := enc) (C := Try.checked) false ⟨#[], #[s0, zPair], []⟩ 8 (by kernel_rfl) (by kernel_rfl) (by kernel_rfl) (by kernel_rfl)) ?_
  intro W base args ds gs before hval0 hW hcnd hsz0 _
  have hsz : (DataW.weightsEach Try.prog (Try.f3.params.toList ++ Rows.tableDoesSpec.plain.varTypes Try.prog) (ds ++ gs)).all (· ≤ reachBytes) = true := hsz0
  clear hsz0
  have hval : ∀ (j : Nat) t v, Try.f3.params[j]? = some t → args[j]? = some v → Value.okWide Try.prog W .any base t v := hval0
  have hW' := hW
  have hlt := hW.lt
  obtain ⟨p, q, hA0, hV, rfl, hfz, hnd⟩ := hW
  have hA : DataW.TrodAll enc Try.prog W 0 (fun _ => true) true Try.f3.params.toList args.toList ds p := hA0
  rw [Try.params3] at hA hval hsz
  obtain ⟨v0, v1, d0, d1, p0, p1, rfl, rfl, rfl, h0, h1⟩ := trodAll_two hA
  obtain ⟨rfl, rfl⟩ := trodVars_none hV
  obtain ⟨a0, len, cap, rfl⟩ := okWide_slice Try.underlying22 (hval 0 22 v0 rfl rfl)
  obtain ⟨rows, r0, c0⟩ := open_slice (r := .any) (b0 := base) (e := 24) flatPairs rfl h0
  obtain ⟨l, rfl⟩ := rows_of pair_of c0
  have hb := slice_reach Try.underlying22 h0 r0 hsz (j := 0) rfl rfl
  rw [Try.bytes24, List.length_map] at hb
  have hb0 : l.length * 24 ≤ 140737488355328 := Nat.le_trans hb (by decide)
  have hb1 : (l.length + 1) * 24 ≤ 140737488355328 := by
    rw [Nat.succ_mul]
    exact Nat.le_trans (Nat.add_le_add_right hb 24) (by decide)
  obtain ⟨ls, r1, c1⟩ := open_struct Try.underlying24 flatPair (hval 1 24 v1 rfl rfl) h1
  obtain ⟨x, rfl⟩ := pair_of' c1
  clear hA0 hval0
  have hcall := (law_TableDoes l [] x hb1).2 W (wF W) [.slice a0 len cap, v1] (wF_in W) (RepL.cons r0 (RepL.cons r1 RepL.nil))
  refine hcall.mono fun e W' he => ?_
  obtain ⟨v, F', rfl, hrep, _, _, hb⟩ := he
  obtain rfl := Rep.v_inv hrep
  refine ⟨_, rfl, _, _, _, [], _, [], hW', trodAll_mk1 (shut_bool Try.underlying4 true), trodAll_mk2 (trod_behind (by kernel_rfl) (of_decide_eq_true (by kernel_rfl)) hb h0 hlt ?_) (trod_behind (by kernel_rfl) (of_decide_eq_true (by kernel_rfl)) hb h1 hlt ?_), rfl, hb.frame _, fun h => by cases h⟩
  all_goals (intro y hy; simp [hy])

theorem tableDoes_closed : joinedFacts Try.prog 3 Try.f3 Rows.tableDoesSpec Rows.tableDoesRow = true := by
  simp only [joinedFacts, Bool.and_eq_true, mayEnterH, liftsH, makeH, heardH, Try.laidOut, rowedH, plainH]
  repeat' apply And.intro
  all_goals first | kernel_rfl | exact True.intro
theorem tableDoes_holds : Rows.TableDoesSaid :=
  OpenClaim.holds_of_wide 3 Try.f3 rfl rfl rfl rfl rfl rfl rfl ⟨rfl, rfl, rfl, rfl, rfl⟩ rfl rfl rfl rfl rfl (by kernel_rfl) Try.func3 tableDoes_closed
    (of_decide_eq_true (by kernel_rfl)) (by unfold Func.isWrapper; first | (rw [if_pos (by decide +kernel)]; kernel_rfl) | (rw [if_neg (by decide +kernel)]; exact ⟨rfl, rfl⟩))
    (fun os started H enc _ => tableDoes_lifted os started H enc)
#print axioms tableDoes_holds

end Go.Proofs.Ytikgpjnfifnilaa
