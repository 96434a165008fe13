/-
  One operation of the model goes with one step of the abstract machine: append.
-/
import Derived.Test.YtikgpjnfifnilaaFwM
import Derived.Laws.OwnMore
set_option linter.unusedVariables false
set_option linter.unusedSimpArgs false
namespace Go.Fw
open Go.RowKit

section
variable {P : Program} {B nt : Nat} {w0 : World} {F0 : Fz} {s s' : St} {a : Act} {w : World} {F : Fz} {m : Mp}

theorem trKd_app {op : Op} {ty es bytes : Nat} {xs : List Operand} (h : trKd P op = some (.app ty es bytes, xs)) : ∃ t x y i z, op = .call { callee := .builtin .append, args := #[x, y], argTypes := #[t, t] } ∧ xs = [x, y] ∧ P.underlying t = some (.slice ty) ∧ P.info? ty = some i ∧ i.zero = some z ∧ z.cells.size = i.size ∧ i.size = es ∧ i.bytes = bytes ∧ 0 < es ∧ 0 < bytes := by
  cases op
  case call c =>
    obtain ⟨callee, ⟨args⟩, ⟨ats⟩⟩ := c
    cases callee with
    | value fo =>
      cases fo <;> simp only [trKd] at h
      case func => split at h <;> cases h
      all_goals (cases h)
    | invoke _ _ => cases h
    | builtin b =>
      cases b
      case append =>
        simp only [trKd] at h
        split at h
        · rename_i x y t t'
          split at h
          · rename_i e; subst e
            split at h
            · rename_i e hu
              split at h
              · rename_i i hi
                split at h
                · rename_i z hz
                  split at h
                  · rename_i hh
                    cases h
                    exact ⟨t, x, y, i, z, rfl, rfl, hu, hi, hz, hh.1, rfl, rfl, hh.2.1, hh.2.2⟩
                  · cases h
                · cases h
              · cases h
            · cases h
          · cases h
        · cases h
      all_goals (simp only [trKd] at h; first | (cases h; done) | (repeat' (split at h)) <;> cases h)
  all_goals (simp only [trKd] at h; (repeat' (split at h)) <;> simp_all [Option.bind_eq_some_iff, Option.map_eq_some_iff])

theorem rep_sl {F : Fz} {zs sp : List (List PV)} {u : Value} (h : Rep F (.sl zs sp) u) {es : Nat} (he : ∀ z ∈ zs, z.length = es) (hfin : FzIn w F) :
    ∃ o cap news, u = .slice o zs.length cap ∧ RepL F zs.flatten news ∧ (∀ y ∈ news, y.oneCell' = true) ∧ news.length = zs.length * es ∧ cap ≤ maxLen ∧ zs.length ≤ cap ∧ (zs ≠ [] → ∃ ad, o = some ad ∧ ∀ j y, news[j]? = some y → w.cell? (ad.add j) = some y) := by
  cases h with
  | sl xs sp es' b off cap o ys hw hcap hm ho hl h1 hF hr =>
    refine ⟨o, cap, ys.take (zs.length * es), rfl, ⟨?_, ?_⟩, fun y hy => h1 y (List.mem_of_mem_take hy), ?_, hm, by simp at hcap; omega, fun hne => ?_⟩
    · have h2 := flatten_length he
      simp only [List.length_take, h2]
      have : zs.length * es ≤ ys.length := by rw [hl, List.flatten_append, List.length_append, h2]; omega
      omega
    · intro j p y hp hy
      have h2 := flatten_length he
      have hj : j < zs.flatten.length := (List.getElem?_eq_some_iff.1 hp).1
      rw [List.getElem?_take, if_pos (by omega)] at hy
      exact hr j p y (by rw [List.flatten_append, List.getElem?_append_left hj]; exact hp) hy
    · have h2 := flatten_length he
      have : zs.length * es ≤ ys.length := by rw [hl, List.flatten_append, List.length_append, h2]; omega
      simp only [List.length_take]; omega
    · refine ⟨_, ho (by simp [hne]), fun j y hy => ?_⟩
      rw [List.getElem?_take] at hy
      split at hy
      · have := hfin _ _ _ (hF j y hy)
        have e : (⟨b, off, none⟩ : Addr).add j = ⟨b, off + j, none⟩ := by cases j <;> simp [Addr.add]
        rw [e]; exact this
      · cases hy

/-- append, onto a slice of the call's own or onto nil: what comes of it. -/
theorem run_app {t ty : TypeId} {e : TypeId} {i : TypeInfo} {z : Value} (ht : P.underlying t = some (.slice e)) (hi : P.info? e = some i) (hz : i.zero = some z) (hzs : z.cells.size = i.size) (hsz : 0 < i.size) (hby : 0 < i.bytes)
    {v : Value} {n : Nat} {xs : List Value} (hown : w.ownsRow B e i.size v n xs) {u : Value} {zs sp : List (List PV)} (hu : Rep F (.sl zs sp) u) (he : ∀ z ∈ zs, z.length = i.size) (hfin : FzIn w F) (hbase : B ≤ w.heap.size)
    (hbytes : (n + zs.length) * i.bytes ≤ 140737488355328) :
    ∃ v' w' news, (Builtin.append_ #[t, t] ty #[v, u]).run P w = .ok v' w' ∧ RepL F zs.flatten news ∧ (∀ y ∈ news, y.oneCell' = true) ∧ w'.ownsRow B e i.size v' (n + zs.length) (xs ++ news) ∧ w.grownBy w' v.ownBlock ∧
      (v'.ownBlock = none → n + zs.length = 0) ∧ (v'.ownBlock = v.ownBlock ∧ (∀ g, v.ownBlock = some g → ∀ j, j < n * i.size → w'.cell? ⟨g, j, none⟩ = w.cell? ⟨g, j, none⟩) ∨ v'.ownBlock = some w.heap.size ∧ w.heap.size < w'.heap.size ∧ ∀ k, k < w.heap.size → w'.heap[k]? = w.heap[k]?) := by
  obtain ⟨o, c, news, rfl, hrep, h1, hl, hcm', hcap', hnews⟩ := rep_sl hu he hfin
  have hle : n + zs.length ≤ 140737488355328 := by
    have : (n + zs.length) * 1 ≤ (n + zs.length) * i.bytes := Nat.mul_le_mul_left _ hby
    omega
  have hml : (140737488355328 : Nat) ≤ maxLen := by simp [maxLen]
  have hlen : (xs ++ news).length = (n + zs.length) * i.size := by rw [List.length_append, hown.1, hl, Nat.add_mul]
  by_cases hzn : zs = []
  · subst hzn
    have hn : news = [] := List.eq_nil_of_length_eq_zero (by simpa using hl)
    subst hn
    refine ⟨v, w, [], ?_, hrep, h1, by simpa using hown, ⟨rfl, rfl, rfl, Nat.le_refl _, fun _ _ _ => rfl⟩, ?_, .inl ⟨rfl, fun _ _ _ _ => rfl⟩⟩
    · rcases hown.2 with ⟨rfl, rfl⟩ | ⟨g, cap, cur, rfl, hbg, hg, hnc, hcm, hcs, htake⟩
      · cases o <;> simp [Builtin.append_, run_underlying ht, sizeOf, typeInfo, hi, Builtin.lenOf, Builtin.firstCells, loadCells, loadCellsFrom]
      · cases o <;> simp [Builtin.append_, run_underlying ht, sizeOf, typeInfo, hi, Builtin.lenOf, Builtin.firstCells, hnc, storeCells, loadCells, loadCellsFrom]
    · rcases hown.2 with ⟨rfl, rfl⟩ | ⟨g, cap, cur, rfl, hbg, hg, hnc, hcm, hcs, htake⟩
      · simp
      · simp [Value.ownBlock]
  · obtain ⟨ad, rfl, hnews'⟩ := hnews hzn
    clear hnews
    have hnews := hnews'
    clear hnews'
    have hpos : 0 < zs.length := List.length_pos_iff.2 hzn
    have grown : ∀ (old : Nat), old < n + zs.length →
        (w.drew.alloc (.cells (xs.toArray ++ news.toArray ++ Builtin.zeroCells z.cells (grownCap w (n + zs.length) old e - (n + zs.length))) e)).ownsRow B e i.size
          (.slice (some ⟨w.heap.size, 0, none⟩) (n + zs.length) (grownCap w (n + zs.length) old e)) (n + zs.length) (xs ++ news) := by
      intro old ho
      refine ⟨hlen, .inr ⟨w.heap.size, _, _, rfl, hbase, heap_alloc_new w.drew _, grownCap_ge w _ old e, grownCap_le_maxLen w _ old e (by omega), ?_, ?_⟩⟩
      · have hge := grownCap_ge w (n + zs.length) old e
        simp only [Array.size_append, List.size_toArray, size_zeroCells, hzs, hown.1, hl, ← Nat.add_mul]
        congr 1
        omega
      · simp only [Array.toList_append, List.append_assoc]
        rw [← List.append_assoc, ← hlen]
        exact List.take_left
    have after : ∀ c', (∀ k, k < w.heap.size → (w.drew.alloc c').heap[k]? = w.heap[k]?) := fun c' k hk => heap_alloc_old w.drew c' hk
    rcases hown.2 with ⟨rfl, rfl⟩ | ⟨g, cap, cur, rfl, hbg, hg, hnc, hcm, hcs, htake⟩
    · have hx : xs = [] := List.eq_nil_of_length_eq_zero (by simpa using hown.1)
      subst hx
      have hfit := growslice_fits (need := 0 + zs.length) (old := 0) (bytes := i.bytes) (by omega) hbytes
      have hr := run_append_nil (P := P) w t ty e i z ht hi hz ad zs.length c news hl hnews (by omega) (by omega) (by have hb := hbytes; simp only [Nat.zero_add] at hb; omega)
      have hgr := grown 0 (by omega)
      simp only [Nat.zero_add, List.nil_append, Array.empty_append] at hgr ⊢
      exact ⟨_, _, news, hr, hrep, h1, hgr, ⟨rfl, rfl, rfl, by simp, fun k hk _ => after _ k hk⟩, by simp [Value.ownBlock], .inr ⟨rfl, by simp, after _⟩⟩
    · by_cases hroom : n + zs.length ≤ cap
      · have hfit : n * i.size + news.length ≤ cur.size := by rw [hl, hcs, ← Nat.add_mul]; exact Nat.mul_le_mul_right _ hroom
        have hr := run_append_room (P := P) w t ty e i ht hi g n cap cur hg ad zs.length c news hl hnews h1 hroom hfit
        refine ⟨_, _, news, hr, hrep, h1, ⟨hlen, .inr ⟨g, cap, _, rfl, hbg, setRow_heap w g cur _ e _ hg, hroom, hcm, ?_, ?_⟩⟩, ⟨rfl, rfl, rfl, by simp, fun k _ hk => setRow_other w g k _ (fun e => hk (by simp [Value.ownBlock, e]))⟩, by simp [Value.ownBlock], .inl ⟨rfl, fun g' hg' j hj => ?_⟩⟩
        · simp only [List.size_toArray, List.length_append, List.length_take, List.length_drop, Array.length_toList]
          omega
        · rw [htake, ← hlen]
          exact List.take_left
        · simp only [Value.ownBlock, Option.some.injEq] at hg'
          subst hg'
          rw [cell_of_row _ g j _ e (0, 0) (setRow_heap w g cur _ e _ hg), cell_of_row w g j cur e (0, 0) hg]
          have h2 : j < xs.length := by rw [hown.1]; exact hj
          have h3 : xs[j]? = cur[j]? := by rw [← htake, List.getElem?_take, if_pos hj]; simp
          rw [← h3]
          simp only [List.getElem?_toArray, htake, List.append_assoc]
          rw [List.getElem?_append_left h2]
      · have holds : ∀ j u, xs[j]? = some u → w.cell? ((⟨g, 0, none⟩ : Addr).add j) = some u := hown.cells (g := g) rfl
        have hr := run_append_grow (P := P) w t ty e i z ht hi hz ⟨g, 0, none⟩ n cap xs hown.1 holds ad zs.length c news hl hnews (by omega) (by omega) (growslice_fits (by omega) hbytes)
        exact ⟨_, _, news, hr, hrep, h1, grown cap (by omega), ⟨rfl, rfl, rfl, by simp, fun k hk _ => after _ k hk⟩, by simp [Value.ownBlock], .inr ⟨rfl, by simp, after _⟩⟩

def capOf : Value → Nat
  | .slice _ _ c => c
  | _ => 0
theorem ownBlock_none {n es ty : Nat} {v : Value} {xs : List Value} (h : w.ownsRow B ty es v n xs) : v = rowVal (v.ownBlock, capOf v) n := by
  rcases h.2 with ⟨rfl, rfl⟩ | ⟨g, cap, cur, rfl, _⟩ <;> simp [rowVal, Value.ownBlock, capOf]

/-- A row of the call's own has grown. -/
theorem InvP.grow (h : InvP B w0 F0 nt s a w F m) {row : Option Nat} {w1 : World} (hg : w.grownBy w1 row) (hrow : ∀ k, row = some k → k = B ∨ w0.heap.size ≤ k) {t' : Nat → T} (ht' : ∀ k, t' k = s.t k ∨ t' k = .p .any) {o' : Nat → Option Own}
    (ho' : ∀ k x, o' k = some x → s.o k = some x ∧ ∀ b, (m k).1 = some b → row ≠ some b) (hfin : FzIn w1 F) {d : Nat} (hdn : d < nt) (hd : ∀ k, (t' k).name ≠ some d) {mo : Option Nat} {c : Nat} (hmo : ∀ b, mo = some b → row = some b ∨ w.heap.size ≤ b) {x : Own} (hx : OwnOk F w1 B (mo, c) x) :
    InvP B w0 F0 nt ⟨t', upd o' d (some x)⟩ a w1 F (upd m d (mo, c)) := by
  have hB : B ≤ w.heap.size := h.hB
  have hb1 : BelowX B w0 w1 := ⟨hg.os.trans h.below.os, hg.tape.trans h.below.tape, hg.output.trans h.below.output, Nat.le_trans h.below.size hg.size, fun k hk hne => (hg.block k (Nat.lt_of_lt_of_le hk h.below.size) fun e => by rcases hrow k e.symm with e' | e' <;> omega).trans (h.below.block k hk hne)⟩
  refine ⟨h.defers, h.size, hb1, h.base, h.on, hfin, fun k hk => ?_, fun n y hy => ?_, fun n n' b hn hn' hb hb' => ?_, fun n b hn hb => ?_, by rw [upd_ne _ _ (by have := h.ntle; omega)]; exact h.mfix, h.ntle⟩
  · rcases ht' k with e | e
    · exact RepT.upd (by simp only [e]; exact h.tmps k hk) (hd k) _
    · simp only [e]; exact Rep.any _
  · by_cases e : n = d
    · subst e
      simp only [Fw.upd, if_true] at hy
      cases hy
      simpa [Fw.upd] using hx
    · simp only [Fw.upd, e, if_false] at hy ⊢
      obtain ⟨h1, h2⟩ := ho' n y hy
      exact (h.own n y h1).keep (fun b hb => hg.block b ((h.own n y h1).lt hb).2 (fun e => h2 b hb e.symm)) F.le_refl fun _ _ _ => rfl
  · have old : ∀ q b, q ≠ d → (upd o' d (some x) q).isSome = true → (upd m d (mo, c) q).1 = some b → (s.o q).isSome = true ∧ (m q).1 = some b ∧ row ≠ some b ∧ b < w.heap.size := fun q b e h1 h2 => by
      simp only [Fw.upd, e, if_false] at h1 h2
      obtain ⟨y, hy⟩ := Option.isSome_iff_exists.1 h1
      obtain ⟨k1, k2⟩ := ho' q y hy
      exact ⟨by simp [k1], h2, k2 b h2, ((h.own q y k1).lt h2).2⟩
    by_cases e : n = d <;> by_cases e' : n' = d
    · rw [e, e']
    · obtain ⟨_, _, k3, k4⟩ := old n' b e' hn' hb'
      subst e
      simp only [Fw.upd, if_true] at hb
      rcases hmo b hb with k | k
      · exact absurd k k3
      · omega
    · obtain ⟨_, _, k3, k4⟩ := old n b e hn hb
      subst e'
      simp only [Fw.upd, if_true] at hb'
      rcases hmo b hb' with k | k
      · exact absurd k k3
      · omega
    · obtain ⟨k1, k2, _, _⟩ := old n b e hn hb
      obtain ⟨l1, l2, _, _⟩ := old n' b e' hn' hb'
      exact h.inj n n' b k1 l1 k2 l2
  · by_cases e : n = d
    · subst e
      simp only [Fw.upd, if_true] at hb
      rcases hmo b hb with k | k
      · exact hrow b k
      · exact .inr (Nat.le_trans h.below.size k)
    · simp only [Fw.upd, e, if_false] at hn hb
      obtain ⟨y, hy⟩ := Option.isSome_iff_exists.1 hn
      exact h.ownL n b (by simp [(ho' n y hy).1]) hb

theorem FzIn.noneF (h : FzIn w F) {b : Nat} (hb : w.heap.size ≤ b) : noneF F b := fun o => by
  cases e : F b o with
  | none => rfl
  | some y => have := World.block_lt_of_cell? w _ (h b o y e); simp only at this; omega

theorem FzIn.blocks (h : FzIn w F) {w1 : World} (hb : ∀ k, k < w.heap.size → w1.heap[k]? = w.heap[k]?) : FzIn w1 F := fun b o y e => by
  have h1 := h b o y e
  exact (World.cell?_of_block (hb b (World.block_lt_of_cell? w _ h1))).trans h1

theorem does_appNil (h : Inv B w0 F0 nt s a w) {ops : Array Oper} {o : Oper} {r : RG} (ht : trOp P nt ops o = some r) {ty es bytes d : Nat} {x y : Opd} {ra : RA} {ys sp : List (List PV)} (hk : r.k = .app ty es bytes) (hd : r.d = some d) (hw : s.want r.g = some true) (ha : r.a = [x, y])
      (hx : s.ev x = .nil) (hy : s.res y = some ra) (hp : ra.pv = some (.sl ys sp)) (he : ∀ z ∈ ys, z.length = es) (hl : ys.length * bytes ≤ 140737488355328) (hf : s.fresh d) :
      Does P ops o a w (Inv B w0 F0 nt ⟨upd s.t d (.row d ys.length), upd (frzO s.o ra.frz) d (some (.row ty es ys false))⟩) := by
  intro K Q hK
  obtain ⟨xs, hkd, hxs, hg, hdst, hdo⟩ := trOp_inv ht
  rw [hk] at hkd
  obtain ⟨t, xo, yo, i, z, hop, rfl, hu, hi, hz, hzs, rfl, rfl, hsz, hby⟩ := trKd_app hkd
  rw [ha] at hxs
  obtain ⟨hxo, hyo⟩ := opd2 hxs
  obtain ⟨F, m, h⟩ := h
  rw [want_ok h hg hw, if_pos rfl]
  obtain ⟨F', h', hle, hfil⟩ := h.frz ra.frz
  have hrep := argPv h' hfil hyo hy rfl hp
  have hxv : RepT F' m (s.ev x) (a.eval xo) := by have := trOpd_rep (s := ⟨s.t, frzO s.o ra.frz⟩) h' hxo; cases x <;> exact this
  rw [hx] at hxv
  have hB : B ≤ w.heap.size := h'.hB
  obtain ⟨v', w1, news, hr, q1, q2, q3, q4, q5, q6⟩ := run_app (ty := o.type) hu hi hz hzs hsz hby (World.ownsRow_nil w B ty i.size) hrep he h'.fin hB (by simpa using hl)
  simp only [Nat.zero_add, List.nil_append] at q3 q5
  unfold Oper.wp execOp
  have hx0 : a.eval xo = .slice none 0 0 := hxv
  simp only [hop, resolve, invoke, builtin, Sem.run_bind, Sem.run_pure, Result.andThen_ok, List.map_toArray, List.map_cons, List.map_nil, hx0, hr, Oper.upon_value, hdst, hd]
  have hv := ownBlock_none q3
  have hblk : ∀ b, v'.ownBlock = some b → w.heap.size ≤ b := fun b hb => by
    rcases q6 with ⟨e, _⟩ | ⟨e, _⟩
    · rw [e] at hb; simp [Value.ownBlock] at hb
    · rw [e] at hb; cases hb; exact Nat.le_refl _
  have hfin : FzIn w1 F' := h'.fin.blocks fun k hk => q4.block k hk (by simp [Value.ownBlock])
  have hown : OwnOk F' w1 B (v'.ownBlock, capOf v') (.row ty i.size ys false) := by
    refine ⟨he, news, by rw [← hv]; exact q3, q1, q2, fun e => List.eq_nil_of_length_eq_zero (by simpa using q5 e), fun b hb => ?_⟩
    have hn := h'.fin.noneF (hblk b hb)
    exact ⟨fun o y e => (by have := hn o; rw [this] at e; cases e), fun _ => hn⟩
  have hh := h'.grow (t' := s.t) (o' := frzO s.o ra.frz) (d := d) q4 (by simp [Value.ownBlock]) (fun k => .inl rfl) (fun k x hx => ⟨hx, fun b _ => by simp [Value.ownBlock]⟩) hfin (by rw [hd] at hdo; simpa [dstOk] using hdo) hf (fun b hb => .inr (hblk b hb)) hown
  refine hK _ _ ⟨F', _, hh.put (d := some d) (t := .row d ys.length) ?_ (by rw [← hd]; exact hdo)⟩
  refine ⟨?_, ?_⟩
  · simp only [upd_same]; exact hv
  · simp only [upd_same]; exact fun e => q5 e

theorem does_appRow (h : Inv B w0 F0 nt s a w) {ops : Array Oper} {o : Oper} {r : RG} (ht : trOp P nt ops o = some r) {ty es bytes d n : Nat} {x y : Opd} {ra : RA} {xs ys sp : List (List PV)} {fz : Bool} (hk : r.k = .app ty es bytes) (hd : r.d = some d) (hw : s.want r.g = some true) (ha : r.a = [x, y])
      (hx : s.ev x = .row n xs.length) (ho : s.o n = some (.row ty es xs fz)) (hy : s.res y = some ra) (hp : ra.pv = some (.sl ys sp)) (he : ∀ z ∈ ys, z.length = es) (hl : (xs.length + ys.length) * bytes ≤ 140737488355328)
      (hn : n ∉ ra.frz) (hf : d ≠ n → s.fresh d) :
      Does P ops o a w (Inv B w0 F0 nt ⟨upd (killT s.t n) d (.row d (xs.length + ys.length)), upd (upd (frzO s.o ra.frz) n none) d (some (.row ty es (xs ++ ys) fz))⟩) := by
  intro K Q hK
  obtain ⟨xs', hkd, hxs, hg, hdst, hdo⟩ := trOp_inv ht
  rw [hk] at hkd
  obtain ⟨t, xo, yo, i, z, hop, rfl, hu, hi, hz, hzs, rfl, rfl, hsz, hby⟩ := trKd_app hkd
  rw [ha] at hxs
  obtain ⟨hxo, hyo⟩ := opd2 hxs
  obtain ⟨F, m, h⟩ := h
  rw [want_ok h hg hw, if_pos rfl]
  obtain ⟨F', h', hle, hfil⟩ := h.frz ra.frz
  have hrep := argPv h' hfil hyo hy rfl hp
  have hxv : RepT F' m (s.ev x) (a.eval xo) := by have := trOpd_rep (s := ⟨s.t, frzO s.o ra.frz⟩) h' hxo; cases x <;> exact this
  rw [hx] at hxv
  have hB : B ≤ w.heap.size := h'.hB
  have hon : (frzO s.o ra.frz) n = some (.row ty i.size xs fz) := by simp [frzO, hn, ho]
  have hok := h'.own n _ hon
  have hlt : ∀ b, (m n).1 = some b → b = B ∨ w0.heap.size ≤ b := fun b hb => h'.ownL n b (by simp [hon]) hb
  obtain ⟨g1, ys0, g2, g3, g4, g5, g6⟩ := hok
  obtain ⟨v', w1, news, hr, q1, q2, q3, q4, q5, q6⟩ := run_app (ty := o.type) hu hi hz hzs hsz hby g2 hrep he h'.fin hB hl
  unfold Oper.wp execOp
  have hx0 : a.eval xo = rowVal (m n) xs.length := hxv.1
  simp only [hop, resolve, invoke, builtin, Sem.run_bind, Sem.run_pure, Result.andThen_ok, List.map_toArray, List.map_cons, List.map_nil, hx0, hr, Oper.upon_value, hdst, hd]
  have hv := ownBlock_none q3
  have hob : (rowVal (m n) xs.length).ownBlock = (m n).1 := by unfold rowVal; cases e : (m n).1 <;> simp [Value.ownBlock]
  rw [hob] at q4 q6
  have hblk : ∀ b, v'.ownBlock = some b → (m n).1 = some b ∨ w.heap.size ≤ b := fun b hb => by
    rcases q6 with ⟨e, _⟩ | ⟨e, _⟩
    · rw [e] at hb; exact .inl hb
    · rw [e] at hb; cases hb; exact .inr (Nat.le_refl _)
  have hfin : FzIn w1 F' := by
    rcases q6 with ⟨e, k⟩ | ⟨e, _, k⟩
    · intro b off y hy
      have h1 := h'.fin b off y hy
      by_cases eb : (m n).1 = some b
      · rw [k b eb off ((g6 b eb).1 off y hy)]; exact h1
      · exact (World.cell?_of_block (q4.block b (World.block_lt_of_cell? w _ h1) (fun e => eb e.symm))).trans h1
    · exact h'.fin.blocks k
  have hown : OwnOk F' w1 B (v'.ownBlock, capOf v') (.row ty i.size (xs ++ ys) fz) := by
    refine ⟨fun z hz => ?_, ys0 ++ news, ?_, ?_, fun y hy => ?_, fun e => List.eq_nil_of_length_eq_zero (by simpa using q5 e), fun b hb => ?_⟩
    · rcases List.mem_append.1 hz with hz | hz
      · exact g1 z hz
      · exact he z hz
    · rw [List.length_append, ← hv]; exact q3
    · rw [List.flatten_append]; exact g3.append q1
    · rcases List.mem_append.1 hy with hy | hy
      · exact g4 y hy
      · exact q2 y hy
    · rcases hblk b hb with k | k
      · refine ⟨fun o y e => ?_, (g6 b k).2⟩
        have := (g6 b k).1 o y e
        rw [List.length_append, Nat.add_mul]; omega
      · have hn := h'.fin.noneF k
        exact ⟨fun o y e => (by have := hn o; rw [this] at e; cases e), fun _ => hn⟩
  have hfr : ∀ k, (killT s.t n k).name ≠ some d := fun k => by
    unfold killT
    split
    · simp [T.name]
    · rename_i e
      by_cases e' : d = n
      · subst e'; exact e
      · exact hf e' k
  have hh := h'.grow (t' := killT s.t n) (o' := upd (frzO s.o ra.frz) n none) (d := d) q4 hlt (fun k => by unfold killT; split; exact .inr rfl; exact .inl rfl)
    (fun k x hx => by
      by_cases e : k = n
      · subst e; simp [Fw.upd] at hx
      · simp only [Fw.upd, e, if_false] at hx
        refine ⟨hx, fun b hb eb => ?_⟩
        exact e (h'.inj k n b (by simp [hx]) (by simp [hon]) hb eb)) hfin (by rw [hd] at hdo; simpa [dstOk] using hdo) hfr hblk hown
  refine hK _ _ ⟨F', _, hh.put (d := some d) (t := .row d (xs.length + ys.length)) ?_ (by rw [← hd]; exact hdo)⟩
  refine ⟨?_, ?_⟩
  · simp only [upd_same]; exact hv
  · simp only [upd_same]; exact fun e => q5 e
end
end Go.Fw
