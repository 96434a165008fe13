/-
  The code of some functions, for the abstract machine. Printed by a program (wip/tools/mkir.py).
-/
import Derived.Test.YtbclfhjjkekglaaFwU
import Derived.Test.YtbclfhjjkekglaaProg
import Derived.KernelRfl
set_option linter.unusedVariables false
set_option maxRecDepth 100000
namespace Go.Fw
open Go.Proofs

/-- stevedore/units.Base -/
def c8 : C :=
  (.seq (.reg [⟨some 3, .box, [.t 0], none⟩,
   ⟨some 4, .box, [.t 1], none⟩,
   ⟨some 6, .mv, [.c (.p (.v (.int .i64 0)))], none⟩,
   ⟨some 7, .mv, [.c (.p (.v (.int .i64 0)))], none⟩])
  (.seq (.reg [⟨some 10, .load 14 true, [.t 3], none⟩,
   ⟨some 11, .call 14, [.t 10], none⟩,
   ⟨some 8, .mv, [.t 11], none⟩])
  (.seq (.reg [⟨some 12, .mv, [.t 8], none⟩,
   ⟨some 13, .mkf 16, [.t 4], none⟩,
   ⟨some 14, .call 15, [.t 12, .t 13], none⟩,
   ⟨some 9, .mv, [.t 14], none⟩])
  (.seq (.block 0
  (.seq (.reg [⟨some 16, .mv, [.t 9], none⟩,
   ⟨some 17, .bin .lss, [.t 16, .c (.p (.v (.int .i64 0)))], none⟩,
   ⟨some 15, .mv, [.t 17], none⟩])
  (.cond (.t 15)
  (.seq (.reg [⟨some 6, .mv, [.c (.p (.v (.int .i64 0)))], none⟩,
     ⟨some 7, .mv, [.c (.p (.v (.int .i64 20)))], none⟩])
    .ret)
  (.seq (.reg [⟨some 19, .mv, [.t 2], none⟩,
     ⟨some 20, .bin .lss, [.t 19, .c (.p (.v (.int .i64 1)))], none⟩,
     ⟨some 21, .mv, [.t 20], none⟩,
     ⟨some 22, .mv, [.t 2], some (21, false)⟩,
     ⟨some 23, .mv, [.t 8], some (21, false)⟩,
     ⟨some 24, .mv, [.t 9], some (21, false)⟩,
     ⟨some 25, .iad 2, [.t 23, .t 24], some (21, false)⟩,
     ⟨some 26, .fad 1, [.t 25], some (21, false)⟩,
     ⟨some 27, .load 1 false, [.t 26], some (21, false)⟩,
     ⟨some 28, .bin .quo, [.c (.p (.v (.int .i64 1000000000))), .t 27], some (21, false)⟩,
     ⟨some 29, .bin .gtr, [.t 22, .t 28], some (21, false)⟩,
     ⟨some 30, .pick, [.t 21, .c (.p (.v (.bool true))), .t 29], none⟩,
     ⟨some 18, .mv, [.t 30], none⟩])
    (.cond (.t 18)
    (.seq (.reg [⟨some 6, .mv, [.c (.p (.v (.int .i64 0)))], none⟩,
       ⟨some 7, .mv, [.c (.p (.v (.int .i64 10)))], none⟩])
      .ret)
    .skip)))))
  (.seq (.reg [⟨some 31, .mv, [.t 2], none⟩,
   ⟨some 32, .mv, [.t 8], none⟩,
   ⟨some 33, .mv, [.t 9], none⟩,
   ⟨some 34, .iad 2, [.t 32, .t 33], none⟩,
   ⟨some 35, .fad 1, [.t 34], none⟩,
   ⟨some 36, .load 1 false, [.t 35], none⟩,
   ⟨some 37, .bin .mul, [.t 31, .t 36], none⟩,
   ⟨some 6, .mv, [.t 37], none⟩,
   ⟨some 7, .mv, [.c (.p (.v (.int .i64 0)))], none⟩])
  .ret)))))
theorem ret8 {ps : List PV} {p : PV} (hn : Nat.ble ps.length 38 = true) (h : (∀ q ∈ ps, q.bd) → Run Try.prog (fun e s' => (∀ id, e ≠ .exit id) ∧ ∃ ns, s'.out [.t 6, .t 7] = some (p, ns)) [] c8 (S (initL 0 ps) [])) : Ret Try.prog 8 ps p :=
  ret_run Try.func8 rfl (by kernel_rfl) rfl (by kernel_rfl) (by kernel_rfl) (by kernel_rfl) (by kernel_rfl) (Nat.le_of_ble_eq_true hn) h

/-- stevedore/stevedoreref08.Base -/
def c9 : C :=
  (.seq (.reg [⟨some 3, .box, [.t 0], none⟩,
   ⟨some 6, .mv, [.c (.p (.v (.int .i64 0)))], none⟩,
   ⟨some 7, .mv, [.c (.p (.v (.int .i64 0)))], none⟩])
  (.seq (.reg [⟨some 9, .load 14 true, [.t 3], none⟩,
   ⟨some 10, .mv, [.t 1], none⟩,
   ⟨some 11, .call 17, [.t 9, .t 10], none⟩,
   ⟨some 8, .mv, [.t 11], none⟩])
  (.seq (.seq (.reg [⟨some 12, .mv, [.t 8], none⟩,
   ⟨some 13, .bin .eql, [.t 12, .c (.p (.v (.int .i64 0)))], none⟩])
  (.cond (.t 13)
  (.seq (.reg [⟨some 6, .mv, [.c (.p (.v (.int .i64 0)))], none⟩,
     ⟨some 7, .mv, [.c (.p (.v (.int .i64 20)))], none⟩])
    .ret)
  .skip))
  (.seq (.seq (.reg [⟨some 14, .mv, [.t 2], none⟩,
   ⟨some 15, .bin .lss, [.t 14, .c (.p (.v (.int .i64 1)))], none⟩,
   ⟨some 16, .mv, [.t 15], none⟩,
   ⟨some 17, .mv, [.t 2], some (16, false)⟩,
   ⟨some 18, .mv, [.t 8], some (16, false)⟩,
   ⟨some 19, .bin .quo, [.c (.p (.v (.int .i64 1000000000))), .t 18], some (16, false)⟩,
   ⟨some 20, .bin .gtr, [.t 17, .t 19], some (16, false)⟩,
   ⟨some 21, .pick, [.t 16, .c (.p (.v (.bool true))), .t 20], none⟩])
  (.cond (.t 21)
  (.seq (.reg [⟨some 6, .mv, [.c (.p (.v (.int .i64 0)))], none⟩,
     ⟨some 7, .mv, [.c (.p (.v (.int .i64 10)))], none⟩])
    .ret)
  .skip))
  (.seq (.reg [⟨some 22, .mv, [.t 2], none⟩,
   ⟨some 23, .mv, [.t 8], none⟩,
   ⟨some 24, .bin .mul, [.t 22, .t 23], none⟩,
   ⟨some 6, .mv, [.t 24], none⟩,
   ⟨some 7, .mv, [.c (.p (.v (.int .i64 0)))], none⟩])
  .ret)))))
theorem ret9 {ps : List PV} {p : PV} (hn : Nat.ble ps.length 25 = true) (h : (∀ q ∈ ps, q.bd) → Run Try.prog (fun e s' => (∀ id, e ≠ .exit id) ∧ ∃ ns, s'.out [.t 6, .t 7] = some (p, ns)) [] c9 (S (initL 0 ps) [])) : Ret Try.prog 9 ps p :=
  ret_run Try.func9 rfl (by kernel_rfl) rfl (by kernel_rfl) (by kernel_rfl) (by kernel_rfl) (by kernel_rfl) (Nat.le_of_ble_eq_true hn) h

/-- stevedore/stevedorelaw08.pairs -/
def c10 : C :=
  (.seq (.reg [⟨some 4, .mv, [.c (.p (.v (.bool false)))], none⟩])
  (.seq (.seq (.reg [⟨some 6, .mv, [.t 0], none⟩,
   ⟨some 7, .len 0, [.t 6], none⟩,
   ⟨some 8, .mv, [.t 1], none⟩,
   ⟨some 9, .len 0, [.t 8], none⟩,
   ⟨some 10, .bin .neq, [.t 7, .t 9], none⟩])
  (.cond (.t 10)
  (.seq (.reg [⟨some 4, .mv, [.c (.p (.v (.bool false)))], none⟩])
    .ret)
  .skip))
  (.seq (.seq (.reg [⟨some 5, .mv, [.c (.p (.v (.int .i64 0)))], none⟩])
  (.block 0
  (.loop
  (.seq (.seq (.reg [⟨some 11, .mv, [.t 5], none⟩,
   ⟨some 12, .mv, [.t 0], none⟩,
   ⟨some 13, .len 0, [.t 12], none⟩,
   ⟨some 14, .bin .lss, [.t 11, .t 13], none⟩])
  (.cond (.t 14)
  .skip
  (.exit 0)))
  (.seq (.block 1
  (.seq (.regd [⟨some 17, .mv, [.t 0], none⟩,
   ⟨some 18, .mv, [.t 5], none⟩,
   ⟨some 19, .iad 2, [.t 17, .t 18], none⟩,
   ⟨some 20, .load 2 true, [.t 19], none⟩,
   ⟨some 21, .mv, [.t 1], none⟩,
   ⟨some 22, .mv, [.t 5], none⟩,
   ⟨some 23, .iad 2, [.t 21, .t 22], none⟩,
   ⟨some 24, .load 2 true, [.t 23], none⟩,
   ⟨some 25, .eqs true [.s, .i .i64], [.t 20, .t 24], none⟩])
  (.cond (.t 25)
  (.seq (.reg [⟨some 4, .mv, [.c (.p (.v (.bool false)))], none⟩])
    .ret)
  .skip)))
  (.reg [⟨some 15, .mv, [.t 5], none⟩,
   ⟨some 16, .bin .add, [.t 15, .c (.p (.v (.int .i64 1)))], none⟩,
   ⟨some 5, .mv, [.t 16], none⟩]))))))
  (.seq (.reg [⟨some 4, .mv, [.c (.p (.v (.bool true)))], none⟩])
  .ret))))
theorem ret10 {ps : List PV} {p : PV} (hn : Nat.ble ps.length 26 = true) (h : (∀ q ∈ ps, q.bd) → Run Try.prog (fun e s' => (∀ id, e ≠ .exit id) ∧ ∃ ns, s'.out [.t 4] = some (p, ns)) [] c10 (S (initL 0 ps) [])) : Ret Try.prog 10 ps p :=
  ret_run Try.func10 rfl (by kernel_rfl) rfl (by kernel_rfl) (by kernel_rfl) (by kernel_rfl) (by kernel_rfl) (Nat.le_of_ble_eq_true hn) h

/-- stevedore/units.known -/
def c14 : C :=
  (.seq (.reg [⟨some 1, .box, [.t 0], none⟩,
   ⟨some 2, .mv, [.c .nil], none⟩])
  (.seq (.reg [⟨some 3, .mv, [.c .nil], none⟩])
  (.seq (.seq (.reg [⟨some 7, .fad 1, [.t 1], none⟩,
   ⟨some 8, .load 8 true, [.t 7], none⟩,
   ⟨some 9, .mv, [.c (.p (.v (.int .i64 0)))], none⟩])
  (.block 0
  (.loop
  (.seq (.reg [⟨some 10, .bin .lss, [.t 9, .c (.p (.v (.int .i64 4)))], none⟩])
  (.seq (.cond (.t 10)
  .skip
  (.exit 0))
  (.seq (.block 1
  (.seq (.reg [⟨some 11, .idx 2 4 true, [.t 8, .t 9], none⟩,
   ⟨some 5, .alloc [.v (.string ⟨#[]⟩), .v (.int .i64 0)], [], none⟩,
   ⟨none, .store 2, [.t 5, .t 11], none⟩])
  (.seq (.reg [⟨some 12, .fad 0, [.t 5], none⟩,
   ⟨some 13, .load 1 false, [.t 12], none⟩,
   ⟨some 14, .bin .eql, [.t 13, .c (.p (.v (.string ⟨#[101, 97, 99, 104]⟩)))], none⟩,
   ⟨some 15, .mv, [.t 14], none⟩,
   ⟨some 16, .mv, [.t 3], some (15, false)⟩,
   ⟨some 17, .mkf 22, [.t 5], some (15, false)⟩,
   ⟨some 18, .call 21, [.t 16, .t 17], some (15, false)⟩,
   ⟨some 19, .pick, [.t 15, .c (.p (.v (.bool true))), .t 18], none⟩,
   ⟨some 6, .mv, [.t 19], none⟩])
  (.seq (.reg [⟨some 20, .fad 0, [.t 5], none⟩,
   ⟨some 21, .load 1 false, [.t 20], none⟩,
   ⟨some 22, .bin .neq, [.t 21, .c (.p (.v (.string ⟨#[]⟩)))], none⟩,
   ⟨some 23, .mv, [.t 22], none⟩,
   ⟨some 24, .fad 1, [.t 5], some (23, true)⟩,
   ⟨some 25, .load 1 false, [.t 24], some (23, true)⟩,
   ⟨some 26, .bin .geq, [.t 25, .c (.p (.v (.int .i64 2)))], some (23, true)⟩,
   ⟨some 27, .pick, [.t 23, .t 26, .c (.p (.v (.bool false)))], none⟩,
   ⟨some 28, .mv, [.t 27], none⟩,
   ⟨some 29, .mv, [.t 6], some (28, true)⟩,
   ⟨some 30, .un .not, [.t 29], some (28, true)⟩,
   ⟨some 31, .pick, [.t 28, .t 30, .c (.p (.v (.bool false)))], none⟩])
  (.cond (.t 31)
  (.reg [⟨some 32, .mv, [.t 3], none⟩,
     ⟨some 33, .load 2 true, [.t 5], none⟩,
     ⟨some 34, .bsl 23 2 1 [.v (.string ⟨#[]⟩), .v (.int .i64 0)] [0], [.t 33], none⟩,
     ⟨some 35, .app 23 2 24, [.t 32, .t 34], none⟩,
     ⟨some 3, .mv, [.t 35], none⟩])
  .skip)))))
  (.reg [⟨some 36, .bin .add, [.t 9, .c (.p (.v (.int .i64 1)))], none⟩,
   ⟨some 9, .mv, [.t 36], none⟩])))))))
  (.seq (.reg [⟨some 37, .mv, [.t 3], none⟩,
   ⟨some 38, .build [.v (.string ⟨#[]⟩), .v (.int .i64 0)] [(0, 1), (1, 1)], [.c (.p (.v (.string ⟨#[101, 97, 99, 104]⟩))), .c (.p (.v (.int .i64 1)))], none⟩,
   ⟨some 39, .bsl 23 2 1 [.v (.string ⟨#[]⟩), .v (.int .i64 0)] [0], [.t 38], none⟩,
   ⟨some 40, .app 23 2 24, [.t 37, .t 39], none⟩,
   ⟨some 2, .mv, [.t 40], none⟩])
  .ret))))
theorem ret14 {ps : List PV} {p : PV} (hn : Nat.ble ps.length 41 = true) (h : (∀ q ∈ ps, q.bd) → Run Try.prog (fun e s' => (∀ id, e ≠ .exit id) ∧ ∃ ns, s'.out [.t 2] = some (p, ns)) [] c14 (S (initL 0 ps) [])) : Ret Try.prog 14 ps p :=
  ret_run Try.func14 rfl (by kernel_rfl) rfl (by kernel_rfl) (by kernel_rfl) (by kernel_rfl) (by kernel_rfl) (Nat.le_of_ble_eq_true hn) h

theorem leaf14 {ps : List PV} {ty es : Nat} {zs : List (List PV)} (hn : Nat.ble ps.length 41 = true) (hl : ∀ p ∈ zs.flatten, ∃ x, p = .v x) (h : (∀ q ∈ ps, q.bd) → Run Try.prog (fun e s' => (∀ id, e ≠ .exit id) ∧ ∃ n fz, s'.t 2 = .row n zs.length ∧ s'.o n = some (.row ty es zs fz)) [] c14 (S (initL 0 ps) [])) : RetN Try.prog 14 ps ty es zs :=
  retV_run Try.func14 rfl (by kernel_rfl) rfl rfl (by decide) (by kernel_rfl) (by kernel_rfl) (by kernel_rfl) (Nat.le_of_ble_eq_true hn) hl h

/-- slices.IndexFunc[[]stevedore/api.Unit,stevedore/api.Unit] -/
def c15 : C :=
  (.seq (.reg [⟨some 4, .mv, [.c (.p (.v (.int .i64 0)))], none⟩])
  (.seq (.seq (.reg [⟨some 6, .mv, [.t 0], none⟩,
   ⟨some 7, .len 0, [.t 6], none⟩,
   ⟨some 8, .mv, [.c (.p (.v (.int .i64 0)))], none⟩])
  (.block 0
  (.loop
  (.seq (.reg [⟨some 9, .bin .lss, [.t 8, .t 7], none⟩])
  (.seq (.cond (.t 9)
  .skip
  (.exit 0))
  (.seq (.block 1
  (.seq (.reg [⟨some 10, .mv, [.t 8], none⟩,
   ⟨some 5, .mv, [.t 10], none⟩])
  (.seq (.reg [⟨some 11, .mv, [.t 1], none⟩,
   ⟨some 12, .mv, [.t 0], none⟩,
   ⟨some 13, .mv, [.t 5], none⟩,
   ⟨some 14, .iad 2, [.t 12, .t 13], none⟩,
   ⟨some 15, .load 2 true, [.t 14], none⟩,
   ⟨some 16, .callv, [.t 11, .t 15], none⟩])
  (.cond (.t 16)
  (.seq (.reg [⟨some 17, .mv, [.t 5], none⟩,
     ⟨some 4, .mv, [.t 17], none⟩])
    .ret)
  .skip))))
  (.reg [⟨some 18, .bin .add, [.t 8, .c (.p (.v (.int .i64 1)))], none⟩,
   ⟨some 8, .mv, [.t 18], none⟩])))))))
  (.seq (.reg [⟨some 4, .mv, [.c (.p (.v (.int .i64 (-1))))], none⟩])
  .ret)))
theorem ret15 {ps : List PV} {p : PV} (hn : Nat.ble ps.length 19 = true) (h : (∀ q ∈ ps, q.bd) → Run Try.prog (fun e s' => (∀ id, e ≠ .exit id) ∧ ∃ ns, s'.out [.t 4] = some (p, ns)) [] c15 (S (initL 0 ps) [])) : Ret Try.prog 15 ps p :=
  ret_run Try.func15 rfl (by kernel_rfl) rfl (by kernel_rfl) (by kernel_rfl) (by kernel_rfl) (by kernel_rfl) (Nat.le_of_ble_eq_true hn) h

/-- stevedore/units.Base$1 -/
def c16 : C :=
  (.seq (.reg [⟨some 2, .box, [.t 0], none⟩,
   ⟨some 3, .mv, [.c (.p (.v (.bool false)))], none⟩])
  (.seq (.reg [⟨some 4, .fad 0, [.t 2], none⟩,
   ⟨some 5, .load 1 false, [.t 4], none⟩,
   ⟨some 6, .load 1 false, [.t 1], none⟩,
   ⟨some 7, .bin .eql, [.t 5, .t 6], none⟩,
   ⟨some 3, .mv, [.t 7], none⟩])
  .ret))
theorem ret16 {ps : List PV} {p : PV} (hn : Nat.ble ps.length 8 = true) (h : (∀ q ∈ ps, q.bd) → Run Try.prog (fun e s' => (∀ id, e ≠ .exit id) ∧ ∃ ns, s'.out [.t 3] = some (p, ns)) [] c16 (S (initL 0 ps) [])) : Ret Try.prog 16 ps p :=
  ret_run Try.func16 rfl (by kernel_rfl) rfl (by kernel_rfl) (by kernel_rfl) (by kernel_rfl) (by kernel_rfl) (Nat.le_of_ble_eq_true hn) h

/-- stevedore/stevedoreref08.factor -/
def c17 : C :=
  (.seq (.reg [⟨some 2, .box, [.t 0], none⟩,
   ⟨some 4, .mv, [.c (.p (.v (.int .i64 0)))], none⟩])
  (.seq (.seq (.reg [⟨some 7, .mv, [.t 1], none⟩,
   ⟨some 8, .bin .eql, [.t 7, .c (.p (.v (.string ⟨#[101, 97, 99, 104]⟩)))], none⟩])
  (.cond (.t 8)
  (.seq (.reg [⟨some 4, .mv, [.c (.p (.v (.int .i64 1)))], none⟩])
    .ret)
  .skip))
  (.seq (.seq (.reg [⟨some 5, .mv, [.c (.p (.v (.int .i64 0)))], none⟩])
  (.block 0
  (.loop
  (.seq (.seq (.reg [⟨some 9, .mv, [.t 5], none⟩,
   ⟨some 10, .bin .lss, [.t 9, .c (.p (.v (.int .i64 4)))], none⟩])
  (.cond (.t 10)
  .skip
  (.exit 0)))
  (.seq (.block 1
  (.seq (.reg [⟨some 13, .mv, [.t 5], none⟩,
   ⟨some 14, .fad 1, [.t 2], none⟩,
   ⟨some 15, .aad 2 4, [.t 14, .t 13], none⟩,
   ⟨some 16, .load 2 true, [.t 15], none⟩,
   ⟨some 6, .alloc [.v (.string ⟨#[]⟩), .v (.int .i64 0)], [], none⟩,
   ⟨none, .store 2, [.t 6, .t 16], none⟩])
  (.seq (.reg [⟨some 17, .fad 0, [.t 6], none⟩,
   ⟨some 18, .load 1 false, [.t 17], none⟩,
   ⟨some 19, .bin .neq, [.t 18, .c (.p (.v (.string ⟨#[]⟩)))], none⟩,
   ⟨some 20, .mv, [.t 19], none⟩,
   ⟨some 21, .fad 0, [.t 6], some (20, true)⟩,
   ⟨some 22, .load 1 false, [.t 21], some (20, true)⟩,
   ⟨some 23, .mv, [.t 1], some (20, true)⟩,
   ⟨some 24, .bin .eql, [.t 22, .t 23], some (20, true)⟩,
   ⟨some 25, .pick, [.t 20, .t 24, .c (.p (.v (.bool false)))], none⟩,
   ⟨some 26, .mv, [.t 25], none⟩,
   ⟨some 27, .fad 1, [.t 6], some (26, true)⟩,
   ⟨some 28, .load 1 false, [.t 27], some (26, true)⟩,
   ⟨some 29, .bin .geq, [.t 28, .c (.p (.v (.int .i64 2)))], some (26, true)⟩,
   ⟨some 30, .pick, [.t 26, .t 29, .c (.p (.v (.bool false)))], none⟩])
  (.cond (.t 30)
  (.seq (.reg [⟨some 31, .fad 1, [.t 6], none⟩,
     ⟨some 32, .load 1 false, [.t 31], none⟩,
     ⟨some 4, .mv, [.t 32], none⟩])
    .ret)
  .skip))))
  (.reg [⟨some 11, .mv, [.t 5], none⟩,
   ⟨some 12, .bin .add, [.t 11, .c (.p (.v (.int .i64 1)))], none⟩,
   ⟨some 5, .mv, [.t 12], none⟩]))))))
  (.seq (.reg [⟨some 4, .mv, [.c (.p (.v (.int .i64 0)))], none⟩])
  .ret))))
theorem ret17 {ps : List PV} {p : PV} (hn : Nat.ble ps.length 33 = true) (h : (∀ q ∈ ps, q.bd) → Run Try.prog (fun e s' => (∀ id, e ≠ .exit id) ∧ ∃ ns, s'.out [.t 4] = some (p, ns)) [] c17 (S (initL 0 ps) [])) : Ret Try.prog 17 ps p :=
  ret_run Try.func17 rfl (by kernel_rfl) rfl (by kernel_rfl) (by kernel_rfl) (by kernel_rfl) (by kernel_rfl) (Nat.le_of_ble_eq_true hn) h

/-- stevedore/units.Split$1 -/
def c19 : C :=
  (.seq (.reg [⟨some 2, .box, [.t 0], none⟩,
   ⟨some 3, .box, [.t 1], none⟩,
   ⟨some 4, .mv, [.c (.p (.v (.int .i64 0)))], none⟩])
  (.seq (.reg [⟨some 5, .fad 1, [.t 3], none⟩,
   ⟨some 6, .load 1 false, [.t 5], none⟩,
   ⟨some 7, .fad 1, [.t 2], none⟩,
   ⟨some 8, .load 1 false, [.t 7], none⟩,
   ⟨some 9, .bin .sub, [.t 6, .t 8], none⟩,
   ⟨some 4, .mv, [.t 9], none⟩])
  .ret))
theorem ret19 {ps : List PV} {p : PV} (hn : Nat.ble ps.length 10 = true) (h : (∀ q ∈ ps, q.bd) → Run Try.prog (fun e s' => (∀ id, e ≠ .exit id) ∧ ∃ ns, s'.out [.t 4] = some (p, ns)) [] c19 (S (initL 0 ps) [])) : Ret Try.prog 19 ps p :=
  ret_run Try.func19 rfl (by kernel_rfl) rfl (by kernel_rfl) (by kernel_rfl) (by kernel_rfl) (by kernel_rfl) (Nat.le_of_ble_eq_true hn) h

/-- stevedore/stevedorelaw08.nut -/
def c20 : C :=
  (.seq (.reg [⟨some 0, .alloc [.v (.string ⟨#[]⟩), .v (.string ⟨#[]⟩), .v (.int .i64 0), .v (.string ⟨#[]⟩), .v (.int .i64 0), .v (.string ⟨#[]⟩), .v (.int .i64 0), .v (.string ⟨#[]⟩), .v (.int .i64 0), .v (.int .i64 0), .v (.int .i64 0), .v (.bool false), .v (.bool false), .v (.bool false)], [], none⟩])
  (.seq (.reg [⟨some 1, .build [.v (.string ⟨#[]⟩), .v (.int .i64 0)] [(0, 1), (1, 1)], [.c (.p (.v (.string ⟨#[98, 111, 120]⟩))), .c (.p (.v (.int .i64 12)))], none⟩,
   ⟨some 2, .build [.v (.string ⟨#[]⟩), .v (.int .i64 0)] [(0, 1), (1, 1)], [.c (.p (.v (.string ⟨#[99, 97, 115, 101]⟩))), .c (.p (.v (.int .i64 240)))], none⟩,
   ⟨some 3, .build [.v (.string ⟨#[]⟩), .v (.int .i64 0), .v (.string ⟨#[]⟩), .v (.int .i64 0), .v (.string ⟨#[]⟩), .v (.int .i64 0), .v (.string ⟨#[]⟩), .v (.int .i64 0)] [(0, 2), (2, 2)], [.t 1, .t 2], none⟩,
   ⟨some 4, .build [.v (.string ⟨#[]⟩), .v (.string ⟨#[]⟩), .v (.int .i64 0), .v (.string ⟨#[]⟩), .v (.int .i64 0), .v (.string ⟨#[]⟩), .v (.int .i64 0), .v (.string ⟨#[]⟩), .v (.int .i64 0), .v (.int .i64 0), .v (.int .i64 0), .v (.bool false), .v (.bool false), .v (.bool false)] [(0, 1), (1, 8)], [.c (.p (.v (.string ⟨#[110, 117, 116]⟩))), .t 3], none⟩,
   ⟨none, .store 14, [.t 0, .t 4], none⟩])
  .ret))
theorem ret20 {ps : List PV} {p : PV} (hn : Nat.ble ps.length 5 = true) (h : (∀ q ∈ ps, q.bd) → Run Try.prog (fun e s' => (∀ id, e ≠ .exit id) ∧ ∃ ns, s'.out [.c 0 14 true] = some (p, ns)) [] c20 (S (initL 0 ps) [])) : Ret Try.prog 20 ps p :=
  ret_run Try.func20 rfl (by kernel_rfl) rfl (by kernel_rfl) (by kernel_rfl) (by kernel_rfl) (by kernel_rfl) (Nat.le_of_ble_eq_true hn) h

/-- slices.ContainsFunc[[]stevedore/api.Unit,stevedore/api.Unit] -/
def c21 : C :=
  (.seq (.reg [⟨some 4, .mv, [.c (.p (.v (.bool false)))], none⟩])
  (.seq (.reg [⟨some 5, .mv, [.t 0], none⟩,
   ⟨some 6, .mv, [.t 1], none⟩,
   ⟨some 7, .call 15, [.t 5, .t 6], none⟩,
   ⟨some 8, .bin .geq, [.t 7, .c (.p (.v (.int .i64 0)))], none⟩,
   ⟨some 4, .mv, [.t 8], none⟩])
  .ret))
theorem ret21 {ps : List PV} {p : PV} (hn : Nat.ble ps.length 9 = true) (h : (∀ q ∈ ps, q.bd) → Run Try.prog (fun e s' => (∀ id, e ≠ .exit id) ∧ ∃ ns, s'.out [.t 4] = some (p, ns)) [] c21 (S (initL 0 ps) [])) : Ret Try.prog 21 ps p :=
  ret_run Try.func21 rfl (by kernel_rfl) rfl (by kernel_rfl) (by kernel_rfl) (by kernel_rfl) (by kernel_rfl) (Nat.le_of_ble_eq_true hn) h

/-- stevedore/units.known$1 -/
def c22 : C :=
  (.seq (.reg [⟨some 2, .box, [.t 0], none⟩,
   ⟨some 3, .mv, [.c (.p (.v (.bool false)))], none⟩])
  (.seq (.reg [⟨some 4, .fad 0, [.t 2], none⟩,
   ⟨some 5, .load 1 false, [.t 4], none⟩,
   ⟨some 6, .fad 0, [.t 1], none⟩,
   ⟨some 7, .load 1 false, [.t 6], none⟩,
   ⟨some 8, .bin .eql, [.t 5, .t 7], none⟩,
   ⟨some 3, .mv, [.t 8], none⟩])
  .ret))
theorem ret22 {ps : List PV} {p : PV} (hn : Nat.ble ps.length 9 = true) (h : (∀ q ∈ ps, q.bd) → Run Try.prog (fun e s' => (∀ id, e ≠ .exit id) ∧ ∃ ns, s'.out [.t 3] = some (p, ns)) [] c22 (S (initL 0 ps) [])) : Ret Try.prog 22 ps p :=
  ret_run Try.func22 rfl (by kernel_rfl) rfl (by kernel_rfl) (by kernel_rfl) (by kernel_rfl) (by kernel_rfl) (Nat.le_of_ble_eq_true hn) h

/-- slices.SortStableFunc[[]stevedore/api.Unit,stevedore/api.Unit] -/
def c18 : C :=
  (.reg [⟨some 4, .mv, [.t 0], none⟩,
   ⟨some 5, .mv, [.t 0], none⟩,
   ⟨some 6, .len 0, [.t 5], none⟩,
   ⟨some 7, .mv, [.t 1], none⟩,
   ⟨some 8, .callu 23, [.t 4, .t 6, .t 7], none⟩])
theorem lent18 {ps : List PV} {ty es : Nat} {xs zs : List (List PV)} (hn : Nat.ble (ps.length + 1) 9 = true) (hzl : zs.length = xs.length) (hx : xs ≠ []) (hlv : ∀ p ∈ zs.flatten, ∃ x, p = .v x) (h : Run Try.prog (fun e s' => (∀ id, e ≠ .exit id) ∧ ∃ fz, s'.o LN = some (.row ty es zs fz)) [] c18 (S ((0, .row LN xs.length) :: initL 1 ps) [(LN, some (.row ty es xs false))])) : RetU Try.prog 18 ty es xs ps zs :=
  retU_run Try.func18 rfl (by kernel_rfl) rfl rfl (by kernel_rfl) (by kernel_rfl) (by kernel_rfl) (Nat.le_of_ble_eq_true hn) hzl hx hlv h

/-- slices.stableCmpFunc[stevedore/api.Unit] -/
def c23 : C :=
  (.seq (.reg [⟨some 6, .mv, [.c (.p (.v (.int .i64 20)))], none⟩])
  (.seq (.reg [⟨some 10, .mv, [.t 6], none⟩,
   ⟨some 7, .mv, [.c (.p (.v (.int .i64 0)))], none⟩,
   ⟨some 8, .mv, [.t 10], none⟩])
  (.seq (.block 0
  (.loop
  (.seq (.seq (.reg [⟨some 11, .mv, [.t 8], none⟩,
   ⟨some 12, .mv, [.t 1], none⟩,
   ⟨some 13, .bin .leq, [.t 11, .t 12], none⟩])
  (.cond (.t 13)
  .skip
  (.exit 0)))
  (.block 1
  (.seq (.reg [⟨some 14, .mv, [.t 0], none⟩,
   ⟨some 15, .mv, [.t 7], none⟩,
   ⟨some 16, .mv, [.t 8], none⟩,
   ⟨some 17, .mv, [.t 2], none⟩,
   ⟨some 18, .callu 24, [.t 14, .t 15, .t 16, .t 17], none⟩])
  (.seq (.reg [⟨some 19, .mv, [.t 8], none⟩,
   ⟨some 7, .mv, [.t 19], none⟩])
  (.reg [⟨some 20, .mv, [.t 8], none⟩,
   ⟨some 21, .mv, [.t 6], none⟩,
   ⟨some 22, .bin .add, [.t 20, .t 21], none⟩,
   ⟨some 8, .mv, [.t 22], none⟩])))))))
  (.seq (.reg [⟨some 23, .mv, [.t 0], none⟩,
   ⟨some 24, .mv, [.t 7], none⟩,
   ⟨some 25, .mv, [.t 1], none⟩,
   ⟨some 26, .mv, [.t 2], none⟩,
   ⟨some 27, .callu 24, [.t 23, .t 24, .t 25, .t 26], none⟩])
  (.block 2
  (.loop
  (.seq (.seq (.reg [⟨some 28, .mv, [.t 6], none⟩,
   ⟨some 29, .mv, [.t 1], none⟩,
   ⟨some 30, .bin .lss, [.t 28, .t 29], none⟩])
  (.cond (.t 30)
  .skip
  (.exit 2)))
  (.block 3
  (.seq (.reg [⟨some 31, .mv, [.t 6], none⟩,
   ⟨some 32, .bin .mul, [.c (.p (.v (.int .i64 2))), .t 31], none⟩,
   ⟨some 7, .mv, [.c (.p (.v (.int .i64 0)))], none⟩,
   ⟨some 8, .mv, [.t 32], none⟩])
  (.seq (.block 4
  (.loop
  (.seq (.seq (.reg [⟨some 33, .mv, [.t 8], none⟩,
   ⟨some 34, .mv, [.t 1], none⟩,
   ⟨some 35, .bin .leq, [.t 33, .t 34], none⟩])
  (.cond (.t 35)
  .skip
  (.exit 4)))
  (.block 5
  (.seq (.reg [⟨some 36, .mv, [.t 0], none⟩,
   ⟨some 37, .mv, [.t 7], none⟩,
   ⟨some 38, .mv, [.t 7], none⟩,
   ⟨some 39, .mv, [.t 6], none⟩,
   ⟨some 40, .bin .add, [.t 38, .t 39], none⟩,
   ⟨some 41, .mv, [.t 8], none⟩,
   ⟨some 42, .mv, [.t 2], none⟩,
   ⟨some 43, .callu 25, [.t 36, .t 37, .t 40, .t 41, .t 42], none⟩])
  (.seq (.reg [⟨some 44, .mv, [.t 8], none⟩,
   ⟨some 7, .mv, [.t 44], none⟩])
  (.reg [⟨some 45, .mv, [.t 8], none⟩,
   ⟨some 46, .mv, [.t 6], none⟩,
   ⟨some 47, .bin .mul, [.c (.p (.v (.int .i64 2))), .t 46], none⟩,
   ⟨some 48, .bin .add, [.t 45, .t 47], none⟩,
   ⟨some 8, .mv, [.t 48], none⟩])))))))
  (.seq (.seq (.reg [⟨some 49, .mv, [.t 7], none⟩,
   ⟨some 50, .mv, [.t 6], none⟩,
   ⟨some 51, .bin .add, [.t 49, .t 50], none⟩,
   ⟨some 9, .mv, [.t 51], none⟩])
  (.seq (.reg [⟨some 52, .mv, [.t 9], none⟩,
   ⟨some 53, .mv, [.t 1], none⟩,
   ⟨some 54, .bin .lss, [.t 52, .t 53], none⟩])
  (.cond (.t 54)
  (.reg [⟨some 55, .mv, [.t 0], none⟩,
     ⟨some 56, .mv, [.t 7], none⟩,
     ⟨some 57, .mv, [.t 9], none⟩,
     ⟨some 58, .mv, [.t 1], none⟩,
     ⟨some 59, .mv, [.t 2], none⟩,
     ⟨some 60, .callu 25, [.t 55, .t 56, .t 57, .t 58, .t 59], none⟩])
  .skip)))
  (.reg [⟨some 61, .mv, [.t 6], none⟩,
   ⟨some 62, .bin .mul, [.t 61, .c (.p (.v (.int .i64 2)))], none⟩,
   ⟨some 6, .mv, [.t 62], none⟩]))))))))))))
theorem lent23 {ps : List PV} {ty es : Nat} {xs zs : List (List PV)} (hn : Nat.ble (ps.length + 1) 63 = true) (hzl : zs.length = xs.length) (hx : xs ≠ []) (hlv : ∀ p ∈ zs.flatten, ∃ x, p = .v x) (h : Run Try.prog (fun e s' => (∀ id, e ≠ .exit id) ∧ ∃ fz, s'.o LN = some (.row ty es zs fz)) [] c23 (S ((0, .row LN xs.length) :: initL 1 ps) [(LN, some (.row ty es xs false))])) : RetU Try.prog 23 ty es xs ps zs :=
  retU_run Try.func23 rfl (by kernel_rfl) rfl rfl (by kernel_rfl) (by kernel_rfl) (by kernel_rfl) (Nat.le_of_ble_eq_true hn) hzl hx hlv h

/-- slices.insertionSortCmpFunc[stevedore/api.Unit] -/
def c24 : C :=
  (.seq (.reg [⟨some 10, .mv, [.t 1], none⟩,
   ⟨some 11, .bin .add, [.t 10, .c (.p (.v (.int .i64 1)))], none⟩,
   ⟨some 8, .mv, [.t 11], none⟩])
  (.block 0
  (.loop
  (.seq (.seq (.reg [⟨some 12, .mv, [.t 8], none⟩,
   ⟨some 13, .mv, [.t 2], none⟩,
   ⟨some 14, .bin .lss, [.t 12, .t 13], none⟩])
  (.cond (.t 14)
  .skip
  (.exit 0)))
  (.seq (.block 1
  (.seq (.reg [⟨some 17, .mv, [.t 8], none⟩,
   ⟨some 9, .mv, [.t 17], none⟩])
  (.block 2
  (.loop
  (.seq (.seq (.regd [⟨some 18, .mv, [.t 9], none⟩,
   ⟨some 19, .mv, [.t 1], none⟩,
   ⟨some 20, .bin .gtr, [.t 18, .t 19], none⟩,
   ⟨some 21, .mv, [.t 20], none⟩,
   ⟨some 22, .mv, [.t 3], some (21, true)⟩,
   ⟨some 23, .mv, [.t 0], some (21, true)⟩,
   ⟨some 24, .mv, [.t 9], some (21, true)⟩,
   ⟨some 25, .iad 2, [.t 23, .t 24], some (21, true)⟩,
   ⟨some 26, .load 2 true, [.t 25], some (21, true)⟩,
   ⟨some 27, .mv, [.t 0], some (21, true)⟩,
   ⟨some 28, .mv, [.t 9], some (21, true)⟩,
   ⟨some 29, .bin .sub, [.t 28, .c (.p (.v (.int .i64 1)))], some (21, true)⟩,
   ⟨some 30, .iad 2, [.t 27, .t 29], some (21, true)⟩,
   ⟨some 31, .load 2 true, [.t 30], some (21, true)⟩,
   ⟨some 32, .callv, [.t 22, .t 26, .t 31], some (21, true)⟩,
   ⟨some 33, .bin .lss, [.t 32, .c (.p (.v (.int .i64 0)))], some (21, true)⟩,
   ⟨some 34, .pick, [.t 21, .t 33, .c (.p (.v (.bool false)))], none⟩])
  (.cond (.t 34)
  .skip
  (.exit 2)))
  (.seq (.block 3
  (.regd [⟨some 37, .mv, [.t 0], none⟩,
   ⟨some 38, .mv, [.t 9], none⟩,
   ⟨some 39, .mv, [.t 0], none⟩,
   ⟨some 40, .mv, [.t 9], none⟩,
   ⟨some 41, .bin .sub, [.t 40, .c (.p (.v (.int .i64 1)))], none⟩,
   ⟨some 42, .mv, [.t 0], none⟩,
   ⟨some 43, .mv, [.t 9], none⟩,
   ⟨some 44, .bin .sub, [.t 43, .c (.p (.v (.int .i64 1)))], none⟩,
   ⟨some 45, .iad 2, [.t 42, .t 44], none⟩,
   ⟨some 46, .load 2 true, [.t 45], none⟩,
   ⟨some 47, .mv, [.t 0], none⟩,
   ⟨some 48, .mv, [.t 9], none⟩,
   ⟨some 49, .iad 2, [.t 47, .t 48], none⟩,
   ⟨some 50, .load 2 true, [.t 49], none⟩,
   ⟨some 51, .iad 2, [.t 37, .t 38], none⟩,
   ⟨none, .store 2, [.t 51, .t 46], none⟩,
   ⟨some 52, .iad 2, [.t 39, .t 41], none⟩,
   ⟨none, .store 2, [.t 52, .t 50], none⟩]))
  (.reg [⟨some 35, .mv, [.t 9], none⟩,
   ⟨some 36, .bin .sub, [.t 35, .c (.p (.v (.int .i64 1)))], none⟩,
   ⟨some 9, .mv, [.t 36], none⟩])))))))
  (.reg [⟨some 15, .mv, [.t 8], none⟩,
   ⟨some 16, .bin .add, [.t 15, .c (.p (.v (.int .i64 1)))], none⟩,
   ⟨some 8, .mv, [.t 16], none⟩]))))))
theorem lent24 {ps : List PV} {ty es : Nat} {xs zs : List (List PV)} (hn : Nat.ble (ps.length + 1) 53 = true) (hzl : zs.length = xs.length) (hx : xs ≠ []) (hlv : ∀ p ∈ zs.flatten, ∃ x, p = .v x) (h : Run Try.prog (fun e s' => (∀ id, e ≠ .exit id) ∧ ∃ fz, s'.o LN = some (.row ty es zs fz)) [] c24 (S ((0, .row LN xs.length) :: initL 1 ps) [(LN, some (.row ty es xs false))])) : RetU Try.prog 24 ty es xs ps zs :=
  retU_run Try.func24 rfl (by kernel_rfl) rfl rfl (by kernel_rfl) (by kernel_rfl) (by kernel_rfl) (Nat.le_of_ble_eq_true hn) hzl hx hlv h

/-- stevedore/units.Split -/
def c11 : C :=
  (.seq (.reg [⟨some 2, .box, [.t 0], none⟩,
   ⟨some 4, .mv, [.c .nil], none⟩])
  (.seq (.reg [⟨some 9, .load 14 true, [.t 2], none⟩,
   ⟨some 10, .calln 14, [.t 9], none⟩,
   ⟨some 5, .mv, [.t 10], none⟩])
  (.seq (.reg [⟨some 11, .mv, [.t 5], none⟩,
   ⟨some 12, .callu 18, [.t 11, .c (.p (.clo 19 []))], none⟩])
  (.seq (.reg [⟨some 6, .mv, [.c .nil], none⟩])
  (.seq (.seq (.reg [⟨some 13, .mv, [.t 5], none⟩,
   ⟨some 14, .len 0, [.t 13], none⟩,
   ⟨some 15, .mv, [.c (.p (.v (.int .i64 0)))], none⟩])
  (.block 0
  (.loop
  (.seq (.reg [⟨some 16, .bin .lss, [.t 15, .t 14], none⟩])
  (.seq (.cond (.t 16)
  .skip
  (.exit 0))
  (.seq (.block 1
  (.seq (.reg [⟨some 17, .iad 2, [.t 13, .t 15], none⟩,
   ⟨some 18, .load 2 true, [.t 17], none⟩,
   ⟨some 8, .alloc [.v (.string ⟨#[]⟩), .v (.int .i64 0)], [], none⟩,
   ⟨none, .store 2, [.t 8, .t 18], none⟩])
  (.seq (.reg [⟨some 19, .mv, [.t 1], none⟩,
   ⟨some 20, .fad 1, [.t 8], none⟩,
   ⟨some 21, .load 1 false, [.t 20], none⟩,
   ⟨some 22, .bin .geq, [.t 19, .t 21], none⟩])
  (.cond (.t 22)
  (.seq (.regd [⟨some 23, .mv, [.t 6], none⟩,
     ⟨some 24, .fad 0, [.t 8], none⟩,
     ⟨some 25, .load 1 false, [.t 24], none⟩,
     ⟨some 26, .mv, [.t 1], none⟩,
     ⟨some 27, .fad 1, [.t 8], none⟩,
     ⟨some 28, .load 1 false, [.t 27], none⟩,
     ⟨some 29, .bin .quo, [.t 26, .t 28], none⟩,
     ⟨some 30, .build [.v (.string ⟨#[]⟩), .v (.int .i64 0)] [(0, 1), (1, 1)], [.t 25, .t 29], none⟩,
     ⟨some 31, .bsl 36 2 1 [.v (.string ⟨#[]⟩), .v (.int .i64 0)] [0], [.t 30], none⟩,
     ⟨some 32, .app 36 2 24, [.t 23, .t 31], none⟩,
     ⟨some 6, .mv, [.t 32], none⟩])
    (.reg [⟨some 33, .mv, [.t 1], none⟩,
     ⟨some 34, .fad 1, [.t 8], none⟩,
     ⟨some 35, .load 1 false, [.t 34], none⟩,
     ⟨some 36, .bin .rem, [.t 33, .t 35], none⟩,
     ⟨some 1, .mv, [.t 36], none⟩]))
  .skip))))
  (.reg [⟨some 37, .bin .add, [.t 15, .c (.p (.v (.int .i64 1)))], none⟩,
   ⟨some 15, .mv, [.t 37], none⟩])))))))
  (.seq (.reg [⟨some 38, .mv, [.t 6], none⟩,
   ⟨some 4, .mv, [.t 38], none⟩])
  .ret))))))
theorem ret11 {ps : List PV} {p : PV} (hn : Nat.ble ps.length 39 = true) (h : (∀ q ∈ ps, q.bd) → Run Try.prog (fun e s' => (∀ id, e ≠ .exit id) ∧ ∃ ns, s'.out [.t 4] = some (p, ns)) [] c11 (S (initL 0 ps) [])) : Ret Try.prog 11 ps p :=
  ret_run Try.func11 rfl (by kernel_rfl) rfl (by kernel_rfl) (by kernel_rfl) (by kernel_rfl) (by kernel_rfl) (Nat.le_of_ble_eq_true hn) h

theorem row11 {ps : List PV} {ty es : Nat} {zs : List (List PV)} (hn : Nat.ble ps.length 39 = true) (h : (∀ q ∈ ps, q.bd) → Run Try.prog (fun e s' => (∀ id, e ≠ .exit id) ∧ ((s'.t 4 = .nil ∧ zs = []) ∨ ∃ n, s'.t 4 = .row n zs.length ∧ s'.o n = some (.row ty es zs false))) [] c11 (S (initL 0 ps) [])) : RetN Try.prog 11 ps ty es zs :=
  retN_run Try.func11 rfl (by kernel_rfl) rfl rfl (by decide) (by kernel_rfl) (by kernel_rfl) (by kernel_rfl) (Nat.le_of_ble_eq_true hn) h

end Go.Fw
