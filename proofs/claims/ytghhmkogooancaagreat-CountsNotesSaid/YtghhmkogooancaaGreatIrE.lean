/-
  The code of some functions, for the abstract machine. Printed by a program (wip/tools/mkir.py).
-/
import Derived.Test.YtghhmkogooancaaGreatFwU
import Derived.Test.YtghhmkogooancaaGreatProg
import Derived.KernelRfl
set_option linter.unusedVariables false
set_option maxRecDepth 100000
namespace Go.Fw
open Go.Proofs

/-- (stevedore/room.amount).plus -/
def c115 : C :=
  (.seq (.reg [⟨some 3, .box, [.t 0], none⟩,
  ⟨some 4, .box, [.t 1], none⟩,
  ⟨some 6, .alloc [.v (.int .i64 0), .v (.int .i64 0)], [], none⟩])
 (.seq (.reg [⟨some 7, .fad 0, [.t 3], none⟩,
  ⟨some 8, .load 1 false, [.t 7], none⟩,
  ⟨some 9, .mv, [.t 2], none⟩,
  ⟨some 10, .fad 9, [.t 4], none⟩,
  ⟨some 11, .load 1 false, [.t 10], none⟩,
  ⟨some 12, .bin .mul, [.t 9, .t 11], none⟩,
  ⟨some 13, .bin .add, [.t 8, .t 12], none⟩,
  ⟨some 14, .fad 1, [.t 3], none⟩,
  ⟨some 15, .load 1 false, [.t 14], none⟩,
  ⟨some 16, .mv, [.t 2], none⟩,
  ⟨some 17, .fad 10, [.t 4], none⟩,
  ⟨some 18, .load 1 false, [.t 17], none⟩,
  ⟨some 19, .bin .mul, [.t 16, .t 18], none⟩,
  ⟨some 20, .bin .add, [.t 15, .t 19], none⟩,
  ⟨some 21, .build [.v (.int .i64 0), .v (.int .i64 0)] [(0, 1), (1, 1)], [.t 13, .t 20], none⟩,
  ⟨none, .store 2, [.t 6, .t 21], none⟩])
 .ret))
theorem ret115 {ps : List PV} {p : PV} (hn : Nat.ble ps.length 22 = true) (h : (∀ q ∈ ps, q.bd) → Run Tryz.prog (fun e s' => (∀ id, e ≠ .exit id) ∧ ∃ ns, s'.out [.c 6 2 true] = some (p, ns)) [] c115 (S (initL 0 ps) [])) : Ret Tryz.prog 115 ps p :=
  ret_run Tryz.func115 rfl (by kernel_rfl) rfl (by kernel_rfl) (by kernel_rfl) (by kernel_rfl) (by kernel_rfl) (Nat.le_of_ble_eq_true hn) h

/-- stevedore/room.load -/
def c84 : C :=
  (.seq (.reg [⟨some 2, .box, [.t 0], none⟩,
  ⟨some 4, .alloc [.v (.int .i64 0), .v (.int .i64 0)], [], none⟩])
 (.seq (.reg [⟨some 5, .alloc [.v (.int .i64 0), .v (.int .i64 0)], [], none⟩])
 (.seq (.seq (.reg [⟨some 10, .fad 4, [.t 2], none⟩,
  ⟨some 11, .load 1 false, [.t 10], none⟩,
  ⟨some 12, .len 0, [.t 11], none⟩,
  ⟨some 13, .mv, [.c (.p (.v (.int .i64 0)))], none⟩])
 (.block 0
 (.loop
 (.seq (.reg [⟨some 14, .bin .lss, [.t 13, .t 12], none⟩])
 (.seq (.cond (.t 14)
 .skip
 (.exit 0))
 (.seq (.block 1
 (.seq (.reg [⟨some 15, .iad 6, [.t 11, .t 13], none⟩,
  ⟨some 16, .load 6 true, [.t 15], none⟩,
  ⟨some 7, .alloc [.v (.string ⟨#[]⟩), .v (.string ⟨#[]⟩), .v (.string ⟨#[]⟩), .v (.int .i64 0), .v (.int .i64 0), .v (.int .i64 0)], [], none⟩,
  ⟨none, .store 6, [.t 7, .t 16], none⟩])
 (.seq (.seq (.reg [⟨some 17, .fad 0, [.t 7], none⟩,
  ⟨some 18, .fad 0, [.t 17], none⟩,
  ⟨some 19, .load 1 false, [.t 18], none⟩,
  ⟨some 20, .mv, [.t 1], none⟩,
  ⟨some 21, .bin .neq, [.t 19, .t 20], none⟩])
 (.cond (.t 21)
 (.exit 1)
 .skip))
 (.seq (.reg [⟨some 23, .load 15 true, [.t 2], none⟩,
  ⟨some 24, .fad 0, [.t 7], none⟩,
  ⟨some 25, .fad 1, [.t 24], none⟩,
  ⟨some 26, .load 1 false, [.t 25], none⟩,
  ⟨some 27, .call 73, [.t 23, .t 26], none⟩,
  ⟨some 22, .mv, [.t 27], none⟩,
  ⟨some 28, .ext 0, [.t 22], none⟩,
  ⟨some 29, .ext 1, [.t 22], none⟩,
  ⟨some 8, .alloc [.v (.string ⟨#[]⟩), .v (.string ⟨#[]⟩), .v (.int .i64 0), .v (.string ⟨#[]⟩), .v (.int .i64 0), .v (.string ⟨#[]⟩), .v (.int .i64 0), .v (.string ⟨#[]⟩), .v (.int .i64 0), .v (.int .i64 0), .v (.int .i64 0), .v (.bool false), .v (.bool false), .v (.bool false)], [], none⟩,
  ⟨none, .store 14, [.t 8, .t 28], none⟩,
  ⟨some 9, .mv, [.t 29], none⟩])
 (.seq (.reg [⟨some 30, .mv, [.t 9], none⟩])
 (.cond (.t 30)
 (.reg [⟨some 31, .load 2 true, [.t 5], none⟩,
  ⟨some 32, .load 14 true, [.t 8], none⟩,
  ⟨some 33, .fad 4, [.t 7], none⟩,
  ⟨some 34, .load 1 false, [.t 33], none⟩,
  ⟨some 35, .call 115, [.t 31, .t 32, .t 34], none⟩,
  ⟨none, .store 2, [.t 5, .t 35], none⟩])
 .skip))))))
 (.reg [⟨some 36, .bin .add, [.t 13, .c (.p (.v (.int .i64 1)))], none⟩,
  ⟨some 13, .mv, [.t 36], none⟩])))))))
 (.seq (.reg [⟨some 37, .load 2 true, [.t 5], none⟩,
  ⟨none, .store 2, [.t 4, .t 37], none⟩])
 .ret))))
theorem ret84 {ps : List PV} {p : PV} (hn : Nat.ble ps.length 38 = true) (h : (∀ q ∈ ps, q.bd) → Run Tryz.prog (fun e s' => (∀ id, e ≠ .exit id) ∧ ∃ ns, s'.out [.c 4 2 true] = some (p, ns)) [] c84 (S (initL 0 ps) [])) : Ret Tryz.prog 84 ps p :=
  ret_run Tryz.func84 rfl (by kernel_rfl) rfl (by kernel_rfl) (by kernel_rfl) (by kernel_rfl) (by kernel_rfl) (Nat.le_of_ble_eq_true hn) h

/-- stevedore/room.Load -/
def c24 : C :=
  (.seq (.reg [⟨some 2, .box, [.t 0], none⟩,
  ⟨some 4, .mv, [.c (.p (.v (.int .i64 0)))], none⟩,
  ⟨some 5, .mv, [.c (.p (.v (.int .i64 0)))], none⟩])
 (.seq (.reg [⟨some 7, .load 15 true, [.t 2], none⟩,
  ⟨some 8, .mv, [.t 1], none⟩,
  ⟨some 9, .call 84, [.t 7, .t 8], none⟩,
  ⟨some 6, .alloc [.v (.int .i64 0), .v (.int .i64 0)], [], none⟩,
  ⟨none, .store 2, [.t 6, .t 9], none⟩])
 (.seq (.regd [⟨some 10, .fad 0, [.t 6], none⟩,
  ⟨some 11, .load 1 false, [.t 10], none⟩,
  ⟨some 12, .fad 1, [.t 6], none⟩,
  ⟨some 13, .load 1 false, [.t 12], none⟩,
  ⟨some 4, .mv, [.t 11], none⟩,
  ⟨some 5, .mv, [.t 13], none⟩])
 .ret)))
theorem ret24 {ps : List PV} {p : PV} (hn : Nat.ble ps.length 14 = true) (h : (∀ q ∈ ps, q.bd) → Run Tryz.prog (fun e s' => (∀ id, e ≠ .exit id) ∧ ∃ ns, s'.out [.t 4, .t 5] = some (p, ns)) [] c24 (S (initL 0 ps) [])) : Ret Tryz.prog 24 ps p :=
  ret_run Tryz.func24 rfl (by kernel_rfl) rfl (by kernel_rfl) (by kernel_rfl) (by kernel_rfl) (by kernel_rfl) (Nat.le_of_ble_eq_true hn) h

/-- stevedore/stevedoreref11.Load -/
def c114 : C :=
  (.seq (.reg [⟨some 2, .box, [.t 0], none⟩,
  ⟨some 4, .mv, [.c (.p (.v (.int .i64 0)))], none⟩,
  ⟨some 5, .mv, [.c (.p (.v (.int .i64 0)))], none⟩])
 (.seq (.reg [⟨some 6, .mv, [.c (.p (.v (.int .i64 0)))], none⟩])
 (.seq (.reg [⟨some 7, .mv, [.c (.p (.v (.int .i64 0)))], none⟩])
 (.seq (.seq (.reg [⟨some 8, .mv, [.c (.p (.v (.int .i64 0)))], none⟩])
 (.block 0
 (.loop
 (.seq (.seq (.reg [⟨some 12, .mv, [.t 8], none⟩,
  ⟨some 13, .fad 4, [.t 2], none⟩,
  ⟨some 14, .load 1 false, [.t 13], none⟩,
  ⟨some 15, .len 0, [.t 14], none⟩,
  ⟨some 16, .bin .lss, [.t 12, .t 15], none⟩])
 (.cond (.t 16)
 .skip
 (.exit 0)))
 (.seq (.block 1
 (.seq (.reg [⟨some 19, .fad 4, [.t 2], none⟩,
  ⟨some 20, .load 1 false, [.t 19], none⟩,
  ⟨some 21, .mv, [.t 8], none⟩,
  ⟨some 22, .iad 6, [.t 20, .t 21], none⟩,
  ⟨some 23, .load 6 true, [.t 22], none⟩,
  ⟨some 9, .alloc [.v (.string ⟨#[]⟩), .v (.string ⟨#[]⟩), .v (.string ⟨#[]⟩), .v (.int .i64 0), .v (.int .i64 0), .v (.int .i64 0)], [], none⟩,
  ⟨none, .store 6, [.t 9, .t 23], none⟩])
 (.seq (.reg [⟨some 25, .load 15 true, [.t 2], none⟩,
  ⟨some 26, .fad 0, [.t 9], none⟩,
  ⟨some 27, .fad 1, [.t 26], none⟩,
  ⟨some 28, .load 1 false, [.t 27], none⟩,
  ⟨some 29, .call 65, [.t 25, .t 28], none⟩,
  ⟨some 24, .mv, [.t 29], none⟩,
  ⟨some 30, .ext 0, [.t 24], none⟩,
  ⟨some 31, .ext 1, [.t 24], none⟩,
  ⟨some 10, .alloc [.v (.string ⟨#[]⟩), .v (.string ⟨#[]⟩), .v (.int .i64 0), .v (.string ⟨#[]⟩), .v (.int .i64 0), .v (.string ⟨#[]⟩), .v (.int .i64 0), .v (.string ⟨#[]⟩), .v (.int .i64 0), .v (.int .i64 0), .v (.int .i64 0), .v (.bool false), .v (.bool false), .v (.bool false)], [], none⟩,
  ⟨none, .store 14, [.t 10, .t 30], none⟩,
  ⟨some 11, .mv, [.t 31], none⟩])
 (.seq (.reg [⟨some 32, .fad 0, [.t 9], none⟩,
  ⟨some 33, .fad 0, [.t 32], none⟩,
  ⟨some 34, .load 1 false, [.t 33], none⟩,
  ⟨some 35, .mv, [.t 1], none⟩,
  ⟨some 36, .bin .eql, [.t 34, .t 35], none⟩,
  ⟨some 37, .mv, [.t 36], none⟩,
  ⟨some 38, .mv, [.t 11], some (37, true)⟩,
  ⟨some 39, .pick, [.t 37, .t 38, .c (.p (.v (.bool false)))], none⟩])
 (.cond (.t 39)
 (.seq (.reg [⟨some 40, .mv, [.t 6], none⟩,
  ⟨some 41, .fad 4, [.t 9], none⟩,
  ⟨some 42, .load 1 false, [.t 41], none⟩,
  ⟨some 43, .fad 9, [.t 10], none⟩,
  ⟨some 44, .load 1 false, [.t 43], none⟩,
  ⟨some 45, .bin .mul, [.t 42, .t 44], none⟩,
  ⟨some 46, .bin .add, [.t 40, .t 45], none⟩,
  ⟨some 6, .mv, [.t 46], none⟩])
 (.reg [⟨some 47, .mv, [.t 7], none⟩,
  ⟨some 48, .fad 4, [.t 9], none⟩,
  ⟨some 49, .load 1 false, [.t 48], none⟩,
  ⟨some 50, .fad 10, [.t 10], none⟩,
  ⟨some 51, .load 1 false, [.t 50], none⟩,
  ⟨some 52, .bin .mul, [.t 49, .t 51], none⟩,
  ⟨some 53, .bin .add, [.t 47, .t 52], none⟩,
  ⟨some 7, .mv, [.t 53], none⟩]))
 .skip)))))
 (.reg [⟨some 17, .mv, [.t 8], none⟩,
  ⟨some 18, .bin .add, [.t 17, .c (.p (.v (.int .i64 1)))], none⟩,
  ⟨some 8, .mv, [.t 18], none⟩]))))))
 (.seq (.reg [⟨some 54, .mv, [.t 6], none⟩,
  ⟨some 55, .mv, [.t 7], none⟩,
  ⟨some 4, .mv, [.t 54], none⟩,
  ⟨some 5, .mv, [.t 55], none⟩])
 .ret)))))
theorem ret114 {ps : List PV} {p : PV} (hn : Nat.ble ps.length 56 = true) (h : (∀ q ∈ ps, q.bd) → Run Tryz.prog (fun e s' => (∀ id, e ≠ .exit id) ∧ ∃ ns, s'.out [.t 4, .t 5] = some (p, ns)) [] c114 (S (initL 0 ps) [])) : Ret Tryz.prog 114 ps p :=
  ret_run Tryz.func114 rfl (by kernel_rfl) rfl (by kernel_rfl) (by kernel_rfl) (by kernel_rfl) (by kernel_rfl) (Nat.le_of_ble_eq_true hn) h

/-- stevedore/stevedoreref11.Full -/
def c83 : C :=
  (.seq (.reg [⟨some 2, .box, [.t 0], none⟩,
  ⟨some 3, .box, [.t 1], none⟩,
  ⟨some 4, .mv, [.c (.p (.v (.bool false)))], none⟩])
 (.seq (.reg [⟨some 8, .load 15 true, [.t 2], none⟩,
  ⟨some 9, .fad 0, [.t 3], none⟩,
  ⟨some 10, .load 1 false, [.t 9], none⟩,
  ⟨some 11, .call 114, [.t 8, .t 10], none⟩,
  ⟨some 7, .mv, [.t 11], none⟩,
  ⟨some 12, .ext 0, [.t 7], none⟩,
  ⟨some 13, .ext 1, [.t 7], none⟩,
  ⟨some 5, .mv, [.t 12], none⟩,
  ⟨some 6, .mv, [.t 13], none⟩])
 (.seq (.reg [⟨some 14, .mv, [.t 5], none⟩,
  ⟨some 15, .fad 5, [.t 3], none⟩,
  ⟨some 16, .load 1 false, [.t 15], none⟩,
  ⟨some 17, .bin .gtr, [.t 14, .t 16], none⟩,
  ⟨some 18, .mv, [.t 17], none⟩,
  ⟨some 19, .mv, [.t 6], some (18, false)⟩,
  ⟨some 20, .fad 6, [.t 3], some (18, false)⟩,
  ⟨some 21, .load 1 false, [.t 20], some (18, false)⟩,
  ⟨some 22, .bin .gtr, [.t 19, .t 21], some (18, false)⟩,
  ⟨some 23, .pick, [.t 18, .c (.p (.v (.bool true))), .t 22], none⟩,
  ⟨some 4, .mv, [.t 23], none⟩])
 .ret)))
theorem ret83 {ps : List PV} {p : PV} (hn : Nat.ble ps.length 24 = true) (h : (∀ q ∈ ps, q.bd) → Run Tryz.prog (fun e s' => (∀ id, e ≠ .exit id) ∧ ∃ ns, s'.out [.t 4] = some (p, ns)) [] c83 (S (initL 0 ps) [])) : Ret Tryz.prog 83 ps p :=
  ret_run Tryz.func83 rfl (by kernel_rfl) rfl (by kernel_rfl) (by kernel_rfl) (by kernel_rfl) (by kernel_rfl) (Nat.le_of_ble_eq_true hn) h

/-- stevedore/stock.Total -/
def c74 : C :=
  (.seq (.reg [⟨some 3, .box, [.t 0], none⟩,
  ⟨some 6, .mv, [.c (.p (.v (.int .i64 0)))], none⟩])
 (.seq (.reg [⟨some 7, .mv, [.c (.p (.v (.int .i64 0)))], none⟩])
 (.seq (.seq (.reg [⟨some 10, .fad 4, [.t 3], none⟩,
  ⟨some 11, .load 1 false, [.t 10], none⟩,
  ⟨some 12, .len 0, [.t 11], none⟩,
  ⟨some 13, .mv, [.c (.p (.v (.int .i64 0)))], none⟩])
 (.block 0
 (.loop
 (.seq (.reg [⟨some 14, .bin .lss, [.t 13, .t 12], none⟩])
 (.seq (.cond (.t 14)
 .skip
 (.exit 0))
 (.seq (.block 1
 (.seq (.reg [⟨some 15, .iad 6, [.t 11, .t 13], none⟩,
  ⟨some 16, .load 6 true, [.t 15], none⟩,
  ⟨some 9, .alloc [.v (.string ⟨#[]⟩), .v (.string ⟨#[]⟩), .v (.string ⟨#[]⟩), .v (.int .i64 0), .v (.int .i64 0), .v (.int .i64 0)], [], none⟩,
  ⟨none, .store 6, [.t 9, .t 16], none⟩])
 (.seq (.reg [⟨some 17, .fad 0, [.t 9], none⟩,
  ⟨some 18, .fad 1, [.t 17], none⟩,
  ⟨some 19, .load 1 false, [.t 18], none⟩,
  ⟨some 20, .mv, [.t 1], none⟩,
  ⟨some 21, .bin .eql, [.t 19, .t 20], none⟩,
  ⟨some 22, .mv, [.t 21], none⟩,
  ⟨some 23, .fad 0, [.t 9], some (22, true)⟩,
  ⟨some 24, .fad 2, [.t 23], some (22, true)⟩,
  ⟨some 25, .load 1 false, [.t 24], some (22, true)⟩,
  ⟨some 26, .mv, [.t 2], some (22, true)⟩,
  ⟨some 27, .bin .eql, [.t 25, .t 26], some (22, true)⟩,
  ⟨some 28, .pick, [.t 22, .t 27, .c (.p (.v (.bool false)))], none⟩])
 (.cond (.t 28)
 (.reg [⟨some 29, .mv, [.t 7], none⟩,
  ⟨some 30, .fad 4, [.t 9], none⟩,
  ⟨some 31, .load 1 false, [.t 30], none⟩,
  ⟨some 32, .bin .add, [.t 29, .t 31], none⟩,
  ⟨some 7, .mv, [.t 32], none⟩])
 .skip))))
 (.reg [⟨some 33, .bin .add, [.t 13, .c (.p (.v (.int .i64 1)))], none⟩,
  ⟨some 13, .mv, [.t 33], none⟩])))))))
 (.seq (.reg [⟨some 34, .mv, [.t 7], none⟩,
  ⟨some 6, .mv, [.t 34], none⟩])
 .ret))))
theorem ret74 {ps : List PV} {p : PV} (hn : Nat.ble ps.length 35 = true) (h : (∀ q ∈ ps, q.bd) → Run Tryz.prog (fun e s' => (∀ id, e ≠ .exit id) ∧ ∃ ns, s'.out [.t 6] = some (p, ns)) [] c74 (S (initL 0 ps) [])) : Ret Tryz.prog 74 ps p :=
  ret_run Tryz.func74 rfl (by kernel_rfl) rfl (by kernel_rfl) (by kernel_rfl) (by kernel_rfl) (by kernel_rfl) (Nat.le_of_ble_eq_true hn) h

/-- stevedore/stevedoreref12.Total -/
def c82 : C :=
  (.seq (.reg [⟨some 3, .box, [.t 0], none⟩,
  ⟨some 6, .mv, [.c (.p (.v (.int .i64 0)))], none⟩])
 (.seq (.reg [⟨some 7, .mv, [.c (.p (.v (.int .i64 0)))], none⟩])
 (.seq (.seq (.reg [⟨some 8, .mv, [.c (.p (.v (.int .i64 0)))], none⟩])
 (.block 0
 (.loop
 (.seq (.seq (.reg [⟨some 9, .mv, [.t 8], none⟩,
  ⟨some 10, .fad 4, [.t 3], none⟩,
  ⟨some 11, .load 1 false, [.t 10], none⟩,
  ⟨some 12, .len 0, [.t 11], none⟩,
  ⟨some 13, .bin .lss, [.t 9, .t 12], none⟩])
 (.cond (.t 13)
 .skip
 (.exit 0)))
 (.seq (.block 1
 (.seq (.reg [⟨some 16, .fad 4, [.t 3], none⟩,
  ⟨some 17, .load 1 false, [.t 16], none⟩,
  ⟨some 18, .mv, [.t 8], none⟩,
  ⟨some 19, .iad 6, [.t 17, .t 18], none⟩,
  ⟨some 20, .fad 0, [.t 19], none⟩,
  ⟨some 21, .fad 1, [.t 20], none⟩,
  ⟨some 22, .load 1 false, [.t 21], none⟩,
  ⟨some 23, .mv, [.t 1], none⟩,
  ⟨some 24, .bin .eql, [.t 22, .t 23], none⟩,
  ⟨some 25, .mv, [.t 24], none⟩,
  ⟨some 26, .fad 4, [.t 3], some (25, true)⟩,
  ⟨some 27, .load 1 false, [.t 26], some (25, true)⟩,
  ⟨some 28, .mv, [.t 8], some (25, true)⟩,
  ⟨some 29, .iad 6, [.t 27, .t 28], some (25, true)⟩,
  ⟨some 30, .fad 0, [.t 29], some (25, true)⟩,
  ⟨some 31, .fad 2, [.t 30], some (25, true)⟩,
  ⟨some 32, .load 1 false, [.t 31], some (25, true)⟩,
  ⟨some 33, .mv, [.t 2], some (25, true)⟩,
  ⟨some 34, .bin .eql, [.t 32, .t 33], some (25, true)⟩,
  ⟨some 35, .pick, [.t 25, .t 34, .c (.p (.v (.bool false)))], none⟩])
 (.cond (.t 35)
 (.reg [⟨some 36, .mv, [.t 7], none⟩,
  ⟨some 37, .fad 4, [.t 3], none⟩,
  ⟨some 38, .load 1 false, [.t 37], none⟩,
  ⟨some 39, .mv, [.t 8], none⟩,
  ⟨some 40, .iad 6, [.t 38, .t 39], none⟩,
  ⟨some 41, .fad 4, [.t 40], none⟩,
  ⟨some 42, .load 1 false, [.t 41], none⟩,
  ⟨some 43, .bin .add, [.t 36, .t 42], none⟩,
  ⟨some 7, .mv, [.t 43], none⟩])
 .skip)))
 (.reg [⟨some 14, .mv, [.t 8], none⟩,
  ⟨some 15, .bin .add, [.t 14, .c (.p (.v (.int .i64 1)))], none⟩,
  ⟨some 8, .mv, [.t 15], none⟩]))))))
 (.seq (.reg [⟨some 44, .mv, [.t 7], none⟩,
  ⟨some 6, .mv, [.t 44], none⟩])
 .ret))))
theorem ret82 {ps : List PV} {p : PV} (hn : Nat.ble ps.length 45 = true) (h : (∀ q ∈ ps, q.bd) → Run Tryz.prog (fun e s' => (∀ id, e ≠ .exit id) ∧ ∃ ns, s'.out [.t 6] = some (p, ns)) [] c82 (S (initL 0 ps) [])) : Ret Tryz.prog 82 ps p :=
  ret_run Tryz.func82 rfl (by kernel_rfl) rfl (by kernel_rfl) (by kernel_rfl) (by kernel_rfl) (by kernel_rfl) (Nat.le_of_ble_eq_true hn) h

end Go.Fw
