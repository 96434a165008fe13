/-
  The code of some functions, for the abstract machine. Printed by a program (wip/tools/mkir.py).
-/
import Derived.Test.YtdmackpiohkanaaFwU
import Derived.Test.YtdmackpiohkanaaProg
import Derived.KernelRfl
set_option linter.unusedVariables false
set_option maxRecDepth 100000
namespace Go.Fw
open Go.Proofs

/-- stevedore/room.load -/
def c115 : C :=
  (.seq (.reg [⟨some 2, .box, [.t 0], none⟩,
  ⟨some 4, .alloc [.v (.int .i64 0), .v (.int .i64 0)], [], none⟩])
 (.seq (.reg [⟨some 5, .alloc [.v (.int .i64 0), .v (.int .i64 0)], [], none⟩])
 (.seq (.seq (.reg [⟨some 10, .fad 4, [.t 2], none⟩,
  ⟨some 11, .load 1 false, [.t 10], none⟩,
  ⟨some 12, .len 0, [.t 11], none⟩,
  ⟨some 13, .mv, [.c (.p (.v (.int .i64 0)))], none⟩])
 (.block 0
 (.loop
 (.seq (.reg [⟨some 14, .bin .lss, [.t 13, .t 12], none⟩])
 (.seq (.cond (.t 14)
 .skip
 (.exit 0))
 (.seq (.block 1
 (.seq (.reg [⟨some 15, .iad 6, [.t 11, .t 13], none⟩,
  ⟨some 16, .load 6 true, [.t 15], none⟩,
  ⟨some 7, .alloc [.v (.string ⟨#[]⟩), .v (.string ⟨#[]⟩), .v (.string ⟨#[]⟩), .v (.int .i64 0), .v (.int .i64 0), .v (.int .i64 0)], [], none⟩,
  ⟨none, .store 6, [.t 7, .t 16], none⟩])
 (.seq (.seq (.reg [⟨some 17, .fad 0, [.t 7], none⟩,
  ⟨some 18, .fad 0, [.t 17], none⟩,
  ⟨some 19, .load 1 false, [.t 18], none⟩,
  ⟨some 20, .mv, [.t 1], none⟩,
  ⟨some 21, .bin .neq, [.t 19, .t 20], none⟩])
 (.cond (.t 21)
 (.exit 1)
 .skip))
 (.seq (.reg [⟨some 23, .load 15 true, [.t 2], none⟩,
  ⟨some 24, .fad 0, [.t 7], none⟩,
  ⟨some 25, .fad 1, [.t 24], none⟩,
  ⟨some 26, .load 1 false, [.t 25], none⟩,
  ⟨some 27, .call 38, [.t 23, .t 26], none⟩,
  ⟨some 22, .mv, [.t 27], none⟩,
  ⟨some 28, .ext 0, [.t 22], none⟩,
  ⟨some 29, .ext 1, [.t 22], none⟩,
  ⟨some 8, .alloc [.v (.string ⟨#[]⟩), .v (.string ⟨#[]⟩), .v (.int .i64 0), .v (.string ⟨#[]⟩), .v (.int .i64 0), .v (.string ⟨#[]⟩), .v (.int .i64 0), .v (.string ⟨#[]⟩), .v (.int .i64 0), .v (.int .i64 0), .v (.int .i64 0), .v (.bool false), .v (.bool false), .v (.bool false)], [], none⟩,
  ⟨none, .store 14, [.t 8, .t 28], none⟩,
  ⟨some 9, .mv, [.t 29], none⟩])
 (.seq (.reg [⟨some 30, .mv, [.t 9], none⟩])
 (.cond (.t 30)
 (.reg [⟨some 31, .load 2 true, [.t 5], none⟩,
  ⟨some 32, .load 14 true, [.t 8], none⟩,
  ⟨some 33, .fad 4, [.t 7], none⟩,
  ⟨some 34, .load 1 false, [.t 33], none⟩,
  ⟨some 35, .call 116, [.t 31, .t 32, .t 34], none⟩,
  ⟨none, .store 2, [.t 5, .t 35], none⟩])
 .skip))))))
 (.reg [⟨some 36, .bin .add, [.t 13, .c (.p (.v (.int .i64 1)))], none⟩,
  ⟨some 13, .mv, [.t 36], none⟩])))))))
 (.seq (.reg [⟨some 37, .load 2 true, [.t 5], none⟩,
  ⟨none, .store 2, [.t 4, .t 37], none⟩])
 .ret))))
theorem ret115 {ps : List PV} {p : PV} (hn : Nat.ble ps.length 38 = true) (h : (∀ q ∈ ps, q.bd) → Run Try.prog (fun e s' => (∀ id, e ≠ .exit id) ∧ ∃ ns, s'.out [.c 4 2 true] = some (p, ns)) [] c115 (S (initL 0 ps) [])) : Ret Try.prog 115 ps p :=
  ret_run Try.func115 rfl (by kernel_rfl) rfl (by kernel_rfl) (by kernel_rfl) (by kernel_rfl) (by kernel_rfl) (Nat.le_of_ble_eq_true hn) h

/-- (stevedore/room.amount).plus -/
def c116 : C :=
  (.seq (.reg [⟨some 3, .box, [.t 0], none⟩,
  ⟨some 4, .box, [.t 1], none⟩,
  ⟨some 6, .alloc [.v (.int .i64 0), .v (.int .i64 0)], [], none⟩])
 (.seq (.reg [⟨some 7, .fad 0, [.t 3], none⟩,
  ⟨some 8, .load 1 false, [.t 7], none⟩,
  ⟨some 9, .mv, [.t 2], none⟩,
  ⟨some 10, .fad 9, [.t 4], none⟩,
  ⟨some 11, .load 1 false, [.t 10], none⟩,
  ⟨some 12, .bin .mul, [.t 9, .t 11], none⟩,
  ⟨some 13, .bin .add, [.t 8, .t 12], none⟩,
  ⟨some 14, .fad 1, [.t 3], none⟩,
  ⟨some 15, .load 1 false, [.t 14], none⟩,
  ⟨some 16, .mv, [.t 2], none⟩,
  ⟨some 17, .fad 10, [.t 4], none⟩,
  ⟨some 18, .load 1 false, [.t 17], none⟩,
  ⟨some 19, .bin .mul, [.t 16, .t 18], none⟩,
  ⟨some 20, .bin .add, [.t 15, .t 19], none⟩,
  ⟨some 21, .build [.v (.int .i64 0), .v (.int .i64 0)] [(0, 1), (1, 1)], [.t 13, .t 20], none⟩,
  ⟨none, .store 2, [.t 6, .t 21], none⟩])
 .ret))
theorem ret116 {ps : List PV} {p : PV} (hn : Nat.ble ps.length 22 = true) (h : (∀ q ∈ ps, q.bd) → Run Try.prog (fun e s' => (∀ id, e ≠ .exit id) ∧ ∃ ns, s'.out [.c 6 2 true] = some (p, ns)) [] c116 (S (initL 0 ps) [])) : Ret Try.prog 116 ps p :=
  ret_run Try.func116 rfl (by kernel_rfl) rfl (by kernel_rfl) (by kernel_rfl) (by kernel_rfl) (by kernel_rfl) (Nat.le_of_ble_eq_true hn) h

/-- (stevedore/room.amount).beyond -/
def c117 : C :=
  (.seq (.reg [⟨some 2, .box, [.t 0], none⟩,
  ⟨some 3, .box, [.t 1], none⟩,
  ⟨some 4, .mv, [.c (.p (.v (.bool false)))], none⟩])
 (.seq (.reg [⟨some 5, .fad 0, [.t 2], none⟩,
  ⟨some 6, .load 1 false, [.t 5], none⟩,
  ⟨some 7, .fad 5, [.t 3], none⟩,
  ⟨some 8, .load 1 false, [.t 7], none⟩,
  ⟨some 9, .bin .gtr, [.t 6, .t 8], none⟩,
  ⟨some 10, .mv, [.t 9], none⟩,
  ⟨some 11, .fad 1, [.t 2], some (10, false)⟩,
  ⟨some 12, .load 1 false, [.t 11], some (10, false)⟩,
  ⟨some 13, .fad 6, [.t 3], some (10, false)⟩,
  ⟨some 14, .load 1 false, [.t 13], some (10, false)⟩,
  ⟨some 15, .bin .gtr, [.t 12, .t 14], some (10, false)⟩,
  ⟨some 16, .pick, [.t 10, .c (.p (.v (.bool true))), .t 15], none⟩,
  ⟨some 4, .mv, [.t 16], none⟩])
 .ret))
theorem ret117 {ps : List PV} {p : PV} (hn : Nat.ble ps.length 17 = true) (h : (∀ q ∈ ps, q.bd) → Run Try.prog (fun e s' => (∀ id, e ≠ .exit id) ∧ ∃ ns, s'.out [.t 4] = some (p, ns)) [] c117 (S (initL 0 ps) [])) : Ret Try.prog 117 ps p :=
  ret_run Try.func117 rfl (by kernel_rfl) rfl (by kernel_rfl) (by kernel_rfl) (by kernel_rfl) (by kernel_rfl) (Nat.le_of_ble_eq_true hn) h

/-- stevedore/room.Load -/
def c47 : C :=
  (.seq (.reg [⟨some 2, .box, [.t 0], none⟩,
  ⟨some 4, .mv, [.c (.p (.v (.int .i64 0)))], none⟩,
  ⟨some 5, .mv, [.c (.p (.v (.int .i64 0)))], none⟩])
 (.seq (.reg [⟨some 7, .load 15 true, [.t 2], none⟩,
  ⟨some 8, .mv, [.t 1], none⟩,
  ⟨some 9, .call 115, [.t 7, .t 8], none⟩,
  ⟨some 6, .alloc [.v (.int .i64 0), .v (.int .i64 0)], [], none⟩,
  ⟨none, .store 2, [.t 6, .t 9], none⟩])
 (.seq (.regd [⟨some 10, .fad 0, [.t 6], none⟩,
  ⟨some 11, .load 1 false, [.t 10], none⟩,
  ⟨some 12, .fad 1, [.t 6], none⟩,
  ⟨some 13, .load 1 false, [.t 12], none⟩,
  ⟨some 4, .mv, [.t 11], none⟩,
  ⟨some 5, .mv, [.t 13], none⟩])
 .ret)))
theorem ret47 {ps : List PV} {p : PV} (hn : Nat.ble ps.length 14 = true) (h : (∀ q ∈ ps, q.bd) → Run Try.prog (fun e s' => (∀ id, e ≠ .exit id) ∧ ∃ ns, s'.out [.t 4, .t 5] = some (p, ns)) [] c47 (S (initL 0 ps) [])) : Ret Try.prog 47 ps p :=
  ret_run Try.func47 rfl (by kernel_rfl) rfl (by kernel_rfl) (by kernel_rfl) (by kernel_rfl) (by kernel_rfl) (Nat.le_of_ble_eq_true hn) h

/-- stevedore/stevedoreref11.Load -/
def c48 : C :=
  (.seq (.reg [⟨some 2, .box, [.t 0], none⟩,
  ⟨some 4, .mv, [.c (.p (.v (.int .i64 0)))], none⟩,
  ⟨some 5, .mv, [.c (.p (.v (.int .i64 0)))], none⟩])
 (.seq (.reg [⟨some 6, .mv, [.c (.p (.v (.int .i64 0)))], none⟩])
 (.seq (.reg [⟨some 7, .mv, [.c (.p (.v (.int .i64 0)))], none⟩])
 (.seq (.seq (.reg [⟨some 8, .mv, [.c (.p (.v (.int .i64 0)))], none⟩])
 (.block 0
 (.loop
 (.seq (.seq (.reg [⟨some 12, .mv, [.t 8], none⟩,
  ⟨some 13, .fad 4, [.t 2], none⟩,
  ⟨some 14, .load 1 false, [.t 13], none⟩,
  ⟨some 15, .len 0, [.t 14], none⟩,
  ⟨some 16, .bin .lss, [.t 12, .t 15], none⟩])
 (.cond (.t 16)
 .skip
 (.exit 0)))
 (.seq (.block 1
 (.seq (.reg [⟨some 19, .fad 4, [.t 2], none⟩,
  ⟨some 20, .load 1 false, [.t 19], none⟩,
  ⟨some 21, .mv, [.t 8], none⟩,
  ⟨some 22, .iad 6, [.t 20, .t 21], none⟩,
  ⟨some 23, .load 6 true, [.t 22], none⟩,
  ⟨some 9, .alloc [.v (.string ⟨#[]⟩), .v (.string ⟨#[]⟩), .v (.string ⟨#[]⟩), .v (.int .i64 0), .v (.int .i64 0), .v (.int .i64 0)], [], none⟩,
  ⟨none, .store 6, [.t 9, .t 23], none⟩])
 (.seq (.reg [⟨some 25, .load 15 true, [.t 2], none⟩,
  ⟨some 26, .fad 0, [.t 9], none⟩,
  ⟨some 27, .fad 1, [.t 26], none⟩,
  ⟨some 28, .load 1 false, [.t 27], none⟩,
  ⟨some 29, .call 39, [.t 25, .t 28], none⟩,
  ⟨some 24, .mv, [.t 29], none⟩,
  ⟨some 30, .ext 0, [.t 24], none⟩,
  ⟨some 31, .ext 1, [.t 24], none⟩,
  ⟨some 10, .alloc [.v (.string ⟨#[]⟩), .v (.string ⟨#[]⟩), .v (.int .i64 0), .v (.string ⟨#[]⟩), .v (.int .i64 0), .v (.string ⟨#[]⟩), .v (.int .i64 0), .v (.string ⟨#[]⟩), .v (.int .i64 0), .v (.int .i64 0), .v (.int .i64 0), .v (.bool false), .v (.bool false), .v (.bool false)], [], none⟩,
  ⟨none, .store 14, [.t 10, .t 30], none⟩,
  ⟨some 11, .mv, [.t 31], none⟩])
 (.seq (.reg [⟨some 32, .fad 0, [.t 9], none⟩,
  ⟨some 33, .fad 0, [.t 32], none⟩,
  ⟨some 34, .load 1 false, [.t 33], none⟩,
  ⟨some 35, .mv, [.t 1], none⟩,
  ⟨some 36, .bin .eql, [.t 34, .t 35], none⟩,
  ⟨some 37, .mv, [.t 36], none⟩,
  ⟨some 38, .mv, [.t 11], some (37, true)⟩,
  ⟨some 39, .pick, [.t 37, .t 38, .c (.p (.v (.bool false)))], none⟩])
 (.cond (.t 39)
 (.seq (.reg [⟨some 40, .mv, [.t 6], none⟩,
  ⟨some 41, .fad 4, [.t 9], none⟩,
  ⟨some 42, .load 1 false, [.t 41], none⟩,
  ⟨some 43, .fad 9, [.t 10], none⟩,
  ⟨some 44, .load 1 false, [.t 43], none⟩,
  ⟨some 45, .bin .mul, [.t 42, .t 44], none⟩,
  ⟨some 46, .bin .add, [.t 40, .t 45], none⟩,
  ⟨some 6, .mv, [.t 46], none⟩])
 (.reg [⟨some 47, .mv, [.t 7], none⟩,
  ⟨some 48, .fad 4, [.t 9], none⟩,
  ⟨some 49, .load 1 false, [.t 48], none⟩,
  ⟨some 50, .fad 10, [.t 10], none⟩,
  ⟨some 51, .load 1 false, [.t 50], none⟩,
  ⟨some 52, .bin .mul, [.t 49, .t 51], none⟩,
  ⟨some 53, .bin .add, [.t 47, .t 52], none⟩,
  ⟨some 7, .mv, [.t 53], none⟩]))
 .skip)))))
 (.reg [⟨some 17, .mv, [.t 8], none⟩,
  ⟨some 18, .bin .add, [.t 17, .c (.p (.v (.int .i64 1)))], none⟩,
  ⟨some 8, .mv, [.t 18], none⟩]))))))
 (.seq (.reg [⟨some 54, .mv, [.t 6], none⟩,
  ⟨some 55, .mv, [.t 7], none⟩,
  ⟨some 4, .mv, [.t 54], none⟩,
  ⟨some 5, .mv, [.t 55], none⟩])
 .ret)))))
theorem ret48 {ps : List PV} {p : PV} (hn : Nat.ble ps.length 56 = true) (h : (∀ q ∈ ps, q.bd) → Run Try.prog (fun e s' => (∀ id, e ≠ .exit id) ∧ ∃ ns, s'.out [.t 4, .t 5] = some (p, ns)) [] c48 (S (initL 0 ps) [])) : Ret Try.prog 48 ps p :=
  ret_run Try.func48 rfl (by kernel_rfl) rfl (by kernel_rfl) (by kernel_rfl) (by kernel_rfl) (by kernel_rfl) (Nat.le_of_ble_eq_true hn) h

/-- stevedore/room.Fits -/
def c49 : C :=
  (.seq (.reg [⟨some 4, .box, [.t 0], none⟩,
  ⟨some 8, .mv, [.c (.p (.v (.int .i64 0)))], none⟩])
 (.seq (.reg [⟨some 14, .load 15 true, [.t 4], none⟩,
  ⟨some 15, .mv, [.t 1], none⟩,
  ⟨some 16, .call 63, [.t 14, .t 15], none⟩,
  ⟨some 13, .mv, [.t 16], none⟩,
  ⟨some 17, .ext 0, [.t 13], none⟩,
  ⟨some 18, .ext 1, [.t 13], none⟩,
  ⟨some 9, .alloc [.v (.string ⟨#[]⟩), .v (.string ⟨#[]⟩), .v (.int .i64 0), .v (.int .i64 0), .v (.int .i64 0), .v (.int .i64 0), .v (.int .i64 0), .v (.bool false)], [], none⟩,
  ⟨none, .store 8, [.t 9, .t 17], none⟩,
  ⟨some 10, .mv, [.t 18], none⟩])
 (.seq (.reg [⟨some 20, .load 15 true, [.t 4], none⟩,
  ⟨some 21, .mv, [.t 2], none⟩,
  ⟨some 22, .call 38, [.t 20, .t 21], none⟩,
  ⟨some 19, .mv, [.t 22], none⟩,
  ⟨some 23, .ext 0, [.t 19], none⟩,
  ⟨some 24, .ext 1, [.t 19], none⟩,
  ⟨some 11, .alloc [.v (.string ⟨#[]⟩), .v (.string ⟨#[]⟩), .v (.int .i64 0), .v (.string ⟨#[]⟩), .v (.int .i64 0), .v (.string ⟨#[]⟩), .v (.int .i64 0), .v (.string ⟨#[]⟩), .v (.int .i64 0), .v (.int .i64 0), .v (.int .i64 0), .v (.bool false), .v (.bool false), .v (.bool false)], [], none⟩,
  ⟨none, .store 14, [.t 11, .t 23], none⟩,
  ⟨some 12, .mv, [.t 24], none⟩])
 (.seq (.block 0
 (.seq (.reg [⟨some 26, .mv, [.t 10], none⟩,
  ⟨some 27, .un .not, [.t 26], none⟩,
  ⟨some 28, .mv, [.t 27], none⟩,
  ⟨some 29, .mv, [.t 12], some (28, false)⟩,
  ⟨some 30, .un .not, [.t 29], some (28, false)⟩,
  ⟨some 31, .pick, [.t 28, .c (.p (.v (.bool true))), .t 30], none⟩,
  ⟨some 25, .mv, [.t 31], none⟩])
 (.cond (.t 25)
 (.seq (.reg [⟨some 8, .mv, [.c (.p (.v (.int .i64 12)))], none⟩])
 .ret)
 (.seq (.regd [⟨some 33, .load 15 true, [.t 4], none⟩,
  ⟨some 34, .mv, [.t 1], none⟩,
  ⟨some 35, .call 115, [.t 33, .t 34], none⟩,
  ⟨some 36, .load 14 true, [.t 11], none⟩,
  ⟨some 37, .mv, [.t 3], none⟩,
  ⟨some 38, .call 116, [.t 35, .t 36, .t 37], none⟩,
  ⟨some 39, .load 8 true, [.t 9], none⟩,
  ⟨some 40, .call 117, [.t 38, .t 39], none⟩,
  ⟨some 32, .mv, [.t 40], none⟩])
 (.cond (.t 32)
 (.seq (.reg [⟨some 8, .mv, [.c (.p (.v (.int .i64 26)))], none⟩])
 .ret)
 .skip)))))
 (.seq (.reg [⟨some 8, .mv, [.c (.p (.v (.int .i64 0)))], none⟩])
 .ret)))))
theorem ret49 {ps : List PV} {p : PV} (hn : Nat.ble ps.length 41 = true) (h : (∀ q ∈ ps, q.bd) → Run Try.prog (fun e s' => (∀ id, e ≠ .exit id) ∧ ∃ ns, s'.out [.t 8] = some (p, ns)) [] c49 (S (initL 0 ps) [])) : Ret Try.prog 49 ps p :=
  ret_run Try.func49 rfl (by kernel_rfl) rfl (by kernel_rfl) (by kernel_rfl) (by kernel_rfl) (by kernel_rfl) (Nat.le_of_ble_eq_true hn) h

/-- stevedore/stevedoreref11.Fits -/
def c50 : C :=
  (.seq (.reg [⟨some 4, .box, [.t 0], none⟩,
  ⟨some 8, .mv, [.c (.p (.v (.int .i64 0)))], none⟩])
 (.seq (.reg [⟨some 16, .load 15 true, [.t 4], none⟩,
  ⟨some 17, .mv, [.t 1], none⟩,
  ⟨some 18, .call 64, [.t 16, .t 17], none⟩,
  ⟨some 15, .mv, [.t 18], none⟩,
  ⟨some 19, .ext 0, [.t 15], none⟩,
  ⟨some 20, .ext 1, [.t 15], none⟩,
  ⟨some 9, .alloc [.v (.string ⟨#[]⟩), .v (.string ⟨#[]⟩), .v (.int .i64 0), .v (.int .i64 0), .v (.int .i64 0), .v (.int .i64 0), .v (.int .i64 0), .v (.bool false)], [], none⟩,
  ⟨none, .store 8, [.t 9, .t 19], none⟩,
  ⟨some 10, .mv, [.t 20], none⟩])
 (.seq (.reg [⟨some 22, .load 15 true, [.t 4], none⟩,
  ⟨some 23, .mv, [.t 2], none⟩,
  ⟨some 24, .call 39, [.t 22, .t 23], none⟩,
  ⟨some 21, .mv, [.t 24], none⟩,
  ⟨some 25, .ext 0, [.t 21], none⟩,
  ⟨some 26, .ext 1, [.t 21], none⟩,
  ⟨some 11, .alloc [.v (.string ⟨#[]⟩), .v (.string ⟨#[]⟩), .v (.int .i64 0), .v (.string ⟨#[]⟩), .v (.int .i64 0), .v (.string ⟨#[]⟩), .v (.int .i64 0), .v (.string ⟨#[]⟩), .v (.int .i64 0), .v (.int .i64 0), .v (.int .i64 0), .v (.bool false), .v (.bool false), .v (.bool false)], [], none⟩,
  ⟨none, .store 14, [.t 11, .t 25], none⟩,
  ⟨some 12, .mv, [.t 26], none⟩])
 (.seq (.seq (.reg [⟨some 27, .mv, [.t 10], none⟩,
  ⟨some 28, .un .not, [.t 27], none⟩,
  ⟨some 29, .mv, [.t 28], none⟩,
  ⟨some 30, .mv, [.t 12], some (29, false)⟩,
  ⟨some 31, .un .not, [.t 30], some (29, false)⟩,
  ⟨some 32, .pick, [.t 29, .c (.p (.v (.bool true))), .t 31], none⟩])
 (.cond (.t 32)
 (.seq (.reg [⟨some 8, .mv, [.c (.p (.v (.int .i64 12)))], none⟩])
 .ret)
 .skip))
 (.seq (.reg [⟨some 34, .load 15 true, [.t 4], none⟩,
  ⟨some 35, .mv, [.t 1], none⟩,
  ⟨some 36, .call 48, [.t 34, .t 35], none⟩,
  ⟨some 33, .mv, [.t 36], none⟩,
  ⟨some 37, .ext 0, [.t 33], none⟩,
  ⟨some 38, .ext 1, [.t 33], none⟩,
  ⟨some 13, .mv, [.t 37], none⟩,
  ⟨some 14, .mv, [.t 38], none⟩])
 (.seq (.seq (.reg [⟨some 39, .mv, [.t 13], none⟩,
  ⟨some 40, .mv, [.t 3], none⟩,
  ⟨some 41, .fad 9, [.t 11], none⟩,
  ⟨some 42, .load 1 false, [.t 41], none⟩,
  ⟨some 43, .bin .mul, [.t 40, .t 42], none⟩,
  ⟨some 44, .bin .add, [.t 39, .t 43], none⟩,
  ⟨some 45, .fad 5, [.t 9], none⟩,
  ⟨some 46, .load 1 false, [.t 45], none⟩,
  ⟨some 47, .bin .gtr, [.t 44, .t 46], none⟩,
  ⟨some 48, .mv, [.t 47], none⟩,
  ⟨some 49, .mv, [.t 14], some (48, false)⟩,
  ⟨some 50, .mv, [.t 3], some (48, false)⟩,
  ⟨some 51, .fad 10, [.t 11], some (48, false)⟩,
  ⟨some 52, .load 1 false, [.t 51], some (48, false)⟩,
  ⟨some 53, .bin .mul, [.t 50, .t 52], some (48, false)⟩,
  ⟨some 54, .bin .add, [.t 49, .t 53], some (48, false)⟩,
  ⟨some 55, .fad 6, [.t 9], some (48, false)⟩,
  ⟨some 56, .load 1 false, [.t 55], some (48, false)⟩,
  ⟨some 57, .bin .gtr, [.t 54, .t 56], some (48, false)⟩,
  ⟨some 58, .pick, [.t 48, .c (.p (.v (.bool true))), .t 57], none⟩])
 (.cond (.t 58)
 (.seq (.reg [⟨some 8, .mv, [.c (.p (.v (.int .i64 26)))], none⟩])
 .ret)
 .skip))
 (.seq (.reg [⟨some 8, .mv, [.c (.p (.v (.int .i64 0)))], none⟩])
 .ret)))))))
theorem ret50 {ps : List PV} {p : PV} (hn : Nat.ble ps.length 59 = true) (h : (∀ q ∈ ps, q.bd) → Run Try.prog (fun e s' => (∀ id, e ≠ .exit id) ∧ ∃ ns, s'.out [.t 8] = some (p, ns)) [] c50 (S (initL 0 ps) [])) : Ret Try.prog 50 ps p :=
  ret_run Try.func50 rfl (by kernel_rfl) rfl (by kernel_rfl) (by kernel_rfl) (by kernel_rfl) (by kernel_rfl) (Nat.le_of_ble_eq_true hn) h

/-- stevedore/stevedoreref11.Full -/
def c118 : C :=
  (.seq (.reg [⟨some 2, .box, [.t 0], none⟩,
  ⟨some 3, .box, [.t 1], none⟩,
  ⟨some 4, .mv, [.c (.p (.v (.bool false)))], none⟩])
 (.seq (.reg [⟨some 8, .load 15 true, [.t 2], none⟩,
  ⟨some 9, .fad 0, [.t 3], none⟩,
  ⟨some 10, .load 1 false, [.t 9], none⟩,
  ⟨some 11, .call 48, [.t 8, .t 10], none⟩,
  ⟨some 7, .mv, [.t 11], none⟩,
  ⟨some 12, .ext 0, [.t 7], none⟩,
  ⟨some 13, .ext 1, [.t 7], none⟩,
  ⟨some 5, .mv, [.t 12], none⟩,
  ⟨some 6, .mv, [.t 13], none⟩])
 (.seq (.reg [⟨some 14, .mv, [.t 5], none⟩,
  ⟨some 15, .fad 5, [.t 3], none⟩,
  ⟨some 16, .load 1 false, [.t 15], none⟩,
  ⟨some 17, .bin .gtr, [.t 14, .t 16], none⟩,
  ⟨some 18, .mv, [.t 17], none⟩,
  ⟨some 19, .mv, [.t 6], some (18, false)⟩,
  ⟨some 20, .fad 6, [.t 3], some (18, false)⟩,
  ⟨some 21, .load 1 false, [.t 20], some (18, false)⟩,
  ⟨some 22, .bin .gtr, [.t 19, .t 21], some (18, false)⟩,
  ⟨some 23, .pick, [.t 18, .c (.p (.v (.bool true))), .t 22], none⟩,
  ⟨some 4, .mv, [.t 23], none⟩])
 .ret)))
theorem ret118 {ps : List PV} {p : PV} (hn : Nat.ble ps.length 24 = true) (h : (∀ q ∈ ps, q.bd) → Run Try.prog (fun e s' => (∀ id, e ≠ .exit id) ∧ ∃ ns, s'.out [.t 4] = some (p, ns)) [] c118 (S (initL 0 ps) [])) : Ret Try.prog 118 ps p :=
  ret_run Try.func118 rfl (by kernel_rfl) rfl (by kernel_rfl) (by kernel_rfl) (by kernel_rfl) (by kernel_rfl) (Nat.le_of_ble_eq_true hn) h

/-- stevedore/stevedorelaw11.texts -/
def c51 : C :=
  (.seq (.reg [⟨some 4, .mv, [.c (.p (.v (.bool false)))], none⟩])
 (.seq (.seq (.reg [⟨some 6, .mv, [.t 0], none⟩,
  ⟨some 7, .len 0, [.t 6], none⟩,
  ⟨some 8, .mv, [.t 1], none⟩,
  ⟨some 9, .len 0, [.t 8], none⟩,
  ⟨some 10, .bin .neq, [.t 7, .t 9], none⟩])
 (.cond (.t 10)
 (.seq (.reg [⟨some 4, .mv, [.c (.p (.v (.bool false)))], none⟩])
 .ret)
 .skip))
 (.seq (.seq (.reg [⟨some 5, .mv, [.c (.p (.v (.int .i64 0)))], none⟩])
 (.block 0
 (.loop
 (.seq (.seq (.reg [⟨some 11, .mv, [.t 5], none⟩,
  ⟨some 12, .mv, [.t 0], none⟩,
  ⟨some 13, .len 0, [.t 12], none⟩,
  ⟨some 14, .bin .lss, [.t 11, .t 13], none⟩])
 (.cond (.t 14)
 .skip
 (.exit 0)))
 (.seq (.block 1
 (.seq (.regd [⟨some 17, .mv, [.t 0], none⟩,
  ⟨some 18, .mv, [.t 5], none⟩,
  ⟨some 19, .iad 1, [.t 17, .t 18], none⟩,
  ⟨some 20, .load 1 false, [.t 19], none⟩,
  ⟨some 21, .mv, [.t 1], none⟩,
  ⟨some 22, .mv, [.t 5], none⟩,
  ⟨some 23, .iad 1, [.t 21, .t 22], none⟩,
  ⟨some 24, .load 1 false, [.t 23], none⟩,
  ⟨some 25, .bin .neq, [.t 20, .t 24], none⟩])
 (.cond (.t 25)
 (.seq (.reg [⟨some 4, .mv, [.c (.p (.v (.bool false)))], none⟩])
 .ret)
 .skip)))
 (.reg [⟨some 15, .mv, [.t 5], none⟩,
  ⟨some 16, .bin .add, [.t 15, .c (.p (.v (.int .i64 1)))], none⟩,
  ⟨some 5, .mv, [.t 16], none⟩]))))))
 (.seq (.reg [⟨some 4, .mv, [.c (.p (.v (.bool true)))], none⟩])
 .ret))))
theorem ret51 {ps : List PV} {p : PV} (hn : Nat.ble ps.length 26 = true) (h : (∀ q ∈ ps, q.bd) → Run Try.prog (fun e s' => (∀ id, e ≠ .exit id) ∧ ∃ ns, s'.out [.t 4] = some (p, ns)) [] c51 (S (initL 0 ps) [])) : Ret Try.prog 51 ps p :=
  ret_run Try.func51 rfl (by kernel_rfl) rfl (by kernel_rfl) (by kernel_rfl) (by kernel_rfl) (by kernel_rfl) (Nat.le_of_ble_eq_true hn) h

/-- stevedore/room.Over -/
def c52 : C :=
  (.seq (.reg [⟨some 1, .box, [.t 0], none⟩,
  ⟨some 2, .mv, [.c .nil], none⟩])
 (.seq (.reg [⟨some 3, .mv, [.c .nil], none⟩])
 (.seq (.seq (.reg [⟨some 6, .fad 3, [.t 1], none⟩,
  ⟨some 7, .load 1 false, [.t 6], none⟩,
  ⟨some 8, .len 0, [.t 7], none⟩,
  ⟨some 9, .mv, [.c (.p (.v (.int .i64 0)))], none⟩])
 (.block 0
 (.loop
 (.seq (.reg [⟨some 10, .bin .lss, [.t 9, .t 8], none⟩])
 (.seq (.cond (.t 10)
 .skip
 (.exit 0))
 (.seq (.block 1
 (.seq (.reg [⟨some 11, .iad 8, [.t 7, .t 9], none⟩,
  ⟨some 12, .load 8 true, [.t 11], none⟩,
  ⟨some 5, .alloc [.v (.string ⟨#[]⟩), .v (.string ⟨#[]⟩), .v (.int .i64 0), .v (.int .i64 0), .v (.int .i64 0), .v (.int .i64 0), .v (.int .i64 0), .v (.bool false)], [], none⟩,
  ⟨none, .store 8, [.t 5, .t 12], none⟩])
 (.seq (.regd [⟨some 13, .load 15 true, [.t 1], none⟩,
  ⟨some 14, .fad 0, [.t 5], none⟩,
  ⟨some 15, .load 1 false, [.t 14], none⟩,
  ⟨some 16, .call 115, [.t 13, .t 15], none⟩,
  ⟨some 17, .load 8 true, [.t 5], none⟩,
  ⟨some 18, .call 117, [.t 16, .t 17], none⟩])
 (.cond (.t 18)
 (.reg [⟨some 19, .mv, [.t 3], none⟩,
  ⟨some 20, .fad 0, [.t 5], none⟩,
  ⟨some 21, .load 1 false, [.t 20], none⟩,
  ⟨some 22, .bsl 9 1 1 [.v (.string ⟨#[]⟩)] [0], [.t 21], none⟩,
  ⟨some 23, .app 9 1 16, [.t 19, .t 22], none⟩,
  ⟨some 3, .mv, [.t 23], none⟩])
 .skip))))
 (.reg [⟨some 24, .bin .add, [.t 9, .c (.p (.v (.int .i64 1)))], none⟩,
  ⟨some 9, .mv, [.t 24], none⟩])))))))
 (.seq (.reg [⟨some 25, .mv, [.t 3], none⟩,
  ⟨some 2, .mv, [.t 25], none⟩])
 .ret))))
theorem ret52 {ps : List PV} {p : PV} (hn : Nat.ble ps.length 26 = true) (h : (∀ q ∈ ps, q.bd) → Run Try.prog (fun e s' => (∀ id, e ≠ .exit id) ∧ ∃ ns, s'.out [.t 2] = some (p, ns)) [] c52 (S (initL 0 ps) [])) : Ret Try.prog 52 ps p :=
  ret_run Try.func52 rfl (by kernel_rfl) rfl (by kernel_rfl) (by kernel_rfl) (by kernel_rfl) (by kernel_rfl) (Nat.le_of_ble_eq_true hn) h

theorem row52 {ps : List PV} {ty es : Nat} {zs : List (List PV)} (hn : Nat.ble ps.length 26 = true) (h : (∀ q ∈ ps, q.bd) → Run Try.prog (fun e s' => (∀ id, e ≠ .exit id) ∧ ((s'.t 2 = .nil ∧ zs = []) ∨ ∃ n, s'.t 2 = .row n zs.length ∧ s'.o n = some (.row ty es zs false))) [] c52 (S (initL 0 ps) [])) : RetN Try.prog 52 ps ty es zs :=
  retN_run Try.func52 rfl (by kernel_rfl) rfl rfl (by decide) (by kernel_rfl) (by kernel_rfl) (by kernel_rfl) (Nat.le_of_ble_eq_true hn) h

/-- stevedore/stevedoreref11.Over -/
def c53 : C :=
  (.seq (.reg [⟨some 1, .box, [.t 0], none⟩,
  ⟨some 2, .mv, [.c .nil], none⟩])
 (.seq (.reg [⟨some 3, .mv, [.c .nil], none⟩])
 (.seq (.seq (.reg [⟨some 4, .mv, [.c (.p (.v (.int .i64 0)))], none⟩])
 (.block 0
 (.loop
 (.seq (.seq (.reg [⟨some 5, .mv, [.t 4], none⟩,
  ⟨some 6, .fad 3, [.t 1], none⟩,
  ⟨some 7, .load 1 false, [.t 6], none⟩,
  ⟨some 8, .len 0, [.t 7], none⟩,
  ⟨some 9, .bin .lss, [.t 5, .t 8], none⟩])
 (.cond (.t 9)
 .skip
 (.exit 0)))
 (.seq (.block 1
 (.seq (.regd [⟨some 12, .load 15 true, [.t 1], none⟩,
  ⟨some 13, .fad 3, [.t 1], none⟩,
  ⟨some 14, .load 1 false, [.t 13], none⟩,
  ⟨some 15, .mv, [.t 4], none⟩,
  ⟨some 16, .iad 8, [.t 14, .t 15], none⟩,
  ⟨some 17, .load 8 true, [.t 16], none⟩,
  ⟨some 18, .call 118, [.t 12, .t 17], none⟩])
 (.cond (.t 18)
 (.reg [⟨some 19, .mv, [.t 3], none⟩,
  ⟨some 20, .fad 3, [.t 1], none⟩,
  ⟨some 21, .load 1 false, [.t 20], none⟩,
  ⟨some 22, .mv, [.t 4], none⟩,
  ⟨some 23, .iad 8, [.t 21, .t 22], none⟩,
  ⟨some 24, .fad 0, [.t 23], none⟩,
  ⟨some 25, .load 1 false, [.t 24], none⟩,
  ⟨some 26, .bsl 9 1 1 [.v (.string ⟨#[]⟩)] [0], [.t 25], none⟩,
  ⟨some 27, .app 9 1 16, [.t 19, .t 26], none⟩,
  ⟨some 3, .mv, [.t 27], none⟩])
 .skip)))
 (.reg [⟨some 10, .mv, [.t 4], none⟩,
  ⟨some 11, .bin .add, [.t 10, .c (.p (.v (.int .i64 1)))], none⟩,
  ⟨some 4, .mv, [.t 11], none⟩]))))))
 (.seq (.reg [⟨some 28, .mv, [.t 3], none⟩,
  ⟨some 2, .mv, [.t 28], none⟩])
 .ret))))
theorem ret53 {ps : List PV} {p : PV} (hn : Nat.ble ps.length 29 = true) (h : (∀ q ∈ ps, q.bd) → Run Try.prog (fun e s' => (∀ id, e ≠ .exit id) ∧ ∃ ns, s'.out [.t 2] = some (p, ns)) [] c53 (S (initL 0 ps) [])) : Ret Try.prog 53 ps p :=
  ret_run Try.func53 rfl (by kernel_rfl) rfl (by kernel_rfl) (by kernel_rfl) (by kernel_rfl) (by kernel_rfl) (Nat.le_of_ble_eq_true hn) h

theorem row53 {ps : List PV} {ty es : Nat} {zs : List (List PV)} (hn : Nat.ble ps.length 29 = true) (h : (∀ q ∈ ps, q.bd) → Run Try.prog (fun e s' => (∀ id, e ≠ .exit id) ∧ ((s'.t 2 = .nil ∧ zs = []) ∨ ∃ n, s'.t 2 = .row n zs.length ∧ s'.o n = some (.row ty es zs false))) [] c53 (S (initL 0 ps) [])) : RetN Try.prog 53 ps ty es zs :=
  retN_run Try.func53 rfl (by kernel_rfl) rfl rfl (by decide) (by kernel_rfl) (by kernel_rfl) (by kernel_rfl) (Nat.le_of_ble_eq_true hn) h

/-- stevedore/room.Resize -/
def c54 : C :=
  (.seq (.reg [⟨some 4, .box, [.t 0], none⟩,
  ⟨some 5, .box, [.t 1], none⟩,
  ⟨some 8, .alloc [.sl [] [], .sl [] [], .sl [] [], .sl [] [], .sl [] [], .sl [] [], .sl [] [], .sl [] [], .sl [] [], .sl [] [], .sl [] [], .sl [] [], .sl [] [], .sl [] [], .v (.int .i64 0)], [], none⟩,
  ⟨some 9, .mv, [.c (.p (.v (.int .i64 0)))], none⟩])
 (.seq (.reg [⟨some 16, .load 15 true, [.t 4], none⟩,
  ⟨some 17, .load 1 false, [.t 5], none⟩,
  ⟨some 18, .call 38, [.t 16, .t 17], none⟩,
  ⟨some 15, .mv, [.t 18], none⟩,
  ⟨some 19, .ext 0, [.t 15], none⟩,
  ⟨some 20, .ext 1, [.t 15], none⟩,
  ⟨some 10, .alloc [.v (.string ⟨#[]⟩), .v (.string ⟨#[]⟩), .v (.int .i64 0), .v (.string ⟨#[]⟩), .v (.int .i64 0), .v (.string ⟨#[]⟩), .v (.int .i64 0), .v (.string ⟨#[]⟩), .v (.int .i64 0), .v (.int .i64 0), .v (.int .i64 0), .v (.bool false), .v (.bool false), .v (.bool false)], [], none⟩,
  ⟨none, .store 14, [.t 10, .t 19], none⟩,
  ⟨some 11, .mv, [.t 20], none⟩])
 (.seq (.block 0
 (.seq (.reg [⟨some 22, .mv, [.t 11], none⟩,
  ⟨some 23, .un .not, [.t 22], none⟩,
  ⟨some 21, .mv, [.t 23], none⟩])
 (.cond (.t 21)
 (.seq (.reg [⟨some 24, .build [.sl [] [], .sl [] [], .sl [] [], .sl [] [], .sl [] [], .sl [] [], .sl [] [], .sl [] [], .sl [] [], .sl [] [], .sl [] [], .sl [] [], .sl [] [], .sl [] [], .v (.int .i64 0)] [], [], none⟩,
  ⟨none, .store 15, [.t 8, .t 24], none⟩,
  ⟨some 9, .mv, [.c (.p (.v (.int .i64 12)))], none⟩])
 .ret)
 (.seq (.reg [⟨some 26, .mv, [.t 2], none⟩,
  ⟨some 27, .bin .lss, [.t 26, .c (.p (.v (.int .i64 0)))], none⟩,
  ⟨some 28, .mv, [.t 27], none⟩,
  ⟨some 29, .mv, [.t 2], some (28, false)⟩,
  ⟨some 30, .bin .gtr, [.t 29, .c (.p (.v (.int .i64 1000000)))], some (28, false)⟩,
  ⟨some 31, .pick, [.t 28, .c (.p (.v (.bool true))), .t 30], none⟩,
  ⟨some 32, .mv, [.t 31], none⟩,
  ⟨some 33, .mv, [.t 3], some (32, false)⟩,
  ⟨some 34, .bin .lss, [.t 33, .c (.p (.v (.int .i64 0)))], some (32, false)⟩,
  ⟨some 35, .pick, [.t 32, .c (.p (.v (.bool true))), .t 34], none⟩,
  ⟨some 36, .mv, [.t 35], none⟩,
  ⟨some 37, .mv, [.t 3], some (36, false)⟩,
  ⟨some 38, .bin .gtr, [.t 37, .c (.p (.v (.int .i64 1000000)))], some (36, false)⟩,
  ⟨some 39, .pick, [.t 36, .c (.p (.v (.bool true))), .t 38], none⟩,
  ⟨some 25, .mv, [.t 39], none⟩])
 (.cond (.t 25)
 (.seq (.reg [⟨some 40, .build [.sl [] [], .sl [] [], .sl [] [], .sl [] [], .sl [] [], .sl [] [], .sl [] [], .sl [] [], .sl [] [], .sl [] [], .sl [] [], .sl [] [], .sl [] [], .sl [] [], .v (.int .i64 0)] [], [], none⟩,
  ⟨none, .store 15, [.t 8, .t 40], none⟩,
  ⟨some 9, .mv, [.c (.p (.v (.int .i64 5)))], none⟩])
 .ret)
 .skip)))))
 (.seq (.reg [⟨some 41, .mv, [.t 2], none⟩,
  ⟨some 42, .mv, [.t 3], none⟩,
  ⟨some 43, .fad 9, [.t 10], none⟩,
  ⟨none, .store 1, [.t 43, .t 41], none⟩,
  ⟨some 44, .fad 10, [.t 10], none⟩,
  ⟨none, .store 1, [.t 44, .t 42], none⟩])
 (.seq (.regd [⟨some 45, .call 88, [], none⟩,
  ⟨some 46, .fad 0, [.t 4], none⟩,
  ⟨some 47, .load 1 false, [.t 46], none⟩,
  ⟨some 48, .load 14 true, [.t 10], none⟩,
  ⟨some 49, .call 89, [.t 45, .t 47, .t 48], none⟩,
  ⟨some 50, .fad 0, [.t 4], none⟩,
  ⟨none, .store 1, [.t 50, .t 49], none⟩])
 (.seq (.seq (.reg [⟨some 51, .fad 3, [.t 4], none⟩,
  ⟨some 52, .load 1 false, [.t 51], none⟩,
  ⟨some 53, .len 0, [.t 52], none⟩,
  ⟨some 54, .mv, [.c (.p (.v (.int .i64 0)))], none⟩])
 (.block 1
 (.loop
 (.seq (.reg [⟨some 55, .bin .lss, [.t 54, .t 53], none⟩])
 (.seq (.cond (.t 55)
 .skip
 (.exit 1))
 (.seq (.block 2
 (.seq (.reg [⟨some 56, .iad 8, [.t 52, .t 54], none⟩,
  ⟨some 57, .load 8 true, [.t 56], none⟩,
  ⟨some 13, .alloc [.v (.string ⟨#[]⟩), .v (.string ⟨#[]⟩), .v (.int .i64 0), .v (.int .i64 0), .v (.int .i64 0), .v (.int .i64 0), .v (.int .i64 0), .v (.bool false)], [], none⟩,
  ⟨none, .store 8, [.t 13, .t 57], none⟩])
 (.seq (.reg [⟨some 58, .fad 4, [.t 4], none⟩,
  ⟨some 59, .load 1 false, [.t 58], none⟩,
  ⟨some 60, .mkf 120, [.t 13, .t 5], none⟩,
  ⟨some 61, .call 119, [.t 59, .t 60], none⟩,
  ⟨some 14, .mv, [.t 61], none⟩])
 (.seq (.regd [⟨some 62, .mv, [.t 14], none⟩,
  ⟨some 63, .mv, [.t 62], none⟩,
  ⟨some 64, .load 15 true, [.t 4], some (63, true)⟩,
  ⟨some 65, .fad 0, [.t 13], some (63, true)⟩,
  ⟨some 66, .load 1 false, [.t 65], some (63, true)⟩,
  ⟨some 67, .call 115, [.t 64, .t 66], some (63, true)⟩,
  ⟨some 68, .load 8 true, [.t 13], some (63, true)⟩,
  ⟨some 69, .call 117, [.t 67, .t 68], some (63, true)⟩,
  ⟨some 70, .pick, [.t 63, .t 69, .c (.p (.v (.bool false)))], none⟩])
 (.cond (.t 70)
 (.seq (.reg [⟨some 71, .build [.sl [] [], .sl [] [], .sl [] [], .sl [] [], .sl [] [], .sl [] [], .sl [] [], .sl [] [], .sl [] [], .sl [] [], .sl [] [], .sl [] [], .sl [] [], .sl [] [], .v (.int .i64 0)] [], [], none⟩,
  ⟨none, .store 15, [.t 8, .t 71], none⟩,
  ⟨some 9, .mv, [.c (.p (.v (.int .i64 26)))], none⟩])
 .ret)
 .skip)))))
 (.reg [⟨some 72, .bin .add, [.t 54, .c (.p (.v (.int .i64 1)))], none⟩,
  ⟨some 54, .mv, [.t 72], none⟩])))))))
 (.seq (.reg [⟨some 73, .load 15 true, [.t 4], none⟩,
  ⟨none, .store 15, [.t 8, .t 73], none⟩,
  ⟨some 9, .mv, [.c (.p (.v (.int .i64 0)))], none⟩])
 .ret)))))))
theorem ret54 {ps : List PV} {p : PV} (hn : Nat.ble ps.length 74 = true) (h : (∀ q ∈ ps, q.bd) → Run Try.prog (fun e s' => (∀ id, e ≠ .exit id) ∧ ∃ ns, s'.out [.c 8 15 true, .t 9] = some (p, ns)) [] c54 (S (initL 0 ps) [])) : Ret Try.prog 54 ps p :=
  ret_run Try.func54 rfl (by kernel_rfl) rfl (by kernel_rfl) (by kernel_rfl) (by kernel_rfl) (by kernel_rfl) (Nat.le_of_ble_eq_true hn) h

/-- stevedore/stevedoreref11.Resize -/
def c55 : C :=
  (.seq (.reg [⟨some 4, .box, [.t 0], none⟩,
  ⟨some 8, .alloc [.sl [] [], .sl [] [], .sl [] [], .sl [] [], .sl [] [], .sl [] [], .sl [] [], .sl [] [], .sl [] [], .sl [] [], .sl [] [], .sl [] [], .sl [] [], .sl [] [], .v (.int .i64 0)], [], none⟩,
  ⟨some 9, .mv, [.c (.p (.v (.int .i64 0)))], none⟩])
 (.seq (.reg [⟨some 17, .load 15 true, [.t 4], none⟩,
  ⟨some 18, .mv, [.t 1], none⟩,
  ⟨some 19, .call 39, [.t 17, .t 18], none⟩,
  ⟨some 16, .mv, [.t 19], none⟩,
  ⟨some 20, .ext 0, [.t 16], none⟩,
  ⟨some 21, .ext 1, [.t 16], none⟩,
  ⟨some 10, .alloc [.v (.string ⟨#[]⟩), .v (.string ⟨#[]⟩), .v (.int .i64 0), .v (.string ⟨#[]⟩), .v (.int .i64 0), .v (.string ⟨#[]⟩), .v (.int .i64 0), .v (.string ⟨#[]⟩), .v (.int .i64 0), .v (.int .i64 0), .v (.int .i64 0), .v (.bool false), .v (.bool false), .v (.bool false)], [], none⟩,
  ⟨none, .store 14, [.t 10, .t 20], none⟩,
  ⟨some 11, .mv, [.t 21], none⟩])
 (.seq (.seq (.reg [⟨some 22, .mv, [.t 11], none⟩,
  ⟨some 23, .un .not, [.t 22], none⟩])
 (.cond (.t 23)
 (.seq (.reg [⟨some 24, .build [.sl [] [], .sl [] [], .sl [] [], .sl [] [], .sl [] [], .sl [] [], .sl [] [], .sl [] [], .sl [] [], .sl [] [], .sl [] [], .sl [] [], .sl [] [], .sl [] [], .v (.int .i64 0)] [], [], none⟩,
  ⟨none, .store 15, [.t 8, .t 24], none⟩,
  ⟨some 9, .mv, [.c (.p (.v (.int .i64 12)))], none⟩])
 .ret)
 .skip))
 (.seq (.seq (.reg [⟨some 25, .mv, [.t 2], none⟩,
  ⟨some 26, .bin .lss, [.t 25, .c (.p (.v (.int .i64 0)))], none⟩,
  ⟨some 27, .mv, [.t 26], none⟩,
  ⟨some 28, .mv, [.t 2], some (27, false)⟩,
  ⟨some 29, .bin .gtr, [.t 28, .c (.p (.v (.int .i64 1000000)))], some (27, false)⟩,
  ⟨some 30, .pick, [.t 27, .c (.p (.v (.bool true))), .t 29], none⟩,
  ⟨some 31, .mv, [.t 30], none⟩,
  ⟨some 32, .mv, [.t 3], some (31, false)⟩,
  ⟨some 33, .bin .lss, [.t 32, .c (.p (.v (.int .i64 0)))], some (31, false)⟩,
  ⟨some 34, .pick, [.t 31, .c (.p (.v (.bool true))), .t 33], none⟩,
  ⟨some 35, .mv, [.t 34], none⟩,
  ⟨some 36, .mv, [.t 3], some (35, false)⟩,
  ⟨some 37, .bin .gtr, [.t 36, .c (.p (.v (.int .i64 1000000)))], some (35, false)⟩,
  ⟨some 38, .pick, [.t 35, .c (.p (.v (.bool true))), .t 37], none⟩])
 (.cond (.t 38)
 (.seq (.reg [⟨some 39, .build [.sl [] [], .sl [] [], .sl [] [], .sl [] [], .sl [] [], .sl [] [], .sl [] [], .sl [] [], .sl [] [], .sl [] [], .sl [] [], .sl [] [], .sl [] [], .sl [] [], .v (.int .i64 0)] [], [], none⟩,
  ⟨none, .store 15, [.t 8, .t 39], none⟩,
  ⟨some 9, .mv, [.c (.p (.v (.int .i64 5)))], none⟩])
 .ret)
 .skip))
 (.seq (.reg [⟨some 40, .mv, [.t 2], none⟩,
  ⟨some 41, .fad 9, [.t 10], none⟩,
  ⟨none, .store 1, [.t 41, .t 40], none⟩])
 (.seq (.reg [⟨some 42, .mv, [.t 3], none⟩,
  ⟨some 43, .fad 10, [.t 10], none⟩,
  ⟨none, .store 1, [.t 43, .t 42], none⟩])
 (.seq (.reg [⟨some 44, .load 15 true, [.t 4], none⟩,
  ⟨some 45, .load 14 true, [.t 10], none⟩,
  ⟨some 46, .call 90, [.t 44, .t 45], none⟩,
  ⟨some 12, .alloc [.sl [] [], .sl [] [], .sl [] [], .sl [] [], .sl [] [], .sl [] [], .sl [] [], .sl [] [], .sl [] [], .sl [] [], .sl [] [], .sl [] [], .sl [] [], .sl [] [], .v (.int .i64 0)], [], none⟩,
  ⟨none, .store 15, [.t 12, .t 46], none⟩])
 (.seq (.seq (.reg [⟨some 13, .mv, [.c (.p (.v (.int .i64 0)))], none⟩])
 (.block 0
 (.loop
 (.seq (.seq (.reg [⟨some 47, .mv, [.t 13], none⟩,
  ⟨some 48, .fad 3, [.t 12], none⟩,
  ⟨some 49, .load 1 false, [.t 48], none⟩,
  ⟨some 50, .len 0, [.t 49], none⟩,
  ⟨some 51, .bin .lss, [.t 47, .t 50], none⟩])
 (.cond (.t 51)
 .skip
 (.exit 0)))
 (.seq (.block 1
 (.seq (.reg [⟨some 14, .mv, [.c (.p (.v (.bool false)))], none⟩])
 (.seq (.seq (.reg [⟨some 15, .mv, [.c (.p (.v (.int .i64 0)))], none⟩])
 (.block 2
 (.loop
 (.seq (.seq (.reg [⟨some 54, .mv, [.t 15], none⟩,
  ⟨some 55, .fad 4, [.t 12], none⟩,
  ⟨some 56, .load 1 false, [.t 55], none⟩,
  ⟨some 57, .len 0, [.t 56], none⟩,
  ⟨some 58, .bin .lss, [.t 54, .t 57], none⟩])
 (.cond (.t 58)
 .skip
 (.exit 2)))
 (.seq (.block 3
 (.regd [⟨some 61, .mv, [.t 14], none⟩,
  ⟨some 62, .mv, [.t 61], none⟩,
  ⟨some 63, .fad 4, [.t 12], some (62, false)⟩,
  ⟨some 64, .load 1 false, [.t 63], some (62, false)⟩,
  ⟨some 65, .mv, [.t 15], some (62, false)⟩,
  ⟨some 66, .iad 6, [.t 64, .t 65], some (62, false)⟩,
  ⟨some 67, .fad 0, [.t 66], some (62, false)⟩,
  ⟨some 68, .fad 0, [.t 67], some (62, false)⟩,
  ⟨some 69, .load 1 false, [.t 68], some (62, false)⟩,
  ⟨some 70, .fad 3, [.t 12], some (62, false)⟩,
  ⟨some 71, .load 1 false, [.t 70], some (62, false)⟩,
  ⟨some 72, .mv, [.t 13], some (62, false)⟩,
  ⟨some 73, .iad 8, [.t 71, .t 72], some (62, false)⟩,
  ⟨some 74, .fad 0, [.t 73], some (62, false)⟩,
  ⟨some 75, .load 1 false, [.t 74], some (62, false)⟩,
  ⟨some 76, .bin .eql, [.t 69, .t 75], some (62, false)⟩,
  ⟨some 77, .mv, [.t 76], some (62, false)⟩,
  ⟨some 78, .fad 4, [.t 12], some (77, true)⟩,
  ⟨some 79, .load 1 false, [.t 78], some (77, true)⟩,
  ⟨some 80, .mv, [.t 15], some (77, true)⟩,
  ⟨some 81, .iad 6, [.t 79, .t 80], some (77, true)⟩,
  ⟨some 82, .fad 0, [.t 81], some (77, true)⟩,
  ⟨some 83, .fad 1, [.t 82], some (77, true)⟩,
  ⟨some 84, .load 1 false, [.t 83], some (77, true)⟩,
  ⟨some 85, .mv, [.t 1], some (77, true)⟩,
  ⟨some 86, .bin .eql, [.t 84, .t 85], some (77, true)⟩,
  ⟨some 87, .pick, [.t 77, .t 86, .c (.p (.v (.bool false)))], some (62, false)⟩,
  ⟨some 88, .pick, [.t 62, .c (.p (.v (.bool true))), .t 87], none⟩,
  ⟨some 14, .mv, [.t 88], none⟩]))
 (.reg [⟨some 59, .mv, [.t 15], none⟩,
  ⟨some 60, .bin .add, [.t 59, .c (.p (.v (.int .i64 1)))], none⟩,
  ⟨some 15, .mv, [.t 60], none⟩]))))))
 (.seq (.regd [⟨some 89, .mv, [.t 14], none⟩,
  ⟨some 90, .mv, [.t 89], none⟩,
  ⟨some 91, .load 15 true, [.t 12], some (90, true)⟩,
  ⟨some 92, .fad 3, [.t 12], some (90, true)⟩,
  ⟨some 93, .load 1 false, [.t 92], some (90, true)⟩,
  ⟨some 94, .mv, [.t 13], some (90, true)⟩,
  ⟨some 95, .iad 8, [.t 93, .t 94], some (90, true)⟩,
  ⟨some 96, .load 8 true, [.t 95], some (90, true)⟩,
  ⟨some 97, .call 118, [.t 91, .t 96], some (90, true)⟩,
  ⟨some 98, .pick, [.t 90, .t 97, .c (.p (.v (.bool false)))], none⟩])
 (.cond (.t 98)
 (.seq (.reg [⟨some 99, .build [.sl [] [], .sl [] [], .sl [] [], .sl [] [], .sl [] [], .sl [] [], .sl [] [], .sl [] [], .sl [] [], .sl [] [], .sl [] [], .sl [] [], .sl [] [], .sl [] [], .v (.int .i64 0)] [], [], none⟩,
  ⟨none, .store 15, [.t 8, .t 99], none⟩,
  ⟨some 9, .mv, [.c (.p (.v (.int .i64 26)))], none⟩])
 .ret)
 .skip)))))
 (.reg [⟨some 52, .mv, [.t 13], none⟩,
  ⟨some 53, .bin .add, [.t 52, .c (.p (.v (.int .i64 1)))], none⟩,
  ⟨some 13, .mv, [.t 53], none⟩]))))))
 (.seq (.reg [⟨some 100, .load 15 true, [.t 12], none⟩,
  ⟨none, .store 15, [.t 8, .t 100], none⟩,
  ⟨some 9, .mv, [.c (.p (.v (.int .i64 0)))], none⟩])
 .ret)))))))))
theorem ret55 {ps : List PV} {p : PV} (hn : Nat.ble ps.length 101 = true) (h : (∀ q ∈ ps, q.bd) → Run Try.prog (fun e s' => (∀ id, e ≠ .exit id) ∧ ∃ ns, s'.out [.c 8 15 true, .t 9] = some (p, ns)) [] c55 (S (initL 0 ps) [])) : Ret Try.prog 55 ps p :=
  ret_run Try.func55 rfl (by kernel_rfl) rfl (by kernel_rfl) (by kernel_rfl) (by kernel_rfl) (by kernel_rfl) (Nat.le_of_ble_eq_true hn) h

/-- stevedore/room.Limit -/
def c56 : C :=
  (.seq (.reg [⟨some 4, .box, [.t 0], none⟩,
  ⟨some 8, .alloc [.sl [] [], .sl [] [], .sl [] [], .sl [] [], .sl [] [], .sl [] [], .sl [] [], .sl [] [], .sl [] [], .sl [] [], .sl [] [], .sl [] [], .sl [] [], .sl [] [], .v (.int .i64 0)], [], none⟩,
  ⟨some 9, .mv, [.c (.p (.v (.int .i64 0)))], none⟩])
 (.seq (.reg [⟨some 13, .load 15 true, [.t 4], none⟩,
  ⟨some 14, .mv, [.t 1], none⟩,
  ⟨some 15, .call 63, [.t 13, .t 14], none⟩,
  ⟨some 12, .mv, [.t 15], none⟩,
  ⟨some 16, .ext 0, [.t 12], none⟩,
  ⟨some 17, .ext 1, [.t 12], none⟩,
  ⟨some 10, .alloc [.v (.string ⟨#[]⟩), .v (.string ⟨#[]⟩), .v (.int .i64 0), .v (.int .i64 0), .v (.int .i64 0), .v (.int .i64 0), .v (.int .i64 0), .v (.bool false)], [], none⟩,
  ⟨none, .store 8, [.t 10, .t 16], none⟩,
  ⟨some 11, .mv, [.t 17], none⟩])
 (.seq (.block 0
 (.seq (.reg [⟨some 19, .mv, [.t 11], none⟩,
  ⟨some 20, .un .not, [.t 19], none⟩,
  ⟨some 18, .mv, [.t 20], none⟩])
 (.cond (.t 18)
 (.seq (.reg [⟨some 21, .build [.sl [] [], .sl [] [], .sl [] [], .sl [] [], .sl [] [], .sl [] [], .sl [] [], .sl [] [], .sl [] [], .sl [] [], .sl [] [], .sl [] [], .sl [] [], .sl [] [], .v (.int .i64 0)] [], [], none⟩,
  ⟨none, .store 15, [.t 8, .t 21], none⟩,
  ⟨some 9, .mv, [.c (.p (.v (.int .i64 12)))], none⟩])
 .ret)
 (.seq (.reg [⟨some 23, .mv, [.t 2], none⟩,
  ⟨some 24, .bin .lss, [.t 23, .c (.p (.v (.int .i64 0)))], none⟩,
  ⟨some 25, .mv, [.t 24], none⟩,
  ⟨some 26, .mv, [.t 2], some (25, false)⟩,
  ⟨some 27, .bin .gtr, [.t 26, .c (.p (.v (.int .i64 1000000000000)))], some (25, false)⟩,
  ⟨some 28, .pick, [.t 25, .c (.p (.v (.bool true))), .t 27], none⟩,
  ⟨some 29, .mv, [.t 28], none⟩,
  ⟨some 30, .mv, [.t 3], some (29, false)⟩,
  ⟨some 31, .bin .lss, [.t 30, .c (.p (.v (.int .i64 0)))], some (29, false)⟩,
  ⟨some 32, .pick, [.t 29, .c (.p (.v (.bool true))), .t 31], none⟩,
  ⟨some 33, .mv, [.t 32], none⟩,
  ⟨some 34, .mv, [.t 3], some (33, false)⟩,
  ⟨some 35, .bin .gtr, [.t 34, .c (.p (.v (.int .i64 1000000000000)))], some (33, false)⟩,
  ⟨some 36, .pick, [.t 33, .c (.p (.v (.bool true))), .t 35], none⟩,
  ⟨some 22, .mv, [.t 36], none⟩])
 (.cond (.t 22)
 (.seq (.reg [⟨some 37, .build [.sl [] [], .sl [] [], .sl [] [], .sl [] [], .sl [] [], .sl [] [], .sl [] [], .sl [] [], .sl [] [], .sl [] [], .sl [] [], .sl [] [], .sl [] [], .sl [] [], .v (.int .i64 0)] [], [], none⟩,
  ⟨none, .store 15, [.t 8, .t 37], none⟩,
  ⟨some 9, .mv, [.c (.p (.v (.int .i64 5)))], none⟩])
 .ret)
 .skip)))))
 (.seq (.reg [⟨some 38, .mv, [.t 2], none⟩,
  ⟨some 39, .mv, [.t 3], none⟩,
  ⟨some 40, .fad 5, [.t 10], none⟩,
  ⟨none, .store 1, [.t 40, .t 38], none⟩,
  ⟨some 41, .fad 6, [.t 10], none⟩,
  ⟨none, .store 1, [.t 41, .t 39], none⟩])
 (.seq (.seq (.regd [⟨some 42, .load 15 true, [.t 4], none⟩,
  ⟨some 43, .mv, [.t 1], none⟩,
  ⟨some 44, .call 115, [.t 42, .t 43], none⟩,
  ⟨some 45, .load 8 true, [.t 10], none⟩,
  ⟨some 46, .call 117, [.t 44, .t 45], none⟩])
 (.cond (.t 46)
 (.seq (.reg [⟨some 47, .build [.sl [] [], .sl [] [], .sl [] [], .sl [] [], .sl [] [], .sl [] [], .sl [] [], .sl [] [], .sl [] [], .sl [] [], .sl [] [], .sl [] [], .sl [] [], .sl [] [], .v (.int .i64 0)] [], [], none⟩,
  ⟨none, .store 15, [.t 8, .t 47], none⟩,
  ⟨some 9, .mv, [.c (.p (.v (.int .i64 26)))], none⟩])
 .ret)
 .skip))
 (.seq (.regd [⟨some 48, .call 121, [], none⟩,
  ⟨some 49, .fad 3, [.t 4], none⟩,
  ⟨some 50, .load 1 false, [.t 49], none⟩,
  ⟨some 51, .load 8 true, [.t 10], none⟩,
  ⟨some 52, .call 122, [.t 48, .t 50, .t 51], none⟩,
  ⟨some 53, .fad 3, [.t 4], none⟩,
  ⟨none, .store 1, [.t 53, .t 52], none⟩])
 (.seq (.reg [⟨some 54, .load 15 true, [.t 4], none⟩,
  ⟨none, .store 15, [.t 8, .t 54], none⟩,
  ⟨some 9, .mv, [.c (.p (.v (.int .i64 0)))], none⟩])
 .ret)))))))
theorem ret56 {ps : List PV} {p : PV} (hn : Nat.ble ps.length 55 = true) (h : (∀ q ∈ ps, q.bd) → Run Try.prog (fun e s' => (∀ id, e ≠ .exit id) ∧ ∃ ns, s'.out [.c 8 15 true, .t 9] = some (p, ns)) [] c56 (S (initL 0 ps) [])) : Ret Try.prog 56 ps p :=
  ret_run Try.func56 rfl (by kernel_rfl) rfl (by kernel_rfl) (by kernel_rfl) (by kernel_rfl) (by kernel_rfl) (Nat.le_of_ble_eq_true hn) h

/-- stevedore/stevedoreref11.Limit -/
def c57 : C :=
  (.seq (.reg [⟨some 4, .box, [.t 0], none⟩,
  ⟨some 8, .alloc [.sl [] [], .sl [] [], .sl [] [], .sl [] [], .sl [] [], .sl [] [], .sl [] [], .sl [] [], .sl [] [], .sl [] [], .sl [] [], .sl [] [], .sl [] [], .sl [] [], .v (.int .i64 0)], [], none⟩,
  ⟨some 9, .mv, [.c (.p (.v (.int .i64 0)))], none⟩])
 (.seq (.reg [⟨some 13, .load 15 true, [.t 4], none⟩,
  ⟨some 14, .mv, [.t 1], none⟩,
  ⟨some 15, .call 64, [.t 13, .t 14], none⟩,
  ⟨some 12, .mv, [.t 15], none⟩,
  ⟨some 16, .ext 0, [.t 12], none⟩,
  ⟨some 17, .ext 1, [.t 12], none⟩,
  ⟨some 10, .alloc [.v (.string ⟨#[]⟩), .v (.string ⟨#[]⟩), .v (.int .i64 0), .v (.int .i64 0), .v (.int .i64 0), .v (.int .i64 0), .v (.int .i64 0), .v (.bool false)], [], none⟩,
  ⟨none, .store 8, [.t 10, .t 16], none⟩,
  ⟨some 11, .mv, [.t 17], none⟩])
 (.seq (.seq (.reg [⟨some 18, .mv, [.t 11], none⟩,
  ⟨some 19, .un .not, [.t 18], none⟩])
 (.cond (.t 19)
 (.seq (.reg [⟨some 20, .build [.sl [] [], .sl [] [], .sl [] [], .sl [] [], .sl [] [], .sl [] [], .sl [] [], .sl [] [], .sl [] [], .sl [] [], .sl [] [], .sl [] [], .sl [] [], .sl [] [], .v (.int .i64 0)] [], [], none⟩,
  ⟨none, .store 15, [.t 8, .t 20], none⟩,
  ⟨some 9, .mv, [.c (.p (.v (.int .i64 12)))], none⟩])
 .ret)
 .skip))
 (.seq (.seq (.reg [⟨some 21, .mv, [.t 2], none⟩,
  ⟨some 22, .bin .lss, [.t 21, .c (.p (.v (.int .i64 0)))], none⟩,
  ⟨some 23, .mv, [.t 22], none⟩,
  ⟨some 24, .mv, [.t 2], some (23, false)⟩,
  ⟨some 25, .bin .gtr, [.t 24, .c (.p (.v (.int .i64 1000000000000)))], some (23, false)⟩,
  ⟨some 26, .pick, [.t 23, .c (.p (.v (.bool true))), .t 25], none⟩,
  ⟨some 27, .mv, [.t 26], none⟩,
  ⟨some 28, .mv, [.t 3], some (27, false)⟩,
  ⟨some 29, .bin .lss, [.t 28, .c (.p (.v (.int .i64 0)))], some (27, false)⟩,
  ⟨some 30, .pick, [.t 27, .c (.p (.v (.bool true))), .t 29], none⟩,
  ⟨some 31, .mv, [.t 30], none⟩,
  ⟨some 32, .mv, [.t 3], some (31, false)⟩,
  ⟨some 33, .bin .gtr, [.t 32, .c (.p (.v (.int .i64 1000000000000)))], some (31, false)⟩,
  ⟨some 34, .pick, [.t 31, .c (.p (.v (.bool true))), .t 33], none⟩])
 (.cond (.t 34)
 (.seq (.reg [⟨some 35, .build [.sl [] [], .sl [] [], .sl [] [], .sl [] [], .sl [] [], .sl [] [], .sl [] [], .sl [] [], .sl [] [], .sl [] [], .sl [] [], .sl [] [], .sl [] [], .sl [] [], .v (.int .i64 0)] [], [], none⟩,
  ⟨none, .store 15, [.t 8, .t 35], none⟩,
  ⟨some 9, .mv, [.c (.p (.v (.int .i64 5)))], none⟩])
 .ret)
 .skip))
 (.seq (.reg [⟨some 36, .mv, [.t 2], none⟩,
  ⟨some 37, .fad 5, [.t 10], none⟩,
  ⟨none, .store 1, [.t 37, .t 36], none⟩])
 (.seq (.reg [⟨some 38, .mv, [.t 3], none⟩,
  ⟨some 39, .fad 6, [.t 10], none⟩,
  ⟨none, .store 1, [.t 39, .t 38], none⟩])
 (.seq (.seq (.reg [⟨some 40, .load 15 true, [.t 4], none⟩,
  ⟨some 41, .load 8 true, [.t 10], none⟩,
  ⟨some 42, .call 118, [.t 40, .t 41], none⟩])
 (.cond (.t 42)
 (.seq (.reg [⟨some 43, .build [.sl [] [], .sl [] [], .sl [] [], .sl [] [], .sl [] [], .sl [] [], .sl [] [], .sl [] [], .sl [] [], .sl [] [], .sl [] [], .sl [] [], .sl [] [], .sl [] [], .v (.int .i64 0)] [], [], none⟩,
  ⟨none, .store 15, [.t 8, .t 43], none⟩,
  ⟨some 9, .mv, [.c (.p (.v (.int .i64 26)))], none⟩])
 .ret)
 .skip))
 (.seq (.reg [⟨some 44, .load 15 true, [.t 4], none⟩,
  ⟨some 45, .load 8 true, [.t 10], none⟩,
  ⟨some 46, .call 123, [.t 44, .t 45], none⟩,
  ⟨none, .store 15, [.t 8, .t 46], none⟩,
  ⟨some 9, .mv, [.c (.p (.v (.int .i64 0)))], none⟩])
 .ret))))))))
theorem ret57 {ps : List PV} {p : PV} (hn : Nat.ble ps.length 47 = true) (h : (∀ q ∈ ps, q.bd) → Run Try.prog (fun e s' => (∀ id, e ≠ .exit id) ∧ ∃ ns, s'.out [.c 8 15 true, .t 9] = some (p, ns)) [] c57 (S (initL 0 ps) [])) : Ret Try.prog 57 ps p :=
  ret_run Try.func57 rfl (by kernel_rfl) rfl (by kernel_rfl) (by kernel_rfl) (by kernel_rfl) (by kernel_rfl) (Nat.le_of_ble_eq_true hn) h

/-- slices.ContainsFunc[[]stevedore/api.Quant,stevedore/api.Quant] -/
def c119 : C :=
  (.seq (.reg [⟨some 4, .mv, [.c (.p (.v (.bool false)))], none⟩])
 (.seq (.reg [⟨some 5, .mv, [.t 0], none⟩,
  ⟨some 6, .mv, [.t 1], none⟩,
  ⟨some 7, .call 148, [.t 5, .t 6], none⟩,
  ⟨some 8, .bin .geq, [.t 7, .c (.p (.v (.int .i64 0)))], none⟩,
  ⟨some 4, .mv, [.t 8], none⟩])
 .ret))
theorem ret119 {ps : List PV} {p : PV} (hn : Nat.ble ps.length 9 = true) (h : (∀ q ∈ ps, q.bd) → Run Try.prog (fun e s' => (∀ id, e ≠ .exit id) ∧ ∃ ns, s'.out [.t 4] = some (p, ns)) [] c119 (S (initL 0 ps) [])) : Ret Try.prog 119 ps p :=
  ret_run Try.func119 rfl (by kernel_rfl) rfl (by kernel_rfl) (by kernel_rfl) (by kernel_rfl) (by kernel_rfl) (Nat.le_of_ble_eq_true hn) h

/-- stevedore/room.Resize$1 -/
def c120 : C :=
  (.seq (.reg [⟨some 3, .box, [.t 0], none⟩,
  ⟨some 4, .mv, [.c (.p (.v (.bool false)))], none⟩])
 (.seq (.reg [⟨some 5, .fad 0, [.t 3], none⟩,
  ⟨some 6, .fad 0, [.t 5], none⟩,
  ⟨some 7, .load 1 false, [.t 6], none⟩,
  ⟨some 8, .fad 0, [.t 1], none⟩,
  ⟨some 9, .load 1 false, [.t 8], none⟩,
  ⟨some 10, .bin .eql, [.t 7, .t 9], none⟩,
  ⟨some 11, .mv, [.t 10], none⟩,
  ⟨some 12, .fad 0, [.t 3], some (11, true)⟩,
  ⟨some 13, .fad 1, [.t 12], some (11, true)⟩,
  ⟨some 14, .load 1 false, [.t 13], some (11, true)⟩,
  ⟨some 15, .load 1 false, [.t 2], some (11, true)⟩,
  ⟨some 16, .bin .eql, [.t 14, .t 15], some (11, true)⟩,
  ⟨some 17, .pick, [.t 11, .t 16, .c (.p (.v (.bool false)))], none⟩,
  ⟨some 4, .mv, [.t 17], none⟩])
 .ret))
theorem ret120 {ps : List PV} {p : PV} (hn : Nat.ble ps.length 18 = true) (h : (∀ q ∈ ps, q.bd) → Run Try.prog (fun e s' => (∀ id, e ≠ .exit id) ∧ ∃ ns, s'.out [.t 4] = some (p, ns)) [] c120 (S (initL 0 ps) [])) : Ret Try.prog 120 ps p :=
  ret_run Try.func120 rfl (by kernel_rfl) rfl (by kernel_rfl) (by kernel_rfl) (by kernel_rfl) (by kernel_rfl) (Nat.le_of_ble_eq_true hn) h

/-- slices.IndexFunc[[]stevedore/api.Quant,stevedore/api.Quant] -/
def c148 : C :=
  (.seq (.reg [⟨some 4, .mv, [.c (.p (.v (.int .i64 0)))], none⟩])
 (.seq (.seq (.reg [⟨some 6, .mv, [.t 0], none⟩,
  ⟨some 7, .len 0, [.t 6], none⟩,
  ⟨some 8, .mv, [.c (.p (.v (.int .i64 0)))], none⟩])
 (.block 0
 (.loop
 (.seq (.reg [⟨some 9, .bin .lss, [.t 8, .t 7], none⟩])
 (.seq (.cond (.t 9)
 .skip
 (.exit 0))
 (.seq (.block 1
 (.seq (.reg [⟨some 10, .mv, [.t 8], none⟩,
  ⟨some 5, .mv, [.t 10], none⟩])
 (.seq (.reg [⟨some 11, .mv, [.t 1], none⟩,
  ⟨some 12, .mv, [.t 0], none⟩,
  ⟨some 13, .mv, [.t 5], none⟩,
  ⟨some 14, .iad 6, [.t 12, .t 13], none⟩,
  ⟨some 15, .load 6 true, [.t 14], none⟩,
  ⟨some 16, .callv, [.t 11, .t 15], none⟩])
 (.cond (.t 16)
 (.seq (.reg [⟨some 17, .mv, [.t 5], none⟩,
  ⟨some 4, .mv, [.t 17], none⟩])
 .ret)
 .skip))))
 (.reg [⟨some 18, .bin .add, [.t 8, .c (.p (.v (.int .i64 1)))], none⟩,
  ⟨some 8, .mv, [.t 18], none⟩])))))))
 (.seq (.reg [⟨some 4, .mv, [.c (.p (.v (.int .i64 (-1))))], none⟩])
 .ret)))
theorem ret148 {ps : List PV} {p : PV} (hn : Nat.ble ps.length 19 = true) (h : (∀ q ∈ ps, q.bd) → Run Try.prog (fun e s' => (∀ id, e ≠ .exit id) ∧ ∃ ns, s'.out [.t 4] = some (p, ns)) [] c148 (S (initL 0 ps) [])) : Ret Try.prog 148 ps p :=
  ret_run Try.func148 rfl (by kernel_rfl) rfl (by kernel_rfl) (by kernel_rfl) (by kernel_rfl) (by kernel_rfl) (Nat.le_of_ble_eq_true hn) h

/-- stevedore/stevedorelaw11.awake -/
def c46 : C :=
  (.seq (.reg [⟨some 0, .mv, [.c (.p (.v (.bool false)))], none⟩])
 (.seq (.reg [⟨some 12, .call 114, [], none⟩,
  ⟨some 1, .alloc [.sl [] [], .sl [] [], .sl [] [], .sl [] [], .sl [] [], .sl [] [], .sl [] [], .sl [] [], .sl [] [], .sl [] [], .sl [] [], .sl [] [], .sl [] [], .sl [] [], .v (.int .i64 0)], [], none⟩,
  ⟨none, .store 15, [.t 1, .t 12], none⟩])
 (.seq (.reg [⟨some 14, .load 15 true, [.t 1], none⟩,
  ⟨some 15, .call 47, [.t 14, .c (.p (.v (.string ⟨#[98]⟩)))], none⟩,
  ⟨some 13, .mv, [.t 15], none⟩,
  ⟨some 16, .ext 0, [.t 13], none⟩,
  ⟨some 17, .ext 1, [.t 13], none⟩,
  ⟨some 2, .mv, [.t 16], none⟩,
  ⟨some 3, .mv, [.t 17], none⟩])
 (.seq (.reg [⟨some 19, .load 15 true, [.t 1], none⟩,
  ⟨some 20, .call 54, [.t 19, .c (.p (.v (.string ⟨#[110, 117, 116]⟩))), .c (.p (.v (.int .i64 5))), .c (.p (.v (.int .i64 1)))], none⟩,
  ⟨some 18, .mv, [.t 20], none⟩,
  ⟨some 21, .ext 0, [.t 18], none⟩,
  ⟨some 22, .ext 1, [.t 18], none⟩,
  ⟨some 4, .alloc [.sl [] [], .sl [] [], .sl [] [], .sl [] [], .sl [] [], .sl [] [], .sl [] [], .sl [] [], .sl [] [], .sl [] [], .sl [] [], .sl [] [], .sl [] [], .sl [] [], .v (.int .i64 0)], [], none⟩,
  ⟨none, .store 15, [.t 4, .t 21], none⟩,
  ⟨some 5, .mv, [.t 22], none⟩])
 (.seq (.reg [⟨some 24, .load 15 true, [.t 1], none⟩,
  ⟨some 25, .call 54, [.t 24, .c (.p (.v (.string ⟨#[110, 117, 116]⟩))), .c (.p (.v (.int .i64 6))), .c (.p (.v (.int .i64 1)))], none⟩,
  ⟨some 23, .mv, [.t 25], none⟩,
  ⟨some 26, .ext 0, [.t 23], none⟩,
  ⟨some 27, .ext 1, [.t 23], none⟩,
  ⟨some 6, .alloc [.sl [] [], .sl [] [], .sl [] [], .sl [] [], .sl [] [], .sl [] [], .sl [] [], .sl [] [], .sl [] [], .sl [] [], .sl [] [], .sl [] [], .sl [] [], .sl [] [], .v (.int .i64 0)], [], none⟩,
  ⟨none, .store 15, [.t 6, .t 26], none⟩,
  ⟨some 7, .mv, [.t 27], none⟩])
 (.seq (.reg [⟨some 29, .load 15 true, [.t 1], none⟩,
  ⟨some 30, .call 56, [.t 29, .c (.p (.v (.string ⟨#[98]⟩))), .c (.p (.v (.int .i64 6))), .c (.p (.v (.int .i64 2)))], none⟩,
  ⟨some 28, .mv, [.t 30], none⟩,
  ⟨some 31, .ext 0, [.t 28], none⟩,
  ⟨some 32, .ext 1, [.t 28], none⟩,
  ⟨some 8, .alloc [.sl [] [], .sl [] [], .sl [] [], .sl [] [], .sl [] [], .sl [] [], .sl [] [], .sl [] [], .sl [] [], .sl [] [], .sl [] [], .sl [] [], .sl [] [], .sl [] [], .v (.int .i64 0)], [], none⟩,
  ⟨none, .store 15, [.t 8, .t 31], none⟩,
  ⟨some 9, .mv, [.t 32], none⟩])
 (.seq (.reg [⟨some 34, .load 15 true, [.t 1], none⟩,
  ⟨some 35, .call 56, [.t 34, .c (.p (.v (.string ⟨#[98]⟩))), .c (.p (.v (.int .i64 5))), .c (.p (.v (.int .i64 9)))], none⟩,
  ⟨some 33, .mv, [.t 35], none⟩,
  ⟨some 36, .ext 0, [.t 33], none⟩,
  ⟨some 37, .ext 1, [.t 33], none⟩,
  ⟨some 10, .alloc [.sl [] [], .sl [] [], .sl [] [], .sl [] [], .sl [] [], .sl [] [], .sl [] [], .sl [] [], .sl [] [], .sl [] [], .sl [] [], .sl [] [], .sl [] [], .sl [] [], .v (.int .i64 0)], [], none⟩,
  ⟨none, .store 15, [.t 10, .t 36], none⟩,
  ⟨some 11, .mv, [.t 37], none⟩])
 (.seq (.reg [⟨some 38, .mv, [.t 2], none⟩,
  ⟨some 39, .bin .eql, [.t 38, .c (.p (.v (.int .i64 6)))], none⟩,
  ⟨some 40, .mv, [.t 39], none⟩,
  ⟨some 41, .mv, [.t 3], some (40, true)⟩,
  ⟨some 42, .bin .eql, [.t 41, .c (.p (.v (.int .i64 2)))], some (40, true)⟩,
  ⟨some 43, .pick, [.t 40, .t 42, .c (.p (.v (.bool false)))], none⟩,
  ⟨some 44, .mv, [.t 43], none⟩,
  ⟨some 45, .load 15 true, [.t 1], some (44, true)⟩,
  ⟨some 46, .call 49, [.t 45, .c (.p (.v (.string ⟨#[98]⟩))), .c (.p (.v (.string ⟨#[110, 117, 116]⟩))), .c (.p (.v (.int .i64 1)))], some (44, true)⟩,
  ⟨some 47, .bin .eql, [.t 46, .c (.p (.v (.int .i64 0)))], some (44, true)⟩,
  ⟨some 48, .pick, [.t 44, .t 47, .c (.p (.v (.bool false)))], none⟩,
  ⟨some 49, .mv, [.t 48], none⟩,
  ⟨some 50, .load 15 true, [.t 1], some (49, true)⟩,
  ⟨some 51, .call 49, [.t 50, .c (.p (.v (.string ⟨#[98]⟩))), .c (.p (.v (.string ⟨#[110, 117, 116]⟩))), .c (.p (.v (.int .i64 2)))], some (49, true)⟩,
  ⟨some 52, .bin .eql, [.t 51, .c (.p (.v (.int .i64 26)))], some (49, true)⟩,
  ⟨some 53, .pick, [.t 49, .t 52, .c (.p (.v (.bool false)))], none⟩,
  ⟨some 54, .mv, [.t 53], none⟩,
  ⟨some 55, .mv, [.t 5], some (54, true)⟩,
  ⟨some 56, .bin .eql, [.t 55, .c (.p (.v (.int .i64 0)))], some (54, true)⟩,
  ⟨some 57, .pick, [.t 54, .t 56, .c (.p (.v (.bool false)))], none⟩,
  ⟨some 58, .mv, [.t 57], none⟩,
  ⟨some 59, .mv, [.t 7], some (58, true)⟩,
  ⟨some 60, .bin .eql, [.t 59, .c (.p (.v (.int .i64 26)))], some (58, true)⟩,
  ⟨some 61, .pick, [.t 58, .t 60, .c (.p (.v (.bool false)))], none⟩,
  ⟨some 62, .mv, [.t 61], none⟩,
  ⟨some 63, .mv, [.t 9], some (62, true)⟩,
  ⟨some 64, .bin .eql, [.t 63, .c (.p (.v (.int .i64 0)))], some (62, true)⟩,
  ⟨some 65, .pick, [.t 62, .t 64, .c (.p (.v (.bool false)))], none⟩,
  ⟨some 66, .mv, [.t 65], none⟩,
  ⟨some 67, .mv, [.t 11], some (66, true)⟩,
  ⟨some 68, .bin .eql, [.t 67, .c (.p (.v (.int .i64 26)))], some (66, true)⟩,
  ⟨some 69, .pick, [.t 66, .t 68, .c (.p (.v (.bool false)))], none⟩,
  ⟨some 70, .mv, [.t 69], none⟩,
  ⟨some 71, .load 15 true, [.t 1], some (70, true)⟩,
  ⟨some 72, .call 52, [.t 71], some (70, true)⟩,
  ⟨some 73, .len 0, [.t 72], some (70, true)⟩,
  ⟨some 74, .bin .eql, [.t 73, .c (.p (.v (.int .i64 0)))], some (70, true)⟩,
  ⟨some 75, .pick, [.t 70, .t 74, .c (.p (.v (.bool false)))], none⟩,
  ⟨some 0, .mv, [.t 75], none⟩])
 .ret))))))))
theorem ret46 {ps : List PV} {p : PV} (hn : Nat.ble ps.length 76 = true) (h : (∀ q ∈ ps, q.bd) → Run Try.prog (fun e s' => (∀ id, e ≠ .exit id) ∧ ∃ ns, s'.out [.t 0] = some (p, ns)) [] c46 (S (initL 0 ps) [])) : Ret Try.prog 46 ps p :=
  ret_run Try.func46 rfl (by kernel_rfl) rfl (by kernel_rfl) (by kernel_rfl) (by kernel_rfl) (by kernel_rfl) (Nat.le_of_ble_eq_true hn) h

/-- stevedore/stevedorelaw11.small -/
def c114 : C :=
  (.seq (.reg [⟨some 0, .alloc [.sl [] [], .sl [] [], .sl [] [], .sl [] [], .sl [] [], .sl [] [], .sl [] [], .sl [] [], .sl [] [], .sl [] [], .sl [] [], .sl [] [], .sl [] [], .sl [] [], .v (.int .i64 0)], [], none⟩])
 (.seq (.reg [⟨some 1, .build [.v (.string ⟨#[]⟩), .v (.string ⟨#[]⟩), .v (.int .i64 0), .v (.string ⟨#[]⟩), .v (.int .i64 0), .v (.string ⟨#[]⟩), .v (.int .i64 0), .v (.string ⟨#[]⟩), .v (.int .i64 0), .v (.int .i64 0), .v (.int .i64 0), .v (.bool false), .v (.bool false), .v (.bool false)] [(0, 1), (9, 1), (10, 1)], [.c (.p (.v (.string ⟨#[110, 117, 116]⟩))), .c (.p (.v (.int .i64 3))), .c (.p (.v (.int .i64 1)))], none⟩,
  ⟨some 2, .bsl 46 14 1 [.v (.string ⟨#[]⟩), .v (.string ⟨#[]⟩), .v (.int .i64 0), .v (.string ⟨#[]⟩), .v (.int .i64 0), .v (.string ⟨#[]⟩), .v (.int .i64 0), .v (.string ⟨#[]⟩), .v (.int .i64 0), .v (.int .i64 0), .v (.int .i64 0), .v (.bool false), .v (.bool false), .v (.bool false)] [0], [.t 1], none⟩,
  ⟨some 3, .build [.v (.string ⟨#[]⟩), .v (.string ⟨#[]⟩), .v (.int .i64 0), .v (.int .i64 0), .v (.int .i64 0), .v (.int .i64 0), .v (.int .i64 0), .v (.bool false)] [(0, 1), (2, 1), (5, 1), (6, 1)], [.c (.p (.v (.string ⟨#[98]⟩))), .c (.p (.v (.int .i64 1))), .c (.p (.v (.int .i64 10))), .c (.p (.v (.int .i64 10)))], none⟩,
  ⟨some 4, .bsl 82 8 1 [.v (.string ⟨#[]⟩), .v (.string ⟨#[]⟩), .v (.int .i64 0), .v (.int .i64 0), .v (.int .i64 0), .v (.int .i64 0), .v (.int .i64 0), .v (.bool false)] [0], [.t 3], none⟩,
  ⟨some 5, .build [.v (.string ⟨#[]⟩), .v (.string ⟨#[]⟩), .v (.string ⟨#[]⟩), .v (.int .i64 0)] [(0, 1), (1, 1), (3, 1)], [.c (.p (.v (.string ⟨#[98]⟩))), .c (.p (.v (.string ⟨#[110, 117, 116]⟩))), .c (.p (.v (.int .i64 1)))], none⟩,
  ⟨some 6, .build [.v (.string ⟨#[]⟩), .v (.string ⟨#[]⟩), .v (.string ⟨#[]⟩), .v (.int .i64 0), .v (.int .i64 0), .v (.int .i64 0)] [(0, 4), (4, 1)], [.t 5, .c (.p (.v (.int .i64 2)))], none⟩,
  ⟨some 7, .bsl 50 6 1 [.v (.string ⟨#[]⟩), .v (.string ⟨#[]⟩), .v (.string ⟨#[]⟩), .v (.int .i64 0), .v (.int .i64 0), .v (.int .i64 0)] [0], [.t 6], none⟩,
  ⟨some 8, .build [.sl [] [], .sl [] [], .sl [] [], .sl [] [], .sl [] [], .sl [] [], .sl [] [], .sl [] [], .sl [] [], .sl [] [], .sl [] [], .sl [] [], .sl [] [], .sl [] [], .v (.int .i64 0)] [(0, 1), (3, 1), (4, 1)], [.t 2, .t 4, .t 7], none⟩,
  ⟨none, .store 15, [.t 0, .t 8], none⟩])
 .ret))
theorem ret114 {ps : List PV} {p : PV} (hn : Nat.ble ps.length 9 = true) (h : (∀ q ∈ ps, q.bd) → Run Try.prog (fun e s' => (∀ id, e ≠ .exit id) ∧ ∃ ns, s'.out [.c 0 15 true] = some (p, ns)) [] c114 (S (initL 0 ps) [])) : Ret Try.prog 114 ps p :=
  ret_run Try.func114 rfl (by kernel_rfl) rfl (by kernel_rfl) (by kernel_rfl) (by kernel_rfl) (by kernel_rfl) (Nat.le_of_ble_eq_true hn) h

end Go.Fw
