/-
  The code of some functions, for the abstract machine. Printed by a program (wip/tools/mkir.py).
-/
import Derived.Test.YtdmackpiohkanaaFwU
import Derived.Test.YtdmackpiohkanaaProg
import Derived.KernelRfl
set_option linter.unusedVariables false
set_option maxRecDepth 100000
namespace Go.Fw
open Go.Proofs

/-- stevedore/stevedorekeep.Small -/
def c28 : C :=
  (.seq (.reg [⟨some 1, .box, [.t 0], none⟩,
  ⟨some 2, .mv, [.c (.p (.v (.bool false)))], none⟩])
 (.seq (.reg [⟨some 3, .fad 0, [.t 1], none⟩,
  ⟨some 4, .load 1 false, [.t 3], none⟩,
  ⟨some 5, .len 0, [.t 4], none⟩,
  ⟨some 6, .bin .leq, [.t 5, .c (.p (.v (.int .i64 80)))], none⟩,
  ⟨some 7, .mv, [.t 6], none⟩,
  ⟨some 8, .fad 1, [.t 1], some (7, true)⟩,
  ⟨some 9, .load 1 false, [.t 8], some (7, true)⟩,
  ⟨some 10, .len 0, [.t 9], some (7, true)⟩,
  ⟨some 11, .bin .leq, [.t 10, .c (.p (.v (.int .i64 160)))], some (7, true)⟩,
  ⟨some 12, .pick, [.t 7, .t 11, .c (.p (.v (.bool false)))], none⟩,
  ⟨some 13, .mv, [.t 12], none⟩,
  ⟨some 14, .fad 2, [.t 1], some (13, true)⟩,
  ⟨some 15, .load 1 false, [.t 14], some (13, true)⟩,
  ⟨some 16, .len 0, [.t 15], some (13, true)⟩,
  ⟨some 17, .bin .leq, [.t 16, .c (.p (.v (.int .i64 40)))], some (13, true)⟩,
  ⟨some 18, .pick, [.t 13, .t 17, .c (.p (.v (.bool false)))], none⟩,
  ⟨some 19, .mv, [.t 18], none⟩,
  ⟨some 20, .fad 3, [.t 1], some (19, true)⟩,
  ⟨some 21, .load 1 false, [.t 20], some (19, true)⟩,
  ⟨some 22, .len 0, [.t 21], some (19, true)⟩,
  ⟨some 23, .bin .leq, [.t 22, .c (.p (.v (.int .i64 80)))], some (19, true)⟩,
  ⟨some 24, .pick, [.t 19, .t 23, .c (.p (.v (.bool false)))], none⟩,
  ⟨some 25, .mv, [.t 24], none⟩,
  ⟨some 26, .fad 4, [.t 1], some (25, true)⟩,
  ⟨some 27, .load 1 false, [.t 26], some (25, true)⟩,
  ⟨some 28, .len 0, [.t 27], some (25, true)⟩,
  ⟨some 29, .bin .leq, [.t 28, .c (.p (.v (.int .i64 300)))], some (25, true)⟩,
  ⟨some 30, .pick, [.t 25, .t 29, .c (.p (.v (.bool false)))], none⟩,
  ⟨some 31, .mv, [.t 30], none⟩,
  ⟨some 32, .fad 5, [.t 1], some (31, true)⟩,
  ⟨some 33, .load 1 false, [.t 32], some (31, true)⟩,
  ⟨some 34, .len 0, [.t 33], some (31, true)⟩,
  ⟨some 35, .bin .leq, [.t 34, .c (.p (.v (.int .i64 60)))], some (31, true)⟩,
  ⟨some 36, .pick, [.t 31, .t 35, .c (.p (.v (.bool false)))], none⟩,
  ⟨some 37, .mv, [.t 36], none⟩,
  ⟨some 38, .fad 6, [.t 1], some (37, true)⟩,
  ⟨some 39, .load 1 false, [.t 38], some (37, true)⟩,
  ⟨some 40, .len 0, [.t 39], some (37, true)⟩,
  ⟨some 41, .bin .leq, [.t 40, .c (.p (.v (.int .i64 60)))], some (37, true)⟩,
  ⟨some 42, .pick, [.t 37, .t 41, .c (.p (.v (.bool false)))], none⟩,
  ⟨some 43, .mv, [.t 42], none⟩,
  ⟨some 44, .fad 7, [.t 1], some (43, true)⟩,
  ⟨some 45, .load 1 false, [.t 44], some (43, true)⟩,
  ⟨some 46, .len 0, [.t 45], some (43, true)⟩,
  ⟨some 47, .bin .leq, [.t 46, .c (.p (.v (.int .i64 60)))], some (43, true)⟩,
  ⟨some 48, .pick, [.t 43, .t 47, .c (.p (.v (.bool false)))], none⟩,
  ⟨some 49, .mv, [.t 48], none⟩,
  ⟨some 50, .fad 8, [.t 1], some (49, true)⟩,
  ⟨some 51, .load 1 false, [.t 50], some (49, true)⟩,
  ⟨some 52, .len 0, [.t 51], some (49, true)⟩,
  ⟨some 53, .bin .leq, [.t 52, .c (.p (.v (.int .i64 160)))], some (49, true)⟩,
  ⟨some 54, .pick, [.t 49, .t 53, .c (.p (.v (.bool false)))], none⟩,
  ⟨some 55, .mv, [.t 54], none⟩,
  ⟨some 56, .fad 9, [.t 1], some (55, true)⟩,
  ⟨some 57, .load 1 false, [.t 56], some (55, true)⟩,
  ⟨some 58, .len 0, [.t 57], some (55, true)⟩,
  ⟨some 59, .bin .leq, [.t 58, .c (.p (.v (.int .i64 160)))], some (55, true)⟩,
  ⟨some 60, .pick, [.t 55, .t 59, .c (.p (.v (.bool false)))], none⟩,
  ⟨some 61, .mv, [.t 60], none⟩,
  ⟨some 62, .fad 10, [.t 1], some (61, true)⟩,
  ⟨some 63, .load 1 false, [.t 62], some (61, true)⟩,
  ⟨some 64, .len 0, [.t 63], some (61, true)⟩,
  ⟨some 65, .bin .leq, [.t 64, .c (.p (.v (.int .i64 80)))], some (61, true)⟩,
  ⟨some 66, .pick, [.t 61, .t 65, .c (.p (.v (.bool false)))], none⟩,
  ⟨some 67, .mv, [.t 66], none⟩,
  ⟨some 68, .fad 11, [.t 1], some (67, true)⟩,
  ⟨some 69, .load 1 false, [.t 68], some (67, true)⟩,
  ⟨some 70, .len 0, [.t 69], some (67, true)⟩,
  ⟨some 71, .bin .leq, [.t 70, .c (.p (.v (.int .i64 160)))], some (67, true)⟩,
  ⟨some 72, .pick, [.t 67, .t 71, .c (.p (.v (.bool false)))], none⟩,
  ⟨some 73, .mv, [.t 72], none⟩,
  ⟨some 74, .fad 12, [.t 1], some (73, true)⟩,
  ⟨some 75, .load 1 false, [.t 74], some (73, true)⟩,
  ⟨some 76, .len 0, [.t 75], some (73, true)⟩,
  ⟨some 77, .bin .leq, [.t 76, .c (.p (.v (.int .i64 120)))], some (73, true)⟩,
  ⟨some 78, .pick, [.t 73, .t 77, .c (.p (.v (.bool false)))], none⟩,
  ⟨some 79, .mv, [.t 78], none⟩,
  ⟨some 80, .fad 13, [.t 1], some (79, true)⟩,
  ⟨some 81, .load 1 false, [.t 80], some (79, true)⟩,
  ⟨some 82, .len 0, [.t 81], some (79, true)⟩,
  ⟨some 83, .bin .leq, [.t 82, .c (.p (.v (.int .i64 300)))], some (79, true)⟩,
  ⟨some 84, .pick, [.t 79, .t 83, .c (.p (.v (.bool false)))], none⟩,
  ⟨some 2, .mv, [.t 84], none⟩])
 .ret))
theorem ret28 {ps : List PV} {p : PV} (hn : Nat.ble ps.length 85 = true) (h : (∀ q ∈ ps, q.bd) → Run Try.prog (fun e s' => (∀ id, e ≠ .exit id) ∧ ∃ ns, s'.out [.t 2] = some (p, ns)) [] c28 (S (initL 0 ps) [])) : Ret Try.prog 28 ps p :=
  ret_run Try.func28 rfl (by kernel_rfl) rfl (by kernel_rfl) (by kernel_rfl) (by kernel_rfl) (by kernel_rfl) (Nat.le_of_ble_eq_true hn) h

/-- stevedore/lots.Fits -/
def c30 : C :=
  (.seq (.reg [⟨some 4, .box, [.t 0], none⟩,
  ⟨some 8, .mv, [.c (.p (.v (.int .i64 0)))], none⟩])
 (.seq (.reg [⟨some 16, .load 15 true, [.t 4], none⟩,
  ⟨some 17, .mv, [.t 1], none⟩,
  ⟨some 18, .call 38, [.t 16, .t 17], none⟩,
  ⟨some 15, .mv, [.t 18], none⟩,
  ⟨some 19, .ext 0, [.t 15], none⟩,
  ⟨some 20, .ext 1, [.t 15], none⟩,
  ⟨some 9, .alloc [.v (.string ⟨#[]⟩), .v (.string ⟨#[]⟩), .v (.int .i64 0), .v (.string ⟨#[]⟩), .v (.int .i64 0), .v (.string ⟨#[]⟩), .v (.int .i64 0), .v (.string ⟨#[]⟩), .v (.int .i64 0), .v (.int .i64 0), .v (.int .i64 0), .v (.bool false), .v (.bool false), .v (.bool false)], [], none⟩,
  ⟨none, .store 14, [.t 9, .t 19], none⟩,
  ⟨some 10, .mv, [.t 20], none⟩])
 (.seq (.seq (.reg [⟨some 21, .mv, [.t 10], none⟩,
  ⟨some 22, .un .not, [.t 21], none⟩])
 (.cond (.t 22)
 (.seq (.reg [⟨some 8, .mv, [.c (.p (.v (.int .i64 12)))], none⟩])
 .ret)
 .skip))
 (.seq (.seq (.reg [⟨some 24, .load 15 true, [.t 4], none⟩,
  ⟨some 25, .mv, [.t 1], none⟩,
  ⟨some 26, .mv, [.t 2], none⟩,
  ⟨some 27, .call 71, [.t 24, .t 25, .t 26], none⟩,
  ⟨some 23, .mv, [.t 27], none⟩,
  ⟨some 28, .ext 0, [.t 23], none⟩,
  ⟨some 29, .ext 1, [.t 23], none⟩,
  ⟨some 11, .alloc [.v (.string ⟨#[]⟩), .v (.string ⟨#[]⟩), .v (.int .i64 0)], [], none⟩,
  ⟨none, .store 3, [.t 11, .t 28], none⟩,
  ⟨some 12, .mv, [.t 29], none⟩])
 (.seq (.reg [⟨some 30, .fad 11, [.t 9], none⟩,
  ⟨some 31, .load 1 false, [.t 30], none⟩,
  ⟨some 32, .mv, [.t 31], none⟩,
  ⟨some 33, .mv, [.t 12], some (32, true)⟩,
  ⟨some 34, .un .not, [.t 33], some (32, true)⟩,
  ⟨some 35, .pick, [.t 32, .t 34, .c (.p (.v (.bool false)))], none⟩,
  ⟨some 36, .mv, [.t 35], none⟩,
  ⟨some 37, .fad 11, [.t 9], some (36, false)⟩,
  ⟨some 38, .load 1 false, [.t 37], some (36, false)⟩,
  ⟨some 39, .un .not, [.t 38], some (36, false)⟩,
  ⟨some 40, .mv, [.t 39], some (36, false)⟩,
  ⟨some 41, .mv, [.t 2], some (40, true)⟩,
  ⟨some 42, .bin .neq, [.t 41, .c (.p (.v (.string ⟨#[]⟩)))], some (40, true)⟩,
  ⟨some 43, .pick, [.t 40, .t 42, .c (.p (.v (.bool false)))], some (36, false)⟩,
  ⟨some 44, .pick, [.t 36, .c (.p (.v (.bool true))), .t 43], none⟩])
 (.cond (.t 44)
 (.seq (.reg [⟨some 8, .mv, [.c (.p (.v (.int .i64 21)))], none⟩])
 .ret)
 .skip)))
 (.seq (.seq (.reg [⟨some 45, .fad 4, [.t 4], none⟩,
  ⟨some 46, .load 1 false, [.t 45], none⟩,
  ⟨some 47, .len 0, [.t 46], none⟩,
  ⟨some 48, .mv, [.c (.p (.v (.int .i64 0)))], none⟩])
 (.block 0
 (.loop
 (.seq (.reg [⟨some 49, .bin .lss, [.t 48, .t 47], none⟩])
 (.seq (.cond (.t 49)
 .skip
 (.exit 0))
 (.seq (.block 1
 (.seq (.reg [⟨some 50, .iad 6, [.t 46, .t 48], none⟩,
  ⟨some 51, .load 6 true, [.t 50], none⟩,
  ⟨some 14, .alloc [.v (.string ⟨#[]⟩), .v (.string ⟨#[]⟩), .v (.string ⟨#[]⟩), .v (.int .i64 0), .v (.int .i64 0), .v (.int .i64 0)], [], none⟩,
  ⟨none, .store 6, [.t 14, .t 51], none⟩])
 (.seq (.reg [⟨some 52, .fad 0, [.t 14], none⟩,
  ⟨some 53, .fad 1, [.t 52], none⟩,
  ⟨some 54, .load 1 false, [.t 53], none⟩,
  ⟨some 55, .mv, [.t 1], none⟩,
  ⟨some 56, .bin .eql, [.t 54, .t 55], none⟩,
  ⟨some 57, .mv, [.t 56], none⟩,
  ⟨some 58, .fad 0, [.t 14], some (57, true)⟩,
  ⟨some 59, .fad 2, [.t 58], some (57, true)⟩,
  ⟨some 60, .load 1 false, [.t 59], some (57, true)⟩,
  ⟨some 61, .mv, [.t 2], some (57, true)⟩,
  ⟨some 62, .bin .eql, [.t 60, .t 61], some (57, true)⟩,
  ⟨some 63, .pick, [.t 57, .t 62, .c (.p (.v (.bool false)))], none⟩])
 (.cond (.t 63)
 (.reg [⟨some 64, .mv, [.t 3], none⟩,
  ⟨some 65, .fad 4, [.t 14], none⟩,
  ⟨some 66, .load 1 false, [.t 65], none⟩,
  ⟨some 67, .bin .add, [.t 64, .t 66], none⟩,
  ⟨some 3, .mv, [.t 67], none⟩])
 .skip))))
 (.reg [⟨some 68, .bin .add, [.t 48, .c (.p (.v (.int .i64 1)))], none⟩,
  ⟨some 48, .mv, [.t 68], none⟩])))))))
 (.seq (.seq (.reg [⟨some 69, .fad 12, [.t 9], none⟩,
  ⟨some 70, .load 1 false, [.t 69], none⟩,
  ⟨some 71, .mv, [.t 70], none⟩,
  ⟨some 72, .mv, [.t 3], some (71, true)⟩,
  ⟨some 73, .bin .gtr, [.t 72, .c (.p (.v (.int .i64 1)))], some (71, true)⟩,
  ⟨some 74, .pick, [.t 71, .t 73, .c (.p (.v (.bool false)))], none⟩])
 (.cond (.t 74)
 (.seq (.reg [⟨some 8, .mv, [.c (.p (.v (.int .i64 22)))], none⟩])
 .ret)
 .skip))
 (.seq (.reg [⟨some 8, .mv, [.c (.p (.v (.int .i64 0)))], none⟩])
 .ret)))))))
theorem ret30 {ps : List PV} {p : PV} (hn : Nat.ble ps.length 75 = true) (h : (∀ q ∈ ps, q.bd) → Run Try.prog (fun e s' => (∀ id, e ≠ .exit id) ∧ ∃ ns, s'.out [.t 8] = some (p, ns)) [] c30 (S (initL 0 ps) [])) : Ret Try.prog 30 ps p :=
  ret_run Try.func30 rfl (by kernel_rfl) rfl (by kernel_rfl) (by kernel_rfl) (by kernel_rfl) (by kernel_rfl) (Nat.le_of_ble_eq_true hn) h

/-- stevedore/lots.Day -/
def c31 : C :=
  (.seq (.reg [⟨some 3, .box, [.t 0], none⟩,
  ⟨some 6, .mv, [.c (.p (.v (.int .i64 0)))], none⟩])
 (.seq (.seq (.reg [⟨some 10, .load 15 true, [.t 3], none⟩,
  ⟨some 11, .mv, [.t 1], none⟩,
  ⟨some 12, .mv, [.t 2], none⟩,
  ⟨some 13, .call 71, [.t 10, .t 11, .t 12], none⟩,
  ⟨some 9, .mv, [.t 13], none⟩,
  ⟨some 14, .ext 0, [.t 9], none⟩,
  ⟨some 15, .ext 1, [.t 9], none⟩,
  ⟨some 7, .alloc [.v (.string ⟨#[]⟩), .v (.string ⟨#[]⟩), .v (.int .i64 0)], [], none⟩,
  ⟨none, .store 3, [.t 7, .t 14], none⟩,
  ⟨some 8, .mv, [.t 15], none⟩])
 (.seq (.reg [⟨some 16, .fad 2, [.t 7], none⟩,
  ⟨some 17, .load 1 false, [.t 16], none⟩,
  ⟨some 18, .bin .neq, [.t 17, .c (.p (.v (.int .i64 0)))], none⟩])
 (.cond (.t 18)
 (.seq (.reg [⟨some 19, .fad 2, [.t 7], none⟩,
  ⟨some 20, .load 1 false, [.t 19], none⟩,
  ⟨some 6, .mv, [.t 20], none⟩])
 .ret)
 .skip)))
 (.seq (.reg [⟨some 6, .mv, [.c (.p (.v (.int .i64 100001)))], none⟩])
 .ret)))
theorem ret31 {ps : List PV} {p : PV} (hn : Nat.ble ps.length 21 = true) (h : (∀ q ∈ ps, q.bd) → Run Try.prog (fun e s' => (∀ id, e ≠ .exit id) ∧ ∃ ns, s'.out [.t 6] = some (p, ns)) [] c31 (S (initL 0 ps) [])) : Ret Try.prog 31 ps p :=
  ret_run Try.func31 rfl (by kernel_rfl) rfl (by kernel_rfl) (by kernel_rfl) (by kernel_rfl) (by kernel_rfl) (Nat.le_of_ble_eq_true hn) h

/-- stevedore/items.Find -/
def c38 : C :=
  (.seq (.reg [⟨some 2, .box, [.t 0], none⟩,
  ⟨some 4, .alloc [.v (.string ⟨#[]⟩), .v (.string ⟨#[]⟩), .v (.int .i64 0), .v (.string ⟨#[]⟩), .v (.int .i64 0), .v (.string ⟨#[]⟩), .v (.int .i64 0), .v (.string ⟨#[]⟩), .v (.int .i64 0), .v (.int .i64 0), .v (.int .i64 0), .v (.bool false), .v (.bool false), .v (.bool false)], [], none⟩,
  ⟨some 5, .mv, [.c (.p (.v (.bool false)))], none⟩])
 (.seq (.seq (.regd [⟨some 9, .call 88, [], none⟩,
  ⟨some 10, .fad 0, [.t 2], none⟩,
  ⟨some 11, .load 1 false, [.t 10], none⟩,
  ⟨some 12, .mv, [.t 1], none⟩,
  ⟨some 13, .build [.v (.string ⟨#[]⟩), .v (.string ⟨#[]⟩), .v (.int .i64 0), .v (.string ⟨#[]⟩), .v (.int .i64 0), .v (.string ⟨#[]⟩), .v (.int .i64 0), .v (.string ⟨#[]⟩), .v (.int .i64 0), .v (.int .i64 0), .v (.int .i64 0), .v (.bool false), .v (.bool false), .v (.bool false)] [(0, 1)], [.t 12], none⟩,
  ⟨some 14, .call 91, [.t 9, .t 11, .t 13], none⟩,
  ⟨some 8, .mv, [.t 14], none⟩,
  ⟨some 15, .ext 0, [.t 8], none⟩,
  ⟨some 16, .ext 1, [.t 8], none⟩,
  ⟨some 6, .mv, [.t 15], none⟩,
  ⟨some 7, .mv, [.t 16], none⟩])
 (.seq (.reg [⟨some 17, .mv, [.t 7], none⟩])
 (.cond (.t 17)
 (.seq (.reg [⟨some 18, .fad 0, [.t 2], none⟩,
  ⟨some 19, .load 1 false, [.t 18], none⟩,
  ⟨some 20, .mv, [.t 6], none⟩,
  ⟨some 21, .iad 14, [.t 19, .t 20], none⟩,
  ⟨some 22, .load 14 true, [.t 21], none⟩,
  ⟨none, .store 14, [.t 4, .t 22], none⟩,
  ⟨some 5, .mv, [.c (.p (.v (.bool true)))], none⟩])
 .ret)
 .skip)))
 (.seq (.reg [⟨some 23, .build [.v (.string ⟨#[]⟩), .v (.string ⟨#[]⟩), .v (.int .i64 0), .v (.string ⟨#[]⟩), .v (.int .i64 0), .v (.string ⟨#[]⟩), .v (.int .i64 0), .v (.string ⟨#[]⟩), .v (.int .i64 0), .v (.int .i64 0), .v (.int .i64 0), .v (.bool false), .v (.bool false), .v (.bool false)] [], [], none⟩,
  ⟨none, .store 14, [.t 4, .t 23], none⟩,
  ⟨some 5, .mv, [.c (.p (.v (.bool false)))], none⟩])
 .ret)))
theorem ret38 {ps : List PV} {p : PV} (hn : Nat.ble ps.length 24 = true) (h : (∀ q ∈ ps, q.bd) → Run Try.prog (fun e s' => (∀ id, e ≠ .exit id) ∧ ∃ ns, s'.out [.c 4 14 true, .t 5] = some (p, ns)) [] c38 (S (initL 0 ps) [])) : Ret Try.prog 38 ps p :=
  ret_run Try.func38 rfl (by kernel_rfl) rfl (by kernel_rfl) (by kernel_rfl) (by kernel_rfl) (by kernel_rfl) (Nat.le_of_ble_eq_true hn) h

/-- stevedore/stevedorerows.FindItem -/
def c39 : C :=
  (.seq (.reg [⟨some 2, .box, [.t 0], none⟩,
  ⟨some 4, .alloc [.v (.string ⟨#[]⟩), .v (.string ⟨#[]⟩), .v (.int .i64 0), .v (.string ⟨#[]⟩), .v (.int .i64 0), .v (.string ⟨#[]⟩), .v (.int .i64 0), .v (.string ⟨#[]⟩), .v (.int .i64 0), .v (.int .i64 0), .v (.int .i64 0), .v (.bool false), .v (.bool false), .v (.bool false)], [], none⟩,
  ⟨some 5, .mv, [.c (.p (.v (.bool false)))], none⟩])
 (.seq (.seq (.reg [⟨some 6, .mv, [.c (.p (.v (.int .i64 0)))], none⟩])
 (.block 0
 (.loop
 (.seq (.seq (.reg [⟨some 7, .mv, [.t 6], none⟩,
  ⟨some 8, .fad 0, [.t 2], none⟩,
  ⟨some 9, .load 1 false, [.t 8], none⟩,
  ⟨some 10, .len 0, [.t 9], none⟩,
  ⟨some 11, .bin .lss, [.t 7, .t 10], none⟩])
 (.cond (.t 11)
 .skip
 (.exit 0)))
 (.seq (.block 1
 (.seq (.reg [⟨some 14, .fad 0, [.t 2], none⟩,
  ⟨some 15, .load 1 false, [.t 14], none⟩,
  ⟨some 16, .mv, [.t 6], none⟩,
  ⟨some 17, .iad 14, [.t 15, .t 16], none⟩,
  ⟨some 18, .fad 0, [.t 17], none⟩,
  ⟨some 19, .load 1 false, [.t 18], none⟩,
  ⟨some 20, .mv, [.t 1], none⟩,
  ⟨some 21, .bin .eql, [.t 19, .t 20], none⟩])
 (.cond (.t 21)
 (.seq (.reg [⟨some 22, .fad 0, [.t 2], none⟩,
  ⟨some 23, .load 1 false, [.t 22], none⟩,
  ⟨some 24, .mv, [.t 6], none⟩,
  ⟨some 25, .iad 14, [.t 23, .t 24], none⟩,
  ⟨some 26, .load 14 true, [.t 25], none⟩,
  ⟨none, .store 14, [.t 4, .t 26], none⟩,
  ⟨some 5, .mv, [.c (.p (.v (.bool true)))], none⟩])
 .ret)
 .skip)))
 (.reg [⟨some 12, .mv, [.t 6], none⟩,
  ⟨some 13, .bin .add, [.t 12, .c (.p (.v (.int .i64 1)))], none⟩,
  ⟨some 6, .mv, [.t 13], none⟩]))))))
 (.seq (.reg [⟨some 27, .build [.v (.string ⟨#[]⟩), .v (.string ⟨#[]⟩), .v (.int .i64 0), .v (.string ⟨#[]⟩), .v (.int .i64 0), .v (.string ⟨#[]⟩), .v (.int .i64 0), .v (.string ⟨#[]⟩), .v (.int .i64 0), .v (.int .i64 0), .v (.int .i64 0), .v (.bool false), .v (.bool false), .v (.bool false)] [], [], none⟩,
  ⟨none, .store 14, [.t 4, .t 27], none⟩,
  ⟨some 5, .mv, [.c (.p (.v (.bool false)))], none⟩])
 .ret)))
theorem ret39 {ps : List PV} {p : PV} (hn : Nat.ble ps.length 28 = true) (h : (∀ q ∈ ps, q.bd) → Run Try.prog (fun e s' => (∀ id, e ≠ .exit id) ∧ ∃ ns, s'.out [.c 4 14 true, .t 5] = some (p, ns)) [] c39 (S (initL 0 ps) [])) : Ret Try.prog 39 ps p :=
  ret_run Try.func39 rfl (by kernel_rfl) rfl (by kernel_rfl) (by kernel_rfl) (by kernel_rfl) (by kernel_rfl) (Nat.le_of_ble_eq_true hn) h

/-- stevedore/lots.find -/
def c71 : C :=
  (.seq (.reg [⟨some 3, .box, [.t 0], none⟩,
  ⟨some 6, .alloc [.v (.string ⟨#[]⟩), .v (.string ⟨#[]⟩), .v (.int .i64 0)], [], none⟩,
  ⟨some 7, .mv, [.c (.p (.v (.bool false)))], none⟩])
 (.seq (.seq (.regd [⟨some 11, .call 111, [], none⟩,
  ⟨some 12, .fad 1, [.t 3], none⟩,
  ⟨some 13, .load 1 false, [.t 12], none⟩,
  ⟨some 14, .mv, [.t 1], none⟩,
  ⟨some 15, .mv, [.t 2], none⟩,
  ⟨some 16, .build [.v (.string ⟨#[]⟩), .v (.string ⟨#[]⟩), .v (.int .i64 0)] [(0, 1), (1, 1)], [.t 14, .t 15], none⟩,
  ⟨some 17, .call 130, [.t 11, .t 13, .t 16], none⟩,
  ⟨some 10, .mv, [.t 17], none⟩,
  ⟨some 18, .ext 0, [.t 10], none⟩,
  ⟨some 19, .ext 1, [.t 10], none⟩,
  ⟨some 8, .mv, [.t 18], none⟩,
  ⟨some 9, .mv, [.t 19], none⟩])
 (.seq (.reg [⟨some 20, .mv, [.t 9], none⟩])
 (.cond (.t 20)
 (.seq (.reg [⟨some 21, .fad 1, [.t 3], none⟩,
  ⟨some 22, .load 1 false, [.t 21], none⟩,
  ⟨some 23, .mv, [.t 8], none⟩,
  ⟨some 24, .iad 3, [.t 22, .t 23], none⟩,
  ⟨some 25, .load 3 true, [.t 24], none⟩,
  ⟨none, .store 3, [.t 6, .t 25], none⟩,
  ⟨some 7, .mv, [.c (.p (.v (.bool true)))], none⟩])
 .ret)
 .skip)))
 (.seq (.reg [⟨some 26, .build [.v (.string ⟨#[]⟩), .v (.string ⟨#[]⟩), .v (.int .i64 0)] [], [], none⟩,
  ⟨none, .store 3, [.t 6, .t 26], none⟩,
  ⟨some 7, .mv, [.c (.p (.v (.bool false)))], none⟩])
 .ret)))
theorem ret71 {ps : List PV} {p : PV} (hn : Nat.ble ps.length 27 = true) (h : (∀ q ∈ ps, q.bd) → Run Try.prog (fun e s' => (∀ id, e ≠ .exit id) ∧ ∃ ns, s'.out [.c 6 3 true, .t 7] = some (p, ns)) [] c71 (S (initL 0 ps) [])) : Ret Try.prog 71 ps p :=
  ret_run Try.func71 rfl (by kernel_rfl) rfl (by kernel_rfl) (by kernel_rfl) (by kernel_rfl) (by kernel_rfl) (Nat.le_of_ble_eq_true hn) h

/-- (stevedore/table.Table[stevedore/api.Item]).Find -/
def c91 : C :=
  (.seq (.reg [⟨some 3, .box, [.t 0], none⟩,
  ⟨some 5, .box, [.t 2], none⟩,
  ⟨some 6, .mv, [.c (.p (.v (.int .i64 0)))], none⟩,
  ⟨some 7, .mv, [.c (.p (.v (.bool false)))], none⟩])
 (.seq (.seq (.reg [⟨some 9, .mv, [.t 1], none⟩,
  ⟨some 10, .mkf 139, [.t 3, .t 5], none⟩,
  ⟨some 11, .call 134, [.t 9, .t 10], none⟩,
  ⟨some 8, .mv, [.t 11], none⟩])
 (.seq (.reg [⟨some 12, .mv, [.t 8], none⟩,
  ⟨some 13, .bin .geq, [.t 12, .c (.p (.v (.int .i64 0)))], none⟩])
 (.cond (.t 13)
 (.seq (.reg [⟨some 14, .mv, [.t 8], none⟩,
  ⟨some 6, .mv, [.t 14], none⟩,
  ⟨some 7, .mv, [.c (.p (.v (.bool true)))], none⟩])
 .ret)
 .skip)))
 (.seq (.reg [⟨some 6, .mv, [.c (.p (.v (.int .i64 0)))], none⟩,
  ⟨some 7, .mv, [.c (.p (.v (.bool false)))], none⟩])
 .ret)))
theorem ret91 {ps : List PV} {p : PV} (hn : Nat.ble ps.length 15 = true) (h : (∀ q ∈ ps, q.bd) → Run Try.prog (fun e s' => (∀ id, e ≠ .exit id) ∧ ∃ ns, s'.out [.t 6, .t 7] = some (p, ns)) [] c91 (S (initL 0 ps) [])) : Ret Try.prog 91 ps p :=
  ret_run Try.func91 rfl (by kernel_rfl) rfl (by kernel_rfl) (by kernel_rfl) (by kernel_rfl) (by kernel_rfl) (Nat.le_of_ble_eq_true hn) h

/-- cmp.Compare[string] -/
def c132 : C :=
  (.seq (.reg [⟨some 4, .mv, [.c (.p (.v (.int .i64 0)))], none⟩])
 (.seq (.reg [⟨some 7, .mv, [.t 0], none⟩,
  ⟨some 8, .call 167, [.t 7], none⟩,
  ⟨some 5, .mv, [.t 8], none⟩])
 (.seq (.reg [⟨some 9, .mv, [.t 1], none⟩,
  ⟨some 10, .call 167, [.t 9], none⟩,
  ⟨some 6, .mv, [.t 10], none⟩])
 (.seq (.seq (.reg [⟨some 11, .mv, [.t 5], none⟩])
 (.cond (.t 11)
 (.seq (.seq (.reg [⟨some 12, .mv, [.t 6], none⟩])
 (.cond (.t 12)
 (.seq (.reg [⟨some 4, .mv, [.c (.p (.v (.int .i64 0)))], none⟩])
 .ret)
 .skip))
 (.seq (.reg [⟨some 4, .mv, [.c (.p (.v (.int .i64 (-1))))], none⟩])
 .ret))
 .skip))
 (.seq (.seq (.reg [⟨some 13, .mv, [.t 6], none⟩])
 (.cond (.t 13)
 (.seq (.reg [⟨some 4, .mv, [.c (.p (.v (.int .i64 1)))], none⟩])
 .ret)
 .skip))
 (.seq (.seq (.reg [⟨some 14, .mv, [.t 0], none⟩,
  ⟨some 15, .mv, [.t 1], none⟩,
  ⟨some 16, .bin .lss, [.t 14, .t 15], none⟩])
 (.cond (.t 16)
 (.seq (.reg [⟨some 4, .mv, [.c (.p (.v (.int .i64 (-1))))], none⟩])
 .ret)
 .skip))
 (.seq (.seq (.reg [⟨some 17, .mv, [.t 0], none⟩,
  ⟨some 18, .mv, [.t 1], none⟩,
  ⟨some 19, .bin .gtr, [.t 17, .t 18], none⟩])
 (.cond (.t 19)
 (.seq (.reg [⟨some 4, .mv, [.c (.p (.v (.int .i64 1)))], none⟩])
 .ret)
 .skip))
 (.seq (.reg [⟨some 4, .mv, [.c (.p (.v (.int .i64 0)))], none⟩])
 .ret))))))))
theorem ret132 {ps : List PV} {p : PV} (hn : Nat.ble ps.length 20 = true) (h : (∀ q ∈ ps, q.bd) → Run Try.prog (fun e s' => (∀ id, e ≠ .exit id) ∧ ∃ ns, s'.out [.t 4] = some (p, ns)) [] c132 (S (initL 0 ps) [])) : Ret Try.prog 132 ps p :=
  ret_run Try.func132 rfl (by kernel_rfl) rfl (by kernel_rfl) (by kernel_rfl) (by kernel_rfl) (by kernel_rfl) (Nat.le_of_ble_eq_true hn) h

/-- slices.IndexFunc[[]stevedore/api.Item,stevedore/api.Item] -/
def c134 : C :=
  (.seq (.reg [⟨some 4, .mv, [.c (.p (.v (.int .i64 0)))], none⟩])
 (.seq (.seq (.reg [⟨some 6, .mv, [.t 0], none⟩,
  ⟨some 7, .len 0, [.t 6], none⟩,
  ⟨some 8, .mv, [.c (.p (.v (.int .i64 0)))], none⟩])
 (.block 0
 (.loop
 (.seq (.reg [⟨some 9, .bin .lss, [.t 8, .t 7], none⟩])
 (.seq (.cond (.t 9)
 .skip
 (.exit 0))
 (.seq (.block 1
 (.seq (.reg [⟨some 10, .mv, [.t 8], none⟩,
  ⟨some 5, .mv, [.t 10], none⟩])
 (.seq (.reg [⟨some 11, .mv, [.t 1], none⟩,
  ⟨some 12, .mv, [.t 0], none⟩,
  ⟨some 13, .mv, [.t 5], none⟩,
  ⟨some 14, .iad 14, [.t 12, .t 13], none⟩,
  ⟨some 15, .load 14 true, [.t 14], none⟩,
  ⟨some 16, .callv, [.t 11, .t 15], none⟩])
 (.cond (.t 16)
 (.seq (.reg [⟨some 17, .mv, [.t 5], none⟩,
  ⟨some 4, .mv, [.t 17], none⟩])
 .ret)
 .skip))))
 (.reg [⟨some 18, .bin .add, [.t 8, .c (.p (.v (.int .i64 1)))], none⟩,
  ⟨some 8, .mv, [.t 18], none⟩])))))))
 (.seq (.reg [⟨some 4, .mv, [.c (.p (.v (.int .i64 (-1))))], none⟩])
 .ret)))
theorem ret134 {ps : List PV} {p : PV} (hn : Nat.ble ps.length 19 = true) (h : (∀ q ∈ ps, q.bd) → Run Try.prog (fun e s' => (∀ id, e ≠ .exit id) ∧ ∃ ns, s'.out [.t 4] = some (p, ns)) [] c134 (S (initL 0 ps) [])) : Ret Try.prog 134 ps p :=
  ret_run Try.func134 rfl (by kernel_rfl) rfl (by kernel_rfl) (by kernel_rfl) (by kernel_rfl) (by kernel_rfl) (Nat.le_of_ble_eq_true hn) h

/-- cmp.isNaN[string] -/
def c167 : C :=
  (.seq (.reg [⟨some 2, .mv, [.c (.p (.v (.bool false)))], none⟩])
 (.seq (.reg [⟨some 3, .mv, [.t 0], none⟩,
  ⟨some 4, .mv, [.t 0], none⟩,
  ⟨some 5, .bin .neq, [.t 3, .t 4], none⟩,
  ⟨some 2, .mv, [.t 5], none⟩])
 .ret))
theorem ret167 {ps : List PV} {p : PV} (hn : Nat.ble ps.length 6 = true) (h : (∀ q ∈ ps, q.bd) → Run Try.prog (fun e s' => (∀ id, e ≠ .exit id) ∧ ∃ ns, s'.out [.t 2] = some (p, ns)) [] c167 (S (initL 0 ps) [])) : Ret Try.prog 167 ps p :=
  ret_run Try.func167 rfl (by kernel_rfl) rfl (by kernel_rfl) (by kernel_rfl) (by kernel_rfl) (by kernel_rfl) (Nat.le_of_ble_eq_true hn) h

/-- stevedore/stevedorerows.FindLot -/
def c72 : C :=
  (.seq (.reg [⟨some 3, .box, [.t 0], none⟩,
  ⟨some 6, .alloc [.v (.string ⟨#[]⟩), .v (.string ⟨#[]⟩), .v (.int .i64 0)], [], none⟩,
  ⟨some 7, .mv, [.c (.p (.v (.bool false)))], none⟩])
 (.seq (.seq (.reg [⟨some 8, .mv, [.c (.p (.v (.int .i64 0)))], none⟩])
 (.block 0
 (.loop
 (.seq (.seq (.reg [⟨some 9, .mv, [.t 8], none⟩,
  ⟨some 10, .fad 1, [.t 3], none⟩,
  ⟨some 11, .load 1 false, [.t 10], none⟩,
  ⟨some 12, .len 0, [.t 11], none⟩,
  ⟨some 13, .bin .lss, [.t 9, .t 12], none⟩])
 (.cond (.t 13)
 .skip
 (.exit 0)))
 (.seq (.block 1
 (.seq (.reg [⟨some 16, .fad 1, [.t 3], none⟩,
  ⟨some 17, .load 1 false, [.t 16], none⟩,
  ⟨some 18, .mv, [.t 8], none⟩,
  ⟨some 19, .iad 3, [.t 17, .t 18], none⟩,
  ⟨some 20, .fad 0, [.t 19], none⟩,
  ⟨some 21, .load 1 false, [.t 20], none⟩,
  ⟨some 22, .mv, [.t 1], none⟩,
  ⟨some 23, .bin .eql, [.t 21, .t 22], none⟩,
  ⟨some 24, .mv, [.t 23], none⟩,
  ⟨some 25, .fad 1, [.t 3], some (24, true)⟩,
  ⟨some 26, .load 1 false, [.t 25], some (24, true)⟩,
  ⟨some 27, .mv, [.t 8], some (24, true)⟩,
  ⟨some 28, .iad 3, [.t 26, .t 27], some (24, true)⟩,
  ⟨some 29, .fad 1, [.t 28], some (24, true)⟩,
  ⟨some 30, .load 1 false, [.t 29], some (24, true)⟩,
  ⟨some 31, .mv, [.t 2], some (24, true)⟩,
  ⟨some 32, .bin .eql, [.t 30, .t 31], some (24, true)⟩,
  ⟨some 33, .pick, [.t 24, .t 32, .c (.p (.v (.bool false)))], none⟩])
 (.cond (.t 33)
 (.seq (.reg [⟨some 34, .fad 1, [.t 3], none⟩,
  ⟨some 35, .load 1 false, [.t 34], none⟩,
  ⟨some 36, .mv, [.t 8], none⟩,
  ⟨some 37, .iad 3, [.t 35, .t 36], none⟩,
  ⟨some 38, .load 3 true, [.t 37], none⟩,
  ⟨none, .store 3, [.t 6, .t 38], none⟩,
  ⟨some 7, .mv, [.c (.p (.v (.bool true)))], none⟩])
 .ret)
 .skip)))
 (.reg [⟨some 14, .mv, [.t 8], none⟩,
  ⟨some 15, .bin .add, [.t 14, .c (.p (.v (.int .i64 1)))], none⟩,
  ⟨some 8, .mv, [.t 15], none⟩]))))))
 (.seq (.reg [⟨some 39, .build [.v (.string ⟨#[]⟩), .v (.string ⟨#[]⟩), .v (.int .i64 0)] [], [], none⟩,
  ⟨none, .store 3, [.t 6, .t 39], none⟩,
  ⟨some 7, .mv, [.c (.p (.v (.bool false)))], none⟩])
 .ret)))
theorem ret72 {ps : List PV} {p : PV} (hn : Nat.ble ps.length 40 = true) (h : (∀ q ∈ ps, q.bd) → Run Try.prog (fun e s' => (∀ id, e ≠ .exit id) ∧ ∃ ns, s'.out [.c 6 3 true, .t 7] = some (p, ns)) [] c72 (S (initL 0 ps) [])) : Ret Try.prog 72 ps p :=
  ret_run Try.func72 rfl (by kernel_rfl) rfl (by kernel_rfl) (by kernel_rfl) (by kernel_rfl) (by kernel_rfl) (Nat.le_of_ble_eq_true hn) h

/-- stevedore/stevedoreref09.Fits -/
def c33 : C :=
  (.seq (.reg [⟨some 4, .box, [.t 0], none⟩,
  ⟨some 8, .mv, [.c (.p (.v (.int .i64 0)))], none⟩])
 (.seq (.reg [⟨some 16, .load 15 true, [.t 4], none⟩,
  ⟨some 17, .mv, [.t 1], none⟩,
  ⟨some 18, .call 39, [.t 16, .t 17], none⟩,
  ⟨some 15, .mv, [.t 18], none⟩,
  ⟨some 19, .ext 0, [.t 15], none⟩,
  ⟨some 20, .ext 1, [.t 15], none⟩,
  ⟨some 9, .alloc [.v (.string ⟨#[]⟩), .v (.string ⟨#[]⟩), .v (.int .i64 0), .v (.string ⟨#[]⟩), .v (.int .i64 0), .v (.string ⟨#[]⟩), .v (.int .i64 0), .v (.string ⟨#[]⟩), .v (.int .i64 0), .v (.int .i64 0), .v (.int .i64 0), .v (.bool false), .v (.bool false), .v (.bool false)], [], none⟩,
  ⟨none, .store 14, [.t 9, .t 19], none⟩,
  ⟨some 10, .mv, [.t 20], none⟩])
 (.seq (.seq (.reg [⟨some 21, .mv, [.t 10], none⟩,
  ⟨some 22, .un .not, [.t 21], none⟩])
 (.cond (.t 22)
 (.seq (.reg [⟨some 8, .mv, [.c (.p (.v (.int .i64 12)))], none⟩])
 .ret)
 .skip))
 (.seq (.reg [⟨some 24, .load 15 true, [.t 4], none⟩,
  ⟨some 25, .mv, [.t 1], none⟩,
  ⟨some 26, .mv, [.t 2], none⟩,
  ⟨some 27, .call 72, [.t 24, .t 25, .t 26], none⟩,
  ⟨some 23, .mv, [.t 27], none⟩,
  ⟨some 28, .ext 0, [.t 23], none⟩,
  ⟨some 29, .ext 1, [.t 23], none⟩,
  ⟨some 11, .alloc [.v (.string ⟨#[]⟩), .v (.string ⟨#[]⟩), .v (.int .i64 0)], [], none⟩,
  ⟨none, .store 3, [.t 11, .t 28], none⟩,
  ⟨some 12, .mv, [.t 29], none⟩])
 (.seq (.seq (.reg [⟨some 30, .fad 11, [.t 9], none⟩,
  ⟨some 31, .load 1 false, [.t 30], none⟩,
  ⟨some 32, .mv, [.t 31], none⟩,
  ⟨some 33, .mv, [.t 12], some (32, true)⟩,
  ⟨some 34, .un .not, [.t 33], some (32, true)⟩,
  ⟨some 35, .pick, [.t 32, .t 34, .c (.p (.v (.bool false)))], none⟩,
  ⟨some 36, .mv, [.t 35], none⟩,
  ⟨some 37, .fad 11, [.t 9], some (36, false)⟩,
  ⟨some 38, .load 1 false, [.t 37], some (36, false)⟩,
  ⟨some 39, .un .not, [.t 38], some (36, false)⟩,
  ⟨some 40, .mv, [.t 39], some (36, false)⟩,
  ⟨some 41, .mv, [.t 2], some (40, true)⟩,
  ⟨some 42, .bin .neq, [.t 41, .c (.p (.v (.string ⟨#[]⟩)))], some (40, true)⟩,
  ⟨some 43, .pick, [.t 40, .t 42, .c (.p (.v (.bool false)))], some (36, false)⟩,
  ⟨some 44, .pick, [.t 36, .c (.p (.v (.bool true))), .t 43], none⟩])
 (.cond (.t 44)
 (.seq (.reg [⟨some 8, .mv, [.c (.p (.v (.int .i64 21)))], none⟩])
 .ret)
 .skip))
 (.seq (.seq (.reg [⟨some 45, .fad 12, [.t 9], none⟩,
  ⟨some 46, .load 1 false, [.t 45], none⟩])
 (.cond (.t 46)
 (.seq (.reg [⟨some 47, .mv, [.t 3], none⟩,
  ⟨some 13, .mv, [.t 47], none⟩])
 (.seq (.seq (.reg [⟨some 14, .mv, [.c (.p (.v (.int .i64 0)))], none⟩])
 (.block 0
 (.loop
 (.seq (.seq (.reg [⟨some 48, .mv, [.t 14], none⟩,
  ⟨some 49, .fad 4, [.t 4], none⟩,
  ⟨some 50, .load 1 false, [.t 49], none⟩,
  ⟨some 51, .len 0, [.t 50], none⟩,
  ⟨some 52, .bin .lss, [.t 48, .t 51], none⟩])
 (.cond (.t 52)
 .skip
 (.exit 0)))
 (.seq (.block 1
 (.seq (.reg [⟨some 55, .fad 4, [.t 4], none⟩,
  ⟨some 56, .load 1 false, [.t 55], none⟩,
  ⟨some 57, .mv, [.t 14], none⟩,
  ⟨some 58, .iad 6, [.t 56, .t 57], none⟩,
  ⟨some 59, .fad 0, [.t 58], none⟩,
  ⟨some 60, .fad 1, [.t 59], none⟩,
  ⟨some 61, .load 1 false, [.t 60], none⟩,
  ⟨some 62, .mv, [.t 1], none⟩,
  ⟨some 63, .bin .eql, [.t 61, .t 62], none⟩,
  ⟨some 64, .mv, [.t 63], none⟩,
  ⟨some 65, .fad 4, [.t 4], some (64, true)⟩,
  ⟨some 66, .load 1 false, [.t 65], some (64, true)⟩,
  ⟨some 67, .mv, [.t 14], some (64, true)⟩,
  ⟨some 68, .iad 6, [.t 66, .t 67], some (64, true)⟩,
  ⟨some 69, .fad 0, [.t 68], some (64, true)⟩,
  ⟨some 70, .fad 2, [.t 69], some (64, true)⟩,
  ⟨some 71, .load 1 false, [.t 70], some (64, true)⟩,
  ⟨some 72, .mv, [.t 2], some (64, true)⟩,
  ⟨some 73, .bin .eql, [.t 71, .t 72], some (64, true)⟩,
  ⟨some 74, .pick, [.t 64, .t 73, .c (.p (.v (.bool false)))], none⟩])
 (.cond (.t 74)
 (.reg [⟨some 75, .mv, [.t 13], none⟩,
  ⟨some 76, .fad 4, [.t 4], none⟩,
  ⟨some 77, .load 1 false, [.t 76], none⟩,
  ⟨some 78, .mv, [.t 14], none⟩,
  ⟨some 79, .iad 6, [.t 77, .t 78], none⟩,
  ⟨some 80, .fad 4, [.t 79], none⟩,
  ⟨some 81, .load 1 false, [.t 80], none⟩,
  ⟨some 82, .bin .add, [.t 75, .t 81], none⟩,
  ⟨some 13, .mv, [.t 82], none⟩])
 .skip)))
 (.reg [⟨some 53, .mv, [.t 14], none⟩,
  ⟨some 54, .bin .add, [.t 53, .c (.p (.v (.int .i64 1)))], none⟩,
  ⟨some 14, .mv, [.t 54], none⟩]))))))
 (.seq (.reg [⟨some 83, .mv, [.t 13], none⟩,
  ⟨some 84, .bin .gtr, [.t 83, .c (.p (.v (.int .i64 1)))], none⟩])
 (.cond (.t 84)
 (.seq (.reg [⟨some 8, .mv, [.c (.p (.v (.int .i64 22)))], none⟩])
 .ret)
 .skip))))
 .skip))
 (.seq (.reg [⟨some 8, .mv, [.c (.p (.v (.int .i64 0)))], none⟩])
 .ret)))))))
theorem ret33 {ps : List PV} {p : PV} (hn : Nat.ble ps.length 85 = true) (h : (∀ q ∈ ps, q.bd) → Run Try.prog (fun e s' => (∀ id, e ≠ .exit id) ∧ ∃ ns, s'.out [.t 8] = some (p, ns)) [] c33 (S (initL 0 ps) [])) : Ret Try.prog 33 ps p :=
  ret_run Try.func33 rfl (by kernel_rfl) rfl (by kernel_rfl) (by kernel_rfl) (by kernel_rfl) (by kernel_rfl) (Nat.le_of_ble_eq_true hn) h

/-- stevedore/stevedoreref09.Day -/
def c32 : C :=
  (.seq (.reg [⟨some 3, .box, [.t 0], none⟩,
  ⟨some 6, .mv, [.c (.p (.v (.int .i64 0)))], none⟩])
 (.seq (.reg [⟨some 10, .load 15 true, [.t 3], none⟩,
  ⟨some 11, .mv, [.t 1], none⟩,
  ⟨some 12, .mv, [.t 2], none⟩,
  ⟨some 13, .call 72, [.t 10, .t 11, .t 12], none⟩,
  ⟨some 9, .mv, [.t 13], none⟩,
  ⟨some 14, .ext 0, [.t 9], none⟩,
  ⟨some 15, .ext 1, [.t 9], none⟩,
  ⟨some 7, .alloc [.v (.string ⟨#[]⟩), .v (.string ⟨#[]⟩), .v (.int .i64 0)], [], none⟩,
  ⟨none, .store 3, [.t 7, .t 14], none⟩,
  ⟨some 8, .mv, [.t 15], none⟩])
 (.seq (.seq (.reg [⟨some 16, .fad 2, [.t 7], none⟩,
  ⟨some 17, .load 1 false, [.t 16], none⟩,
  ⟨some 18, .bin .eql, [.t 17, .c (.p (.v (.int .i64 0)))], none⟩])
 (.cond (.t 18)
 (.seq (.reg [⟨some 6, .mv, [.c (.p (.v (.int .i64 100001)))], none⟩])
 .ret)
 .skip))
 (.seq (.reg [⟨some 19, .fad 2, [.t 7], none⟩,
  ⟨some 20, .load 1 false, [.t 19], none⟩,
  ⟨some 6, .mv, [.t 20], none⟩])
 .ret))))
theorem ret32 {ps : List PV} {p : PV} (hn : Nat.ble ps.length 21 = true) (h : (∀ q ∈ ps, q.bd) → Run Try.prog (fun e s' => (∀ id, e ≠ .exit id) ∧ ∃ ns, s'.out [.t 6] = some (p, ns)) [] c32 (S (initL 0 ps) [])) : Ret Try.prog 32 ps p :=
  ret_run Try.func32 rfl (by kernel_rfl) rfl (by kernel_rfl) (by kernel_rfl) (by kernel_rfl) (by kernel_rfl) (Nat.le_of_ble_eq_true hn) h

/-- stevedore/stevedorelaw09.awake -/
def c29 : C :=
  (.seq (.reg [⟨some 0, .mv, [.c (.p (.v (.bool false)))], none⟩])
 (.seq (.reg [⟨some 2, .call 70, [], none⟩,
  ⟨some 1, .alloc [.sl [] [], .sl [] [], .sl [] [], .sl [] [], .sl [] [], .sl [] [], .sl [] [], .sl [] [], .sl [] [], .sl [] [], .sl [] [], .sl [] [], .sl [] [], .sl [] [], .v (.int .i64 0)], [], none⟩,
  ⟨none, .store 15, [.t 1, .t 2], none⟩])
 (.seq (.reg [⟨some 3, .load 15 true, [.t 1], none⟩,
  ⟨some 4, .call 30, [.t 3, .c (.p (.v (.string ⟨#[110, 117, 116]⟩))), .c (.p (.v (.string ⟨#[97]⟩))), .c (.p (.v (.int .i64 5)))], none⟩,
  ⟨some 5, .bin .eql, [.t 4, .c (.p (.v (.int .i64 0)))], none⟩,
  ⟨some 6, .mv, [.t 5], none⟩,
  ⟨some 7, .load 15 true, [.t 1], some (6, true)⟩,
  ⟨some 8, .call 30, [.t 7, .c (.p (.v (.string ⟨#[110, 117, 116]⟩))), .c (.p (.v (.string ⟨#[98]⟩))), .c (.p (.v (.int .i64 5)))], some (6, true)⟩,
  ⟨some 9, .bin .eql, [.t 8, .c (.p (.v (.int .i64 21)))], some (6, true)⟩,
  ⟨some 10, .pick, [.t 6, .t 9, .c (.p (.v (.bool false)))], none⟩,
  ⟨some 11, .mv, [.t 10], none⟩,
  ⟨some 12, .load 15 true, [.t 1], some (11, true)⟩,
  ⟨some 13, .call 30, [.t 12, .c (.p (.v (.string ⟨#[110, 117, 116]⟩))), .c (.p (.v (.string ⟨#[]⟩))), .c (.p (.v (.int .i64 5)))], some (11, true)⟩,
  ⟨some 14, .bin .eql, [.t 13, .c (.p (.v (.int .i64 21)))], some (11, true)⟩,
  ⟨some 15, .pick, [.t 11, .t 14, .c (.p (.v (.bool false)))], none⟩,
  ⟨some 16, .mv, [.t 15], none⟩,
  ⟨some 17, .load 15 true, [.t 1], some (16, true)⟩,
  ⟨some 18, .call 31, [.t 17, .c (.p (.v (.string ⟨#[110, 117, 116]⟩))), .c (.p (.v (.string ⟨#[97]⟩)))], some (16, true)⟩,
  ⟨some 19, .bin .eql, [.t 18, .c (.p (.v (.int .i64 30)))], some (16, true)⟩,
  ⟨some 20, .pick, [.t 16, .t 19, .c (.p (.v (.bool false)))], none⟩,
  ⟨some 21, .mv, [.t 20], none⟩,
  ⟨some 22, .load 15 true, [.t 1], some (21, true)⟩,
  ⟨some 23, .call 31, [.t 22, .c (.p (.v (.string ⟨#[110, 117, 116]⟩))), .c (.p (.v (.string ⟨#[98]⟩)))], some (21, true)⟩,
  ⟨some 24, .bin .eql, [.t 23, .c (.p (.v (.int .i64 100001)))], some (21, true)⟩,
  ⟨some 25, .pick, [.t 21, .t 24, .c (.p (.v (.bool false)))], none⟩,
  ⟨some 0, .mv, [.t 25], none⟩])
 .ret)))
theorem ret29 {ps : List PV} {p : PV} (hn : Nat.ble ps.length 26 = true) (h : (∀ q ∈ ps, q.bd) → Run Try.prog (fun e s' => (∀ id, e ≠ .exit id) ∧ ∃ ns, s'.out [.t 0] = some (p, ns)) [] c29 (S (initL 0 ps) [])) : Ret Try.prog 29 ps p :=
  ret_run Try.func29 rfl (by kernel_rfl) rfl (by kernel_rfl) (by kernel_rfl) (by kernel_rfl) (by kernel_rfl) (Nat.le_of_ble_eq_true hn) h

/-- stevedore/stevedorelaw09.small -/
def c70 : C :=
  (.seq (.reg [⟨some 0, .alloc [.sl [] [], .sl [] [], .sl [] [], .sl [] [], .sl [] [], .sl [] [], .sl [] [], .sl [] [], .sl [] [], .sl [] [], .sl [] [], .sl [] [], .sl [] [], .sl [] [], .v (.int .i64 0)], [], none⟩])
 (.seq (.reg [⟨some 1, .build [.v (.string ⟨#[]⟩), .v (.string ⟨#[]⟩), .v (.int .i64 0), .v (.string ⟨#[]⟩), .v (.int .i64 0), .v (.string ⟨#[]⟩), .v (.int .i64 0), .v (.string ⟨#[]⟩), .v (.int .i64 0), .v (.int .i64 0), .v (.int .i64 0), .v (.bool false), .v (.bool false), .v (.bool false)] [(0, 1), (11, 1)], [.c (.p (.v (.string ⟨#[110, 117, 116]⟩))), .c (.p (.v (.bool true)))], none⟩,
  ⟨some 2, .bsl 46 14 1 [.v (.string ⟨#[]⟩), .v (.string ⟨#[]⟩), .v (.int .i64 0), .v (.string ⟨#[]⟩), .v (.int .i64 0), .v (.string ⟨#[]⟩), .v (.int .i64 0), .v (.string ⟨#[]⟩), .v (.int .i64 0), .v (.int .i64 0), .v (.int .i64 0), .v (.bool false), .v (.bool false), .v (.bool false)] [0], [.t 1], none⟩,
  ⟨some 3, .build [.v (.string ⟨#[]⟩), .v (.string ⟨#[]⟩), .v (.int .i64 0)] [(0, 1), (1, 1), (2, 1)], [.c (.p (.v (.string ⟨#[110, 117, 116]⟩))), .c (.p (.v (.string ⟨#[97]⟩))), .c (.p (.v (.int .i64 30)))], none⟩,
  ⟨some 4, .bsl 54 3 1 [.v (.string ⟨#[]⟩), .v (.string ⟨#[]⟩), .v (.int .i64 0)] [0], [.t 3], none⟩,
  ⟨some 5, .build [.sl [] [], .sl [] [], .sl [] [], .sl [] [], .sl [] [], .sl [] [], .sl [] [], .sl [] [], .sl [] [], .sl [] [], .sl [] [], .sl [] [], .sl [] [], .sl [] [], .v (.int .i64 0)] [(0, 1), (1, 1)], [.t 2, .t 4], none⟩,
  ⟨none, .store 15, [.t 0, .t 5], none⟩])
 .ret))
theorem ret70 {ps : List PV} {p : PV} (hn : Nat.ble ps.length 6 = true) (h : (∀ q ∈ ps, q.bd) → Run Try.prog (fun e s' => (∀ id, e ≠ .exit id) ∧ ∃ ns, s'.out [.c 0 15 true] = some (p, ns)) [] c70 (S (initL 0 ps) [])) : Ret Try.prog 70 ps p :=
  ret_run Try.func70 rfl (by kernel_rfl) rfl (by kernel_rfl) (by kernel_rfl) (by kernel_rfl) (by kernel_rfl) (Nat.le_of_ble_eq_true hn) h

/-- stevedore/rows.Items -/
def c88 : C :=
  (.seq (.reg [⟨some 0, .alloc [.v (.nilFunc)], [], none⟩])
 (.seq (.reg [⟨some 1, .build [.v (.nilFunc)] [(0, 1)], [.c (.p (.clo 131 []))], none⟩,
  ⟨none, .store 1, [.t 0, .t 1], none⟩])
 .ret))
theorem ret88 {ps : List PV} {p : PV} (hn : Nat.ble ps.length 2 = true) (h : (∀ q ∈ ps, q.bd) → Run Try.prog (fun e s' => (∀ id, e ≠ .exit id) ∧ ∃ ns, s'.out [.c 0 1 true] = some (p, ns)) [] c88 (S (initL 0 ps) [])) : Ret Try.prog 88 ps p :=
  ret_run Try.func88 rfl (by kernel_rfl) rfl (by kernel_rfl) (by kernel_rfl) (by kernel_rfl) (by kernel_rfl) (Nat.le_of_ble_eq_true hn) h

/-- stevedore/rows.Lots -/
def c111 : C :=
  (.seq (.reg [⟨some 0, .alloc [.v (.nilFunc)], [], none⟩])
 (.seq (.reg [⟨some 1, .build [.v (.nilFunc)] [(0, 1)], [.c (.p (.clo 140 []))], none⟩,
  ⟨none, .store 1, [.t 0, .t 1], none⟩])
 .ret))
theorem ret111 {ps : List PV} {p : PV} (hn : Nat.ble ps.length 2 = true) (h : (∀ q ∈ ps, q.bd) → Run Try.prog (fun e s' => (∀ id, e ≠ .exit id) ∧ ∃ ns, s'.out [.c 0 1 true] = some (p, ns)) [] c111 (S (initL 0 ps) [])) : Ret Try.prog 111 ps p :=
  ret_run Try.func111 rfl (by kernel_rfl) rfl (by kernel_rfl) (by kernel_rfl) (by kernel_rfl) (by kernel_rfl) (Nat.le_of_ble_eq_true hn) h

/-- stevedore/rows.Items$1 -/
def c131 : C :=
  (.seq (.reg [⟨some 2, .box, [.t 0], none⟩,
  ⟨some 3, .box, [.t 1], none⟩,
  ⟨some 4, .mv, [.c (.p (.v (.int .i64 0)))], none⟩])
 (.seq (.reg [⟨some 5, .fad 0, [.t 2], none⟩,
  ⟨some 6, .load 1 false, [.t 5], none⟩,
  ⟨some 7, .fad 0, [.t 3], none⟩,
  ⟨some 8, .load 1 false, [.t 7], none⟩,
  ⟨some 9, .call 132, [.t 6, .t 8], none⟩,
  ⟨some 4, .mv, [.t 9], none⟩])
 .ret))
theorem ret131 {ps : List PV} {p : PV} (hn : Nat.ble ps.length 10 = true) (h : (∀ q ∈ ps, q.bd) → Run Try.prog (fun e s' => (∀ id, e ≠ .exit id) ∧ ∃ ns, s'.out [.t 4] = some (p, ns)) [] c131 (S (initL 0 ps) [])) : Ret Try.prog 131 ps p :=
  ret_run Try.func131 rfl (by kernel_rfl) rfl (by kernel_rfl) (by kernel_rfl) (by kernel_rfl) (by kernel_rfl) (Nat.le_of_ble_eq_true hn) h

/-- stevedore/rows.Lots$1 -/
def c140 : C :=
  (.seq (.reg [⟨some 2, .box, [.t 0], none⟩,
  ⟨some 3, .box, [.t 1], none⟩,
  ⟨some 4, .mv, [.c (.p (.v (.int .i64 0)))], none⟩])
 (.seq (.regd [⟨some 5, .fad 0, [.t 2], none⟩,
  ⟨some 6, .load 1 false, [.t 5], none⟩,
  ⟨some 7, .fad 0, [.t 3], none⟩,
  ⟨some 8, .load 1 false, [.t 7], none⟩,
  ⟨some 9, .call 132, [.t 6, .t 8], none⟩,
  ⟨some 10, .fad 1, [.t 2], none⟩,
  ⟨some 11, .load 1 false, [.t 10], none⟩,
  ⟨some 12, .fad 1, [.t 3], none⟩,
  ⟨some 13, .load 1 false, [.t 12], none⟩,
  ⟨some 14, .call 132, [.t 11, .t 13], none⟩,
  ⟨some 15, .bsl 3 1 2 [.v (.int .i64 0)] [0, 1], [.t 9, .t 14], none⟩,
  ⟨some 16, .call 141, [.t 15], none⟩,
  ⟨some 4, .mv, [.t 16], none⟩])
 .ret))
theorem ret140 {ps : List PV} {p : PV} (hn : Nat.ble ps.length 17 = true) (h : (∀ q ∈ ps, q.bd) → Run Try.prog (fun e s' => (∀ id, e ≠ .exit id) ∧ ∃ ns, s'.out [.t 4] = some (p, ns)) [] c140 (S (initL 0 ps) [])) : Ret Try.prog 140 ps p :=
  ret_run Try.func140 rfl (by kernel_rfl) rfl (by kernel_rfl) (by kernel_rfl) (by kernel_rfl) (by kernel_rfl) (Nat.le_of_ble_eq_true hn) h

/-- cmp.Or[int] -/
def c141 : C :=
  (.seq (.reg [⟨some 2, .mv, [.c (.p (.v (.int .i64 0)))], none⟩])
 (.seq (.reg [⟨some 3, .mv, [.c (.p (.v (.int .i64 0)))], none⟩])
 (.seq (.seq (.reg [⟨some 6, .mv, [.t 0], none⟩,
  ⟨some 7, .len 0, [.t 6], none⟩,
  ⟨some 8, .mv, [.c (.p (.v (.int .i64 0)))], none⟩])
 (.block 0
 (.loop
 (.seq (.reg [⟨some 9, .bin .lss, [.t 8, .t 7], none⟩])
 (.seq (.cond (.t 9)
 .skip
 (.exit 0))
 (.seq (.block 1
 (.seq (.reg [⟨some 10, .iad 1, [.t 6, .t 8], none⟩,
  ⟨some 11, .load 1 false, [.t 10], none⟩,
  ⟨some 5, .mv, [.t 11], none⟩])
 (.seq (.reg [⟨some 12, .mv, [.t 5], none⟩,
  ⟨some 13, .mv, [.t 3], none⟩,
  ⟨some 14, .bin .neq, [.t 12, .t 13], none⟩])
 (.cond (.t 14)
 (.seq (.reg [⟨some 15, .mv, [.t 5], none⟩,
  ⟨some 2, .mv, [.t 15], none⟩])
 .ret)
 .skip))))
 (.reg [⟨some 16, .bin .add, [.t 8, .c (.p (.v (.int .i64 1)))], none⟩,
  ⟨some 8, .mv, [.t 16], none⟩])))))))
 (.seq (.reg [⟨some 17, .mv, [.t 3], none⟩,
  ⟨some 2, .mv, [.t 17], none⟩])
 .ret))))
theorem ret141 {ps : List PV} {p : PV} (hn : Nat.ble ps.length 18 = true) (h : (∀ q ∈ ps, q.bd) → Run Try.prog (fun e s' => (∀ id, e ≠ .exit id) ∧ ∃ ns, s'.out [.t 2] = some (p, ns)) [] c141 (S (initL 0 ps) [])) : Ret Try.prog 141 ps p :=
  ret_run Try.func141 rfl (by kernel_rfl) rfl (by kernel_rfl) (by kernel_rfl) (by kernel_rfl) (by kernel_rfl) (Nat.le_of_ble_eq_true hn) h

/-- (stevedore/table.Table[stevedore/api.Lot]).Find -/
def c130 : C :=
  (.seq (.reg [⟨some 3, .box, [.t 0], none⟩,
  ⟨some 5, .box, [.t 2], none⟩,
  ⟨some 6, .mv, [.c (.p (.v (.int .i64 0)))], none⟩,
  ⟨some 7, .mv, [.c (.p (.v (.bool false)))], none⟩])
 (.seq (.seq (.reg [⟨some 9, .mv, [.t 1], none⟩,
  ⟨some 10, .mkf 166, [.t 3, .t 5], none⟩,
  ⟨some 11, .call 143, [.t 9, .t 10], none⟩,
  ⟨some 8, .mv, [.t 11], none⟩])
 (.seq (.reg [⟨some 12, .mv, [.t 8], none⟩,
  ⟨some 13, .bin .geq, [.t 12, .c (.p (.v (.int .i64 0)))], none⟩])
 (.cond (.t 13)
 (.seq (.reg [⟨some 14, .mv, [.t 8], none⟩,
  ⟨some 6, .mv, [.t 14], none⟩,
  ⟨some 7, .mv, [.c (.p (.v (.bool true)))], none⟩])
 .ret)
 .skip)))
 (.seq (.reg [⟨some 6, .mv, [.c (.p (.v (.int .i64 0)))], none⟩,
  ⟨some 7, .mv, [.c (.p (.v (.bool false)))], none⟩])
 .ret)))
theorem ret130 {ps : List PV} {p : PV} (hn : Nat.ble ps.length 15 = true) (h : (∀ q ∈ ps, q.bd) → Run Try.prog (fun e s' => (∀ id, e ≠ .exit id) ∧ ∃ ns, s'.out [.t 6, .t 7] = some (p, ns)) [] c130 (S (initL 0 ps) [])) : Ret Try.prog 130 ps p :=
  ret_run Try.func130 rfl (by kernel_rfl) rfl (by kernel_rfl) (by kernel_rfl) (by kernel_rfl) (by kernel_rfl) (Nat.le_of_ble_eq_true hn) h

/-- slices.IndexFunc[[]stevedore/api.Lot,stevedore/api.Lot] -/
def c143 : C :=
  (.seq (.reg [⟨some 4, .mv, [.c (.p (.v (.int .i64 0)))], none⟩])
 (.seq (.seq (.reg [⟨some 6, .mv, [.t 0], none⟩,
  ⟨some 7, .len 0, [.t 6], none⟩,
  ⟨some 8, .mv, [.c (.p (.v (.int .i64 0)))], none⟩])
 (.block 0
 (.loop
 (.seq (.reg [⟨some 9, .bin .lss, [.t 8, .t 7], none⟩])
 (.seq (.cond (.t 9)
 .skip
 (.exit 0))
 (.seq (.block 1
 (.seq (.reg [⟨some 10, .mv, [.t 8], none⟩,
  ⟨some 5, .mv, [.t 10], none⟩])
 (.seq (.reg [⟨some 11, .mv, [.t 1], none⟩,
  ⟨some 12, .mv, [.t 0], none⟩,
  ⟨some 13, .mv, [.t 5], none⟩,
  ⟨some 14, .iad 3, [.t 12, .t 13], none⟩,
  ⟨some 15, .load 3 true, [.t 14], none⟩,
  ⟨some 16, .callv, [.t 11, .t 15], none⟩])
 (.cond (.t 16)
 (.seq (.reg [⟨some 17, .mv, [.t 5], none⟩,
  ⟨some 4, .mv, [.t 17], none⟩])
 .ret)
 .skip))))
 (.reg [⟨some 18, .bin .add, [.t 8, .c (.p (.v (.int .i64 1)))], none⟩,
  ⟨some 8, .mv, [.t 18], none⟩])))))))
 (.seq (.reg [⟨some 4, .mv, [.c (.p (.v (.int .i64 (-1))))], none⟩])
 .ret)))
theorem ret143 {ps : List PV} {p : PV} (hn : Nat.ble ps.length 19 = true) (h : (∀ q ∈ ps, q.bd) → Run Try.prog (fun e s' => (∀ id, e ≠ .exit id) ∧ ∃ ns, s'.out [.t 4] = some (p, ns)) [] c143 (S (initL 0 ps) [])) : Ret Try.prog 143 ps p :=
  ret_run Try.func143 rfl (by kernel_rfl) rfl (by kernel_rfl) (by kernel_rfl) (by kernel_rfl) (by kernel_rfl) (Nat.le_of_ble_eq_true hn) h

/-- (stevedore/table.Table[stevedore/api.Lot]).Find$1 -/
def c166 : C :=
  (.seq (.reg [⟨some 3, .box, [.t 0], none⟩,
  ⟨some 4, .mv, [.c (.p (.v (.bool false)))], none⟩])
 (.seq (.reg [⟨some 5, .fad 0, [.t 1], none⟩,
  ⟨some 6, .load 1 false, [.t 5], none⟩,
  ⟨some 7, .load 3 true, [.t 3], none⟩,
  ⟨some 8, .load 3 true, [.t 2], none⟩,
  ⟨some 9, .callv, [.t 6, .t 7, .t 8], none⟩,
  ⟨some 10, .bin .eql, [.t 9, .c (.p (.v (.int .i64 0)))], none⟩,
  ⟨some 4, .mv, [.t 10], none⟩])
 .ret))
theorem ret166 {ps : List PV} {p : PV} (hn : Nat.ble ps.length 11 = true) (h : (∀ q ∈ ps, q.bd) → Run Try.prog (fun e s' => (∀ id, e ≠ .exit id) ∧ ∃ ns, s'.out [.t 4] = some (p, ns)) [] c166 (S (initL 0 ps) [])) : Ret Try.prog 166 ps p :=
  ret_run Try.func166 rfl (by kernel_rfl) rfl (by kernel_rfl) (by kernel_rfl) (by kernel_rfl) (by kernel_rfl) (Nat.le_of_ble_eq_true hn) h

/-- (stevedore/table.Table[stevedore/api.Item]).Find$1 -/
def c139 : C :=
  (.seq (.reg [⟨some 3, .box, [.t 0], none⟩,
  ⟨some 4, .mv, [.c (.p (.v (.bool false)))], none⟩])
 (.seq (.reg [⟨some 5, .fad 0, [.t 1], none⟩,
  ⟨some 6, .load 1 false, [.t 5], none⟩,
  ⟨some 7, .load 14 true, [.t 3], none⟩,
  ⟨some 8, .load 14 true, [.t 2], none⟩,
  ⟨some 9, .callv, [.t 6, .t 7, .t 8], none⟩,
  ⟨some 10, .bin .eql, [.t 9, .c (.p (.v (.int .i64 0)))], none⟩,
  ⟨some 4, .mv, [.t 10], none⟩])
 .ret))
theorem ret139 {ps : List PV} {p : PV} (hn : Nat.ble ps.length 11 = true) (h : (∀ q ∈ ps, q.bd) → Run Try.prog (fun e s' => (∀ id, e ≠ .exit id) ∧ ∃ ns, s'.out [.t 4] = some (p, ns)) [] c139 (S (initL 0 ps) [])) : Ret Try.prog 139 ps p :=
  ret_run Try.func139 rfl (by kernel_rfl) rfl (by kernel_rfl) (by kernel_rfl) (by kernel_rfl) (by kernel_rfl) (Nat.le_of_ble_eq_true hn) h

/-- stevedore/stevedorekeep.Same -/
def c40 : C :=
  (.seq (.reg [⟨some 2, .box, [.t 0], none⟩,
  ⟨some 3, .box, [.t 1], none⟩,
  ⟨some 4, .mv, [.c (.p (.v (.bool false)))], none⟩])
 (.seq (.reg [⟨some 5, .fad 0, [.t 2], none⟩,
  ⟨some 6, .load 1 false, [.t 5], none⟩,
  ⟨some 7, .fad 0, [.t 3], none⟩,
  ⟨some 8, .load 1 false, [.t 7], none⟩,
  ⟨some 9, .call 92, [.t 6, .t 8], none⟩,
  ⟨some 10, .mv, [.t 9], none⟩,
  ⟨some 11, .fad 1, [.t 2], some (10, true)⟩,
  ⟨some 12, .load 1 false, [.t 11], some (10, true)⟩,
  ⟨some 13, .fad 1, [.t 3], some (10, true)⟩,
  ⟨some 14, .load 1 false, [.t 13], some (10, true)⟩,
  ⟨some 15, .call 93, [.t 12, .t 14], some (10, true)⟩,
  ⟨some 16, .pick, [.t 10, .t 15, .c (.p (.v (.bool false)))], none⟩,
  ⟨some 17, .mv, [.t 16], none⟩,
  ⟨some 18, .fad 2, [.t 2], some (17, true)⟩,
  ⟨some 19, .load 1 false, [.t 18], some (17, true)⟩,
  ⟨some 20, .fad 2, [.t 3], some (17, true)⟩,
  ⟨some 21, .load 1 false, [.t 20], some (17, true)⟩,
  ⟨some 22, .call 94, [.t 19, .t 21], some (17, true)⟩,
  ⟨some 23, .pick, [.t 17, .t 22, .c (.p (.v (.bool false)))], none⟩,
  ⟨some 24, .mv, [.t 23], none⟩,
  ⟨some 25, .fad 3, [.t 2], some (24, true)⟩,
  ⟨some 26, .load 1 false, [.t 25], some (24, true)⟩,
  ⟨some 27, .fad 3, [.t 3], some (24, true)⟩,
  ⟨some 28, .load 1 false, [.t 27], some (24, true)⟩,
  ⟨some 29, .call 95, [.t 26, .t 28], some (24, true)⟩,
  ⟨some 30, .pick, [.t 24, .t 29, .c (.p (.v (.bool false)))], none⟩,
  ⟨some 31, .mv, [.t 30], none⟩,
  ⟨some 32, .fad 4, [.t 2], some (31, true)⟩,
  ⟨some 33, .load 1 false, [.t 32], some (31, true)⟩,
  ⟨some 34, .fad 4, [.t 3], some (31, true)⟩,
  ⟨some 35, .load 1 false, [.t 34], some (31, true)⟩,
  ⟨some 36, .call 96, [.t 33, .t 35], some (31, true)⟩,
  ⟨some 37, .pick, [.t 31, .t 36, .c (.p (.v (.bool false)))], none⟩,
  ⟨some 38, .mv, [.t 37], none⟩,
  ⟨some 39, .fad 5, [.t 2], some (38, true)⟩,
  ⟨some 40, .load 1 false, [.t 39], some (38, true)⟩,
  ⟨some 41, .fad 5, [.t 3], some (38, true)⟩,
  ⟨some 42, .load 1 false, [.t 41], some (38, true)⟩,
  ⟨some 43, .call 97, [.t 40, .t 42], some (38, true)⟩,
  ⟨some 44, .pick, [.t 38, .t 43, .c (.p (.v (.bool false)))], none⟩,
  ⟨some 45, .mv, [.t 44], none⟩,
  ⟨some 46, .fad 6, [.t 2], some (45, true)⟩,
  ⟨some 47, .load 1 false, [.t 46], some (45, true)⟩,
  ⟨some 48, .fad 6, [.t 3], some (45, true)⟩,
  ⟨some 49, .load 1 false, [.t 48], some (45, true)⟩,
  ⟨some 50, .call 98, [.t 47, .t 49], some (45, true)⟩,
  ⟨some 51, .pick, [.t 45, .t 50, .c (.p (.v (.bool false)))], none⟩,
  ⟨some 52, .mv, [.t 51], none⟩,
  ⟨some 53, .fad 7, [.t 2], some (52, true)⟩,
  ⟨some 54, .load 1 false, [.t 53], some (52, true)⟩,
  ⟨some 55, .fad 7, [.t 3], some (52, true)⟩,
  ⟨some 56, .load 1 false, [.t 55], some (52, true)⟩,
  ⟨some 57, .call 99, [.t 54, .t 56], some (52, true)⟩,
  ⟨some 58, .pick, [.t 52, .t 57, .c (.p (.v (.bool false)))], none⟩,
  ⟨some 59, .mv, [.t 58], none⟩,
  ⟨some 60, .fad 8, [.t 2], some (59, true)⟩,
  ⟨some 61, .load 1 false, [.t 60], some (59, true)⟩,
  ⟨some 62, .fad 8, [.t 3], some (59, true)⟩,
  ⟨some 63, .load 1 false, [.t 62], some (59, true)⟩,
  ⟨some 64, .call 100, [.t 61, .t 63], some (59, true)⟩,
  ⟨some 65, .pick, [.t 59, .t 64, .c (.p (.v (.bool false)))], none⟩,
  ⟨some 66, .mv, [.t 65], none⟩,
  ⟨some 67, .fad 9, [.t 2], some (66, true)⟩,
  ⟨some 68, .load 1 false, [.t 67], some (66, true)⟩,
  ⟨some 69, .fad 9, [.t 3], some (66, true)⟩,
  ⟨some 70, .load 1 false, [.t 69], some (66, true)⟩,
  ⟨some 71, .call 101, [.t 68, .t 70], some (66, true)⟩,
  ⟨some 72, .pick, [.t 66, .t 71, .c (.p (.v (.bool false)))], none⟩,
  ⟨some 73, .mv, [.t 72], none⟩,
  ⟨some 74, .fad 10, [.t 2], some (73, true)⟩,
  ⟨some 75, .load 1 false, [.t 74], some (73, true)⟩,
  ⟨some 76, .fad 10, [.t 3], some (73, true)⟩,
  ⟨some 77, .load 1 false, [.t 76], some (73, true)⟩,
  ⟨some 78, .call 102, [.t 75, .t 77], some (73, true)⟩,
  ⟨some 79, .pick, [.t 73, .t 78, .c (.p (.v (.bool false)))], none⟩,
  ⟨some 80, .mv, [.t 79], none⟩,
  ⟨some 81, .fad 11, [.t 2], some (80, true)⟩,
  ⟨some 82, .load 1 false, [.t 81], some (80, true)⟩,
  ⟨some 83, .fad 11, [.t 3], some (80, true)⟩,
  ⟨some 84, .load 1 false, [.t 83], some (80, true)⟩,
  ⟨some 85, .call 103, [.t 82, .t 84], some (80, true)⟩,
  ⟨some 86, .pick, [.t 80, .t 85, .c (.p (.v (.bool false)))], none⟩,
  ⟨some 87, .mv, [.t 86], none⟩,
  ⟨some 88, .fad 12, [.t 2], some (87, true)⟩,
  ⟨some 89, .load 1 false, [.t 88], some (87, true)⟩,
  ⟨some 90, .fad 12, [.t 3], some (87, true)⟩,
  ⟨some 91, .load 1 false, [.t 90], some (87, true)⟩,
  ⟨some 92, .call 104, [.t 89, .t 91], some (87, true)⟩,
  ⟨some 93, .pick, [.t 87, .t 92, .c (.p (.v (.bool false)))], none⟩,
  ⟨some 94, .mv, [.t 93], none⟩,
  ⟨some 95, .fad 13, [.t 2], some (94, true)⟩,
  ⟨some 96, .load 1 false, [.t 95], some (94, true)⟩,
  ⟨some 97, .fad 13, [.t 3], some (94, true)⟩,
  ⟨some 98, .load 1 false, [.t 97], some (94, true)⟩,
  ⟨some 99, .call 105, [.t 96, .t 98], some (94, true)⟩,
  ⟨some 100, .pick, [.t 94, .t 99, .c (.p (.v (.bool false)))], none⟩,
  ⟨some 101, .mv, [.t 100], none⟩,
  ⟨some 102, .fad 14, [.t 2], some (101, true)⟩,
  ⟨some 103, .load 1 false, [.t 102], some (101, true)⟩,
  ⟨some 104, .fad 14, [.t 3], some (101, true)⟩,
  ⟨some 105, .load 1 false, [.t 104], some (101, true)⟩,
  ⟨some 106, .bin .eql, [.t 103, .t 105], some (101, true)⟩,
  ⟨some 107, .pick, [.t 101, .t 106, .c (.p (.v (.bool false)))], none⟩,
  ⟨some 4, .mv, [.t 107], none⟩])
 .ret))
theorem ret40 {ps : List PV} {p : PV} (hn : Nat.ble ps.length 108 = true) (h : (∀ q ∈ ps, q.bd) → Run Try.prog (fun e s' => (∀ id, e ≠ .exit id) ∧ ∃ ns, s'.out [.t 4] = some (p, ns)) [] c40 (S (initL 0 ps) [])) : Ret Try.prog 40 ps p :=
  ret_run Try.func40 rfl (by kernel_rfl) rfl (by kernel_rfl) (by kernel_rfl) (by kernel_rfl) (by kernel_rfl) (Nat.le_of_ble_eq_true hn) h

/-- stevedore/stevedorekeep.Kept -/
def c43 : C :=
  (.seq (.reg [⟨some 2, .box, [.t 0], none⟩,
  ⟨some 3, .box, [.t 1], none⟩,
  ⟨some 4, .mv, [.c (.p (.v (.bool false)))], none⟩])
 (.seq (.regd [⟨some 5, .load 15 true, [.t 2], none⟩,
  ⟨some 6, .load 15 true, [.t 3], none⟩,
  ⟨some 7, .call 40, [.t 5, .t 6], none⟩,
  ⟨some 8, .mv, [.t 7], none⟩,
  ⟨some 9, .fad 0, [.t 2], some (8, true)⟩,
  ⟨some 10, .load 1 false, [.t 9], some (8, true)⟩,
  ⟨some 11, .fad 0, [.t 3], some (8, true)⟩,
  ⟨some 12, .load 1 false, [.t 11], some (8, true)⟩,
  ⟨some 13, .len 0, [.t 12], some (8, true)⟩,
  ⟨some 14, .bin .add, [.t 13, .c (.p (.v (.int .i64 1)))], some (8, true)⟩,
  ⟨some 15, .slc 14 false true, [.t 10, .t 14], some (8, true)⟩,
  ⟨some 16, .fad 0, [.t 3], some (8, true)⟩,
  ⟨some 17, .load 1 false, [.t 16], some (8, true)⟩,
  ⟨some 18, .len 0, [.t 17], some (8, true)⟩,
  ⟨some 19, .iad 14, [.t 15, .t 18], some (8, true)⟩,
  ⟨some 20, .fad 0, [.t 19], some (8, true)⟩,
  ⟨some 21, .load 1 false, [.t 20], some (8, true)⟩,
  ⟨some 22, .bin .eql, [.t 21, .c (.p (.v (.string ⟨#[98, 101, 104, 105, 110, 100]⟩)))], some (8, true)⟩,
  ⟨some 23, .pick, [.t 8, .t 22, .c (.p (.v (.bool false)))], none⟩,
  ⟨some 24, .mv, [.t 23], none⟩,
  ⟨some 25, .fad 1, [.t 2], some (24, true)⟩,
  ⟨some 26, .load 1 false, [.t 25], some (24, true)⟩,
  ⟨some 27, .fad 1, [.t 3], some (24, true)⟩,
  ⟨some 28, .load 1 false, [.t 27], some (24, true)⟩,
  ⟨some 29, .len 0, [.t 28], some (24, true)⟩,
  ⟨some 30, .bin .add, [.t 29, .c (.p (.v (.int .i64 1)))], some (24, true)⟩,
  ⟨some 31, .slc 3 false true, [.t 26, .t 30], some (24, true)⟩,
  ⟨some 32, .fad 1, [.t 3], some (24, true)⟩,
  ⟨some 33, .load 1 false, [.t 32], some (24, true)⟩,
  ⟨some 34, .len 0, [.t 33], some (24, true)⟩,
  ⟨some 35, .iad 3, [.t 31, .t 34], some (24, true)⟩,
  ⟨some 36, .fad 1, [.t 35], some (24, true)⟩,
  ⟨some 37, .load 1 false, [.t 36], some (24, true)⟩,
  ⟨some 38, .bin .eql, [.t 37, .c (.p (.v (.string ⟨#[98, 101, 104, 105, 110, 100]⟩)))], some (24, true)⟩,
  ⟨some 39, .pick, [.t 24, .t 38, .c (.p (.v (.bool false)))], none⟩,
  ⟨some 40, .mv, [.t 39], none⟩,
  ⟨some 41, .fad 2, [.t 2], some (40, true)⟩,
  ⟨some 42, .load 1 false, [.t 41], some (40, true)⟩,
  ⟨some 43, .fad 2, [.t 3], some (40, true)⟩,
  ⟨some 44, .load 1 false, [.t 43], some (40, true)⟩,
  ⟨some 45, .len 0, [.t 44], some (40, true)⟩,
  ⟨some 46, .bin .add, [.t 45, .c (.p (.v (.int .i64 1)))], some (40, true)⟩,
  ⟨some 47, .slc 2 false true, [.t 42, .t 46], some (40, true)⟩,
  ⟨some 48, .fad 2, [.t 3], some (40, true)⟩,
  ⟨some 49, .load 1 false, [.t 48], some (40, true)⟩,
  ⟨some 50, .len 0, [.t 49], some (40, true)⟩,
  ⟨some 51, .iad 2, [.t 47, .t 50], some (40, true)⟩,
  ⟨some 52, .fad 0, [.t 51], some (40, true)⟩,
  ⟨some 53, .load 1 false, [.t 52], some (40, true)⟩,
  ⟨some 54, .bin .eql, [.t 53, .c (.p (.v (.string ⟨#[98, 101, 104, 105, 110, 100]⟩)))], some (40, true)⟩,
  ⟨some 55, .pick, [.t 40, .t 54, .c (.p (.v (.bool false)))], none⟩,
  ⟨some 56, .mv, [.t 55], none⟩,
  ⟨some 57, .fad 3, [.t 2], some (56, true)⟩,
  ⟨some 58, .load 1 false, [.t 57], some (56, true)⟩,
  ⟨some 59, .fad 3, [.t 3], some (56, true)⟩,
  ⟨some 60, .load 1 false, [.t 59], some (56, true)⟩,
  ⟨some 61, .len 0, [.t 60], some (56, true)⟩,
  ⟨some 62, .bin .add, [.t 61, .c (.p (.v (.int .i64 1)))], some (56, true)⟩,
  ⟨some 63, .slc 8 false true, [.t 58, .t 62], some (56, true)⟩,
  ⟨some 64, .fad 3, [.t 3], some (56, true)⟩,
  ⟨some 65, .load 1 false, [.t 64], some (56, true)⟩,
  ⟨some 66, .len 0, [.t 65], some (56, true)⟩,
  ⟨some 67, .iad 8, [.t 63, .t 66], some (56, true)⟩,
  ⟨some 68, .fad 0, [.t 67], some (56, true)⟩,
  ⟨some 69, .load 1 false, [.t 68], some (56, true)⟩,
  ⟨some 70, .bin .eql, [.t 69, .c (.p (.v (.string ⟨#[98, 101, 104, 105, 110, 100]⟩)))], some (56, true)⟩,
  ⟨some 71, .pick, [.t 56, .t 70, .c (.p (.v (.bool false)))], none⟩,
  ⟨some 72, .mv, [.t 71], none⟩,
  ⟨some 73, .fad 4, [.t 2], some (72, true)⟩,
  ⟨some 74, .load 1 false, [.t 73], some (72, true)⟩,
  ⟨some 75, .fad 4, [.t 3], some (72, true)⟩,
  ⟨some 76, .load 1 false, [.t 75], some (72, true)⟩,
  ⟨some 77, .len 0, [.t 76], some (72, true)⟩,
  ⟨some 78, .bin .add, [.t 77, .c (.p (.v (.int .i64 1)))], some (72, true)⟩,
  ⟨some 79, .slc 6 false true, [.t 74, .t 78], some (72, true)⟩,
  ⟨some 80, .fad 4, [.t 3], some (72, true)⟩,
  ⟨some 81, .load 1 false, [.t 80], some (72, true)⟩,
  ⟨some 82, .len 0, [.t 81], some (72, true)⟩,
  ⟨some 83, .iad 6, [.t 79, .t 82], some (72, true)⟩,
  ⟨some 84, .fad 4, [.t 83], some (72, true)⟩,
  ⟨some 85, .load 1 false, [.t 84], some (72, true)⟩,
  ⟨some 86, .bin .eql, [.t 85, .c (.p (.v (.int .i64 (-77))))], some (72, true)⟩,
  ⟨some 87, .pick, [.t 72, .t 86, .c (.p (.v (.bool false)))], none⟩,
  ⟨some 88, .mv, [.t 87], none⟩,
  ⟨some 89, .fad 5, [.t 2], some (88, true)⟩,
  ⟨some 90, .load 1 false, [.t 89], some (88, true)⟩,
  ⟨some 91, .fad 5, [.t 3], some (88, true)⟩,
  ⟨some 92, .load 1 false, [.t 91], some (88, true)⟩,
  ⟨some 93, .len 0, [.t 92], some (88, true)⟩,
  ⟨some 94, .bin .add, [.t 93, .c (.p (.v (.int .i64 1)))], some (88, true)⟩,
  ⟨some 95, .slc 3 false true, [.t 90, .t 94], some (88, true)⟩,
  ⟨some 96, .fad 5, [.t 3], some (88, true)⟩,
  ⟨some 97, .load 1 false, [.t 96], some (88, true)⟩,
  ⟨some 98, .len 0, [.t 97], some (88, true)⟩,
  ⟨some 99, .iad 3, [.t 95, .t 98], some (88, true)⟩,
  ⟨some 100, .fad 1, [.t 99], some (88, true)⟩,
  ⟨some 101, .load 1 false, [.t 100], some (88, true)⟩,
  ⟨some 102, .bin .eql, [.t 101, .c (.p (.v (.string ⟨#[98, 101, 104, 105, 110, 100]⟩)))], some (88, true)⟩,
  ⟨some 103, .pick, [.t 88, .t 102, .c (.p (.v (.bool false)))], none⟩,
  ⟨some 104, .mv, [.t 103], none⟩,
  ⟨some 105, .fad 6, [.t 2], some (104, true)⟩,
  ⟨some 106, .load 1 false, [.t 105], some (104, true)⟩,
  ⟨some 107, .fad 6, [.t 3], some (104, true)⟩,
  ⟨some 108, .load 1 false, [.t 107], some (104, true)⟩,
  ⟨some 109, .len 0, [.t 108], some (104, true)⟩,
  ⟨some 110, .bin .add, [.t 109, .c (.p (.v (.int .i64 1)))], some (104, true)⟩,
  ⟨some 111, .slc 51 false true, [.t 106, .t 110], some (104, true)⟩,
  ⟨some 112, .fad 6, [.t 3], some (104, true)⟩,
  ⟨some 113, .load 1 false, [.t 112], some (104, true)⟩,
  ⟨some 114, .len 0, [.t 113], some (104, true)⟩,
  ⟨some 115, .iad 51, [.t 111, .t 114], some (104, true)⟩,
  ⟨some 116, .fad 0, [.t 115], some (104, true)⟩,
  ⟨some 117, .load 1 false, [.t 116], some (104, true)⟩,
  ⟨some 118, .bin .eql, [.t 117, .c (.p (.v (.string ⟨#[98, 101, 104, 105, 110, 100]⟩)))], some (104, true)⟩,
  ⟨some 119, .pick, [.t 104, .t 118, .c (.p (.v (.bool false)))], none⟩,
  ⟨some 120, .mv, [.t 119], none⟩,
  ⟨some 121, .fad 7, [.t 2], some (120, true)⟩,
  ⟨some 122, .load 1 false, [.t 121], some (120, true)⟩,
  ⟨some 123, .fad 7, [.t 3], some (120, true)⟩,
  ⟨some 124, .load 1 false, [.t 123], some (120, true)⟩,
  ⟨some 125, .len 0, [.t 124], some (120, true)⟩,
  ⟨some 126, .bin .add, [.t 125, .c (.p (.v (.int .i64 1)))], some (120, true)⟩,
  ⟨some 127, .slc 50 false true, [.t 122, .t 126], some (120, true)⟩,
  ⟨some 128, .fad 7, [.t 3], some (120, true)⟩,
  ⟨some 129, .load 1 false, [.t 128], some (120, true)⟩,
  ⟨some 130, .len 0, [.t 129], some (120, true)⟩,
  ⟨some 131, .iad 50, [.t 127, .t 130], some (120, true)⟩,
  ⟨some 132, .fad 0, [.t 131], some (120, true)⟩,
  ⟨some 133, .load 1 false, [.t 132], some (120, true)⟩,
  ⟨some 134, .bin .eql, [.t 133, .c (.p (.v (.string ⟨#[98, 101, 104, 105, 110, 100]⟩)))], some (120, true)⟩,
  ⟨some 135, .pick, [.t 120, .t 134, .c (.p (.v (.bool false)))], none⟩,
  ⟨some 136, .mv, [.t 135], none⟩,
  ⟨some 137, .fad 8, [.t 2], some (136, true)⟩,
  ⟨some 138, .load 1 false, [.t 137], some (136, true)⟩,
  ⟨some 139, .fad 8, [.t 3], some (136, true)⟩,
  ⟨some 140, .load 1 false, [.t 139], some (136, true)⟩,
  ⟨some 141, .len 0, [.t 140], some (136, true)⟩,
  ⟨some 142, .bin .add, [.t 141, .c (.p (.v (.int .i64 1)))], some (136, true)⟩,
  ⟨some 143, .slc 8 false true, [.t 138, .t 142], some (136, true)⟩,
  ⟨some 144, .fad 8, [.t 3], some (136, true)⟩,
  ⟨some 145, .load 1 false, [.t 144], some (136, true)⟩,
  ⟨some 146, .len 0, [.t 145], some (136, true)⟩,
  ⟨some 147, .iad 8, [.t 143, .t 146], some (136, true)⟩,
  ⟨some 148, .fad 0, [.t 147], some (136, true)⟩,
  ⟨some 149, .load 1 false, [.t 148], some (136, true)⟩,
  ⟨some 150, .bin .eql, [.t 149, .c (.p (.v (.string ⟨#[98, 101, 104, 105, 110, 100]⟩)))], some (136, true)⟩,
  ⟨some 151, .pick, [.t 136, .t 150, .c (.p (.v (.bool false)))], none⟩,
  ⟨some 152, .mv, [.t 151], none⟩,
  ⟨some 153, .fad 9, [.t 2], some (152, true)⟩,
  ⟨some 154, .load 1 false, [.t 153], some (152, true)⟩,
  ⟨some 155, .fad 9, [.t 3], some (152, true)⟩,
  ⟨some 156, .load 1 false, [.t 155], some (152, true)⟩,
  ⟨some 157, .len 0, [.t 156], some (152, true)⟩,
  ⟨some 158, .bin .add, [.t 157, .c (.p (.v (.int .i64 1)))], some (152, true)⟩,
  ⟨some 159, .slc 11 false true, [.t 154, .t 158], some (152, true)⟩,
  ⟨some 160, .fad 9, [.t 3], some (152, true)⟩,
  ⟨some 161, .load 1 false, [.t 160], some (152, true)⟩,
  ⟨some 162, .len 0, [.t 161], some (152, true)⟩,
  ⟨some 163, .iad 11, [.t 159, .t 162], some (152, true)⟩,
  ⟨some 164, .fad 8, [.t 163], some (152, true)⟩,
  ⟨some 165, .load 1 false, [.t 164], some (152, true)⟩,
  ⟨some 166, .bin .eql, [.t 165, .c (.p (.v (.string ⟨#[98, 101, 104, 105, 110, 100]⟩)))], some (152, true)⟩,
  ⟨some 167, .pick, [.t 152, .t 166, .c (.p (.v (.bool false)))], none⟩,
  ⟨some 168, .mv, [.t 167], none⟩,
  ⟨some 169, .fad 10, [.t 2], some (168, true)⟩,
  ⟨some 170, .load 1 false, [.t 169], some (168, true)⟩,
  ⟨some 171, .fad 10, [.t 3], some (168, true)⟩,
  ⟨some 172, .load 1 false, [.t 171], some (168, true)⟩,
  ⟨some 173, .len 0, [.t 172], some (168, true)⟩,
  ⟨some 174, .bin .add, [.t 173, .c (.p (.v (.int .i64 1)))], some (168, true)⟩,
  ⟨some 175, .slc 2 false true, [.t 170, .t 174], some (168, true)⟩,
  ⟨some 176, .fad 10, [.t 3], some (168, true)⟩,
  ⟨some 177, .load 1 false, [.t 176], some (168, true)⟩,
  ⟨some 178, .len 0, [.t 177], some (168, true)⟩,
  ⟨some 179, .iad 2, [.t 175, .t 178], some (168, true)⟩,
  ⟨some 180, .fad 0, [.t 179], some (168, true)⟩,
  ⟨some 181, .load 1 false, [.t 180], some (168, true)⟩,
  ⟨some 182, .bin .eql, [.t 181, .c (.p (.v (.string ⟨#[98, 101, 104, 105, 110, 100]⟩)))], some (168, true)⟩,
  ⟨some 183, .pick, [.t 168, .t 182, .c (.p (.v (.bool false)))], none⟩,
  ⟨some 184, .mv, [.t 183], none⟩,
  ⟨some 185, .fad 11, [.t 2], some (184, true)⟩,
  ⟨some 186, .load 1 false, [.t 185], some (184, true)⟩,
  ⟨some 187, .fad 11, [.t 3], some (184, true)⟩,
  ⟨some 188, .load 1 false, [.t 187], some (184, true)⟩,
  ⟨some 189, .len 0, [.t 188], some (184, true)⟩,
  ⟨some 190, .bin .add, [.t 189, .c (.p (.v (.int .i64 1)))], some (184, true)⟩,
  ⟨some 191, .slc 5 false true, [.t 186, .t 190], some (184, true)⟩,
  ⟨some 192, .fad 11, [.t 3], some (184, true)⟩,
  ⟨some 193, .load 1 false, [.t 192], some (184, true)⟩,
  ⟨some 194, .len 0, [.t 193], some (184, true)⟩,
  ⟨some 195, .iad 5, [.t 191, .t 194], some (184, true)⟩,
  ⟨some 196, .fad 0, [.t 195], some (184, true)⟩,
  ⟨some 197, .load 1 false, [.t 196], some (184, true)⟩,
  ⟨some 198, .bin .eql, [.t 197, .c (.p (.v (.string ⟨#[98, 101, 104, 105, 110, 100]⟩)))], some (184, true)⟩,
  ⟨some 199, .pick, [.t 184, .t 198, .c (.p (.v (.bool false)))], none⟩,
  ⟨some 200, .mv, [.t 199], none⟩,
  ⟨some 201, .fad 12, [.t 2], some (200, true)⟩,
  ⟨some 202, .load 1 false, [.t 201], some (200, true)⟩,
  ⟨some 203, .fad 12, [.t 3], some (200, true)⟩,
  ⟨some 204, .load 1 false, [.t 203], some (200, true)⟩,
  ⟨some 205, .len 0, [.t 204], some (200, true)⟩,
  ⟨some 206, .bin .add, [.t 205, .c (.p (.v (.int .i64 1)))], some (200, true)⟩,
  ⟨some 207, .slc 5 false true, [.t 202, .t 206], some (200, true)⟩,
  ⟨some 208, .fad 12, [.t 3], some (200, true)⟩,
  ⟨some 209, .load 1 false, [.t 208], some (200, true)⟩,
  ⟨some 210, .len 0, [.t 209], some (200, true)⟩,
  ⟨some 211, .iad 5, [.t 207, .t 210], some (200, true)⟩,
  ⟨some 212, .fad 4, [.t 211], some (200, true)⟩,
  ⟨some 213, .load 1 false, [.t 212], some (200, true)⟩,
  ⟨some 214, .bin .eql, [.t 213, .c (.p (.v (.int .i64 (-77))))], some (200, true)⟩,
  ⟨some 215, .pick, [.t 200, .t 214, .c (.p (.v (.bool false)))], none⟩,
  ⟨some 216, .mv, [.t 215], none⟩,
  ⟨some 217, .fad 13, [.t 2], some (216, true)⟩,
  ⟨some 218, .load 1 false, [.t 217], some (216, true)⟩,
  ⟨some 219, .fad 13, [.t 3], some (216, true)⟩,
  ⟨some 220, .load 1 false, [.t 219], some (216, true)⟩,
  ⟨some 221, .len 0, [.t 220], some (216, true)⟩,
  ⟨some 222, .bin .add, [.t 221, .c (.p (.v (.int .i64 1)))], some (216, true)⟩,
  ⟨some 223, .slc 6 false true, [.t 218, .t 222], some (216, true)⟩,
  ⟨some 224, .fad 13, [.t 3], some (216, true)⟩,
  ⟨some 225, .load 1 false, [.t 224], some (216, true)⟩,
  ⟨some 226, .len 0, [.t 225], some (216, true)⟩,
  ⟨some 227, .iad 6, [.t 223, .t 226], some (216, true)⟩,
  ⟨some 228, .fad 1, [.t 227], some (216, true)⟩,
  ⟨some 229, .load 1 false, [.t 228], some (216, true)⟩,
  ⟨some 230, .bin .eql, [.t 229, .c (.p (.v (.string ⟨#[98, 101, 104, 105, 110, 100]⟩)))], some (216, true)⟩,
  ⟨some 231, .pick, [.t 216, .t 230, .c (.p (.v (.bool false)))], none⟩,
  ⟨some 4, .mv, [.t 231], none⟩])
 .ret))
theorem ret43 {ps : List PV} {p : PV} (hn : Nat.ble ps.length 232 = true) (h : (∀ q ∈ ps, q.bd) → Run Try.prog (fun e s' => (∀ id, e ≠ .exit id) ∧ ∃ ns, s'.out [.t 4] = some (p, ns)) [] c43 (S (initL 0 ps) [])) : Ret Try.prog 43 ps p :=
  ret_run Try.func43 rfl (by kernel_rfl) rfl (by kernel_rfl) (by kernel_rfl) (by kernel_rfl) (by kernel_rfl) (Nat.le_of_ble_eq_true hn) h

end Go.Fw
