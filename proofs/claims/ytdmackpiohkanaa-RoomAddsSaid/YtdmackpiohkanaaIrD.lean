/-
  The code of some functions, for the abstract machine. Printed by a program (wip/tools/mkir.py).
-/
import Derived.Test.YtdmackpiohkanaaFwU
import Derived.Test.YtdmackpiohkanaaProg
import Derived.KernelRfl
set_option linter.unusedVariables false
set_option maxRecDepth 100000
namespace Go.Fw
open Go.Proofs

/-- stevedore/nums.Name -/
def c106 : C :=
  (.seq (.reg [⟨some 2, .mv, [.c (.p (.v (.int .i64 0)))], none⟩])
 (.seq (.seq (.reg [⟨some 5, .mv, [.t 0], none⟩,
  ⟨some 6, .len 1, [.t 5], none⟩,
  ⟨some 7, .bin .gtr, [.t 6, .c (.p (.v (.int .i64 12)))], none⟩])
 (.cond (.t 7)
 (.seq (.reg [⟨some 2, .mv, [.c (.p (.v (.int .i64 4)))], none⟩])
 .ret)
 .skip))
 (.seq (.reg [⟨some 8, .mv, [.t 0], none⟩,
  ⟨some 9, .bin .eql, [.t 8, .c (.p (.v (.string ⟨#[]⟩)))], none⟩,
  ⟨some 3, .mv, [.t 9], none⟩])
 (.seq (.seq (.reg [⟨some 10, .mv, [.t 0], none⟩,
  ⟨some 11, .len 1, [.t 10], none⟩,
  ⟨some 12, .mv, [.c (.p (.v (.int .i64 0)))], none⟩])
 (.block 0
 (.loop
 (.seq (.reg [⟨some 13, .bin .lss, [.t 12, .t 11], none⟩])
 (.seq (.cond (.t 13)
 .skip
 (.exit 0))
 (.seq (.block 1
 (.seq (.reg [⟨some 14, .mv, [.t 12], none⟩,
  ⟨some 4, .mv, [.t 14], none⟩])
 (.reg [⟨some 15, .mv, [.t 3], none⟩,
  ⟨some 16, .mv, [.t 15], none⟩,
  ⟨some 17, .mv, [.t 0], some (16, false)⟩,
  ⟨some 18, .mv, [.t 4], some (16, false)⟩,
  ⟨some 19, .sidx, [.t 17, .t 18], some (16, false)⟩,
  ⟨some 20, .bin .leq, [.t 19, .c (.p (.v (.int .u8 32)))], some (16, false)⟩,
  ⟨some 21, .pick, [.t 16, .c (.p (.v (.bool true))), .t 20], none⟩,
  ⟨some 22, .mv, [.t 21], none⟩,
  ⟨some 23, .mv, [.t 0], some (22, false)⟩,
  ⟨some 24, .mv, [.t 4], some (22, false)⟩,
  ⟨some 25, .sidx, [.t 23, .t 24], some (22, false)⟩,
  ⟨some 26, .bin .gtr, [.t 25, .c (.p (.v (.int .u8 126)))], some (22, false)⟩,
  ⟨some 27, .pick, [.t 22, .c (.p (.v (.bool true))), .t 26], none⟩,
  ⟨some 3, .mv, [.t 27], none⟩])))
 (.reg [⟨some 28, .bin .add, [.t 12, .c (.p (.v (.int .i64 1)))], none⟩,
  ⟨some 12, .mv, [.t 28], none⟩])))))))
 (.seq (.seq (.reg [⟨some 29, .mv, [.t 3], none⟩])
 (.cond (.t 29)
 (.seq (.reg [⟨some 2, .mv, [.c (.p (.v (.int .i64 3)))], none⟩])
 .ret)
 .skip))
 (.seq (.reg [⟨some 2, .mv, [.c (.p (.v (.int .i64 0)))], none⟩])
 .ret))))))
theorem ret106 {ps : List PV} {p : PV} (hn : Nat.ble ps.length 30 = true) (h : (∀ q ∈ ps, q.bd) → Run Try.prog (fun e s' => (∀ id, e ≠ .exit id) ∧ ∃ ns, s'.out [.t 2] = some (p, ns)) [] c106 (S (initL 0 ps) [])) : Ret Try.prog 106 ps p :=
  ret_run Try.func106 rfl (by kernel_rfl) rfl (by kernel_rfl) (by kernel_rfl) (by kernel_rfl) (by kernel_rfl) (Nat.le_of_ble_eq_true hn) h

/-- stevedore/stevedoreref01.Name -/
def c109 : C :=
  (.seq (.reg [⟨some 2, .mv, [.c (.p (.v (.int .i64 0)))], none⟩])
 (.seq (.seq (.reg [⟨some 4, .mv, [.t 0], none⟩,
  ⟨some 5, .len 1, [.t 4], none⟩,
  ⟨some 6, .bin .gtr, [.t 5, .c (.p (.v (.int .i64 12)))], none⟩])
 (.cond (.t 6)
 (.seq (.reg [⟨some 2, .mv, [.c (.p (.v (.int .i64 4)))], none⟩])
 .ret)
 .skip))
 (.seq (.seq (.reg [⟨some 3, .mv, [.c (.p (.v (.int .i64 0)))], none⟩])
 (.block 0
 (.loop
 (.seq (.seq (.reg [⟨some 7, .mv, [.t 3], none⟩,
  ⟨some 8, .mv, [.t 0], none⟩,
  ⟨some 9, .len 1, [.t 8], none⟩,
  ⟨some 10, .bin .lss, [.t 7, .t 9], none⟩])
 (.cond (.t 10)
 .skip
 (.exit 0)))
 (.seq (.block 1
 (.seq (.reg [⟨some 13, .mv, [.t 0], none⟩,
  ⟨some 14, .mv, [.t 3], none⟩,
  ⟨some 15, .sidx, [.t 13, .t 14], none⟩,
  ⟨some 16, .bin .lss, [.t 15, .c (.p (.v (.int .u8 33)))], none⟩,
  ⟨some 17, .mv, [.t 16], none⟩,
  ⟨some 18, .mv, [.t 0], some (17, false)⟩,
  ⟨some 19, .mv, [.t 3], some (17, false)⟩,
  ⟨some 20, .sidx, [.t 18, .t 19], some (17, false)⟩,
  ⟨some 21, .bin .gtr, [.t 20, .c (.p (.v (.int .u8 126)))], some (17, false)⟩,
  ⟨some 22, .pick, [.t 17, .c (.p (.v (.bool true))), .t 21], none⟩])
 (.cond (.t 22)
 (.seq (.reg [⟨some 2, .mv, [.c (.p (.v (.int .i64 3)))], none⟩])
 .ret)
 .skip)))
 (.reg [⟨some 11, .mv, [.t 3], none⟩,
  ⟨some 12, .bin .add, [.t 11, .c (.p (.v (.int .i64 1)))], none⟩,
  ⟨some 3, .mv, [.t 12], none⟩]))))))
 (.seq (.seq (.reg [⟨some 23, .mv, [.t 0], none⟩,
  ⟨some 24, .bin .eql, [.t 23, .c (.p (.v (.string ⟨#[]⟩)))], none⟩])
 (.cond (.t 24)
 (.seq (.reg [⟨some 2, .mv, [.c (.p (.v (.int .i64 3)))], none⟩])
 .ret)
 .skip))
 (.seq (.reg [⟨some 2, .mv, [.c (.p (.v (.int .i64 0)))], none⟩])
 .ret)))))
theorem ret109 {ps : List PV} {p : PV} (hn : Nat.ble ps.length 25 = true) (h : (∀ q ∈ ps, q.bd) → Run Try.prog (fun e s' => (∀ id, e ≠ .exit id) ∧ ∃ ns, s'.out [.t 2] = some (p, ns)) [] c109 (S (initL 0 ps) [])) : Ret Try.prog 109 ps p :=
  ret_run Try.func109 rfl (by kernel_rfl) rfl (by kernel_rfl) (by kernel_rfl) (by kernel_rfl) (by kernel_rfl) (Nat.le_of_ble_eq_true hn) h

/-- stevedore/stevedorekeep.Lent -/
def c35 : C :=
  (.seq (.reg [⟨some 1, .box, [.t 0], none⟩,
  ⟨some 2, .alloc [.sl [] [], .sl [] [], .sl [] [], .sl [] [], .sl [] [], .sl [] [], .sl [] [], .sl [] [], .sl [] [], .sl [] [], .sl [] [], .sl [] [], .sl [] [], .sl [] [], .v (.int .i64 0)], [], none⟩])
 (.seq (.reg [⟨some 3, .fad 0, [.t 1], none⟩,
  ⟨some 4, .load 1 false, [.t 3], none⟩,
  ⟨some 5, .build [.v (.string ⟨#[]⟩), .v (.string ⟨#[]⟩), .v (.int .i64 0), .v (.string ⟨#[]⟩), .v (.int .i64 0), .v (.string ⟨#[]⟩), .v (.int .i64 0), .v (.string ⟨#[]⟩), .v (.int .i64 0), .v (.int .i64 0), .v (.int .i64 0), .v (.bool false), .v (.bool false), .v (.bool false)] [(0, 1)], [.c (.p (.v (.string ⟨#[98, 101, 104, 105, 110, 100]⟩)))], none⟩,
  ⟨some 6, .call 74, [.t 4, .t 5], none⟩,
  ⟨some 7, .fad 0, [.t 1], none⟩,
  ⟨none, .store 1, [.t 7, .t 6], none⟩])
 (.seq (.reg [⟨some 8, .fad 1, [.t 1], none⟩,
  ⟨some 9, .load 1 false, [.t 8], none⟩,
  ⟨some 10, .build [.v (.string ⟨#[]⟩), .v (.string ⟨#[]⟩), .v (.int .i64 0)] [(1, 1)], [.c (.p (.v (.string ⟨#[98, 101, 104, 105, 110, 100]⟩)))], none⟩,
  ⟨some 11, .call 75, [.t 9, .t 10], none⟩,
  ⟨some 12, .fad 1, [.t 1], none⟩,
  ⟨none, .store 1, [.t 12, .t 11], none⟩])
 (.seq (.reg [⟨some 13, .fad 2, [.t 1], none⟩,
  ⟨some 14, .load 1 false, [.t 13], none⟩,
  ⟨some 15, .build [.v (.string ⟨#[]⟩), .v (.string ⟨#[]⟩)] [(0, 1)], [.c (.p (.v (.string ⟨#[98, 101, 104, 105, 110, 100]⟩)))], none⟩,
  ⟨some 16, .call 76, [.t 14, .t 15], none⟩,
  ⟨some 17, .fad 2, [.t 1], none⟩,
  ⟨none, .store 1, [.t 17, .t 16], none⟩])
 (.seq (.reg [⟨some 18, .fad 3, [.t 1], none⟩,
  ⟨some 19, .load 1 false, [.t 18], none⟩,
  ⟨some 20, .build [.v (.string ⟨#[]⟩), .v (.string ⟨#[]⟩), .v (.int .i64 0), .v (.int .i64 0), .v (.int .i64 0), .v (.int .i64 0), .v (.int .i64 0), .v (.bool false)] [(0, 1)], [.c (.p (.v (.string ⟨#[98, 101, 104, 105, 110, 100]⟩)))], none⟩,
  ⟨some 21, .call 77, [.t 19, .t 20], none⟩,
  ⟨some 22, .fad 3, [.t 1], none⟩,
  ⟨none, .store 1, [.t 22, .t 21], none⟩])
 (.seq (.reg [⟨some 23, .fad 4, [.t 1], none⟩,
  ⟨some 24, .load 1 false, [.t 23], none⟩,
  ⟨some 25, .build [.v (.string ⟨#[]⟩), .v (.string ⟨#[]⟩), .v (.string ⟨#[]⟩), .v (.int .i64 0), .v (.int .i64 0), .v (.int .i64 0)] [(4, 1)], [.c (.p (.v (.int .i64 (-77))))], none⟩,
  ⟨some 26, .call 78, [.t 24, .t 25], none⟩,
  ⟨some 27, .fad 4, [.t 1], none⟩,
  ⟨none, .store 1, [.t 27, .t 26], none⟩])
 (.seq (.reg [⟨some 28, .fad 5, [.t 1], none⟩,
  ⟨some 29, .load 1 false, [.t 28], none⟩,
  ⟨some 30, .build [.v (.string ⟨#[]⟩), .v (.string ⟨#[]⟩), .v (.int .i64 0)] [(1, 1)], [.c (.p (.v (.string ⟨#[98, 101, 104, 105, 110, 100]⟩)))], none⟩,
  ⟨some 31, .call 79, [.t 29, .t 30], none⟩,
  ⟨some 32, .fad 5, [.t 1], none⟩,
  ⟨none, .store 1, [.t 32, .t 31], none⟩])
 (.seq (.reg [⟨some 33, .fad 6, [.t 1], none⟩,
  ⟨some 34, .load 1 false, [.t 33], none⟩,
  ⟨some 35, .build [.v (.string ⟨#[]⟩), .v (.string ⟨#[]⟩), .v (.string ⟨#[]⟩), .v (.int .i64 0), .v (.int .i64 0), .v (.int .i64 0), .v (.int .i64 0), .v (.int .i64 0), .v (.string ⟨#[]⟩), .v (.int .i64 0), .v (.int .i64 0), .v (.int .i64 0), .v (.int .i64 0), .v (.int .i64 0), .v (.string ⟨#[]⟩), .v (.int .i64 0), .v (.int .i64 0), .v (.int .i64 0), .v (.int .i64 0), .v (.int .i64 0), .v (.string ⟨#[]⟩), .v (.int .i64 0), .v (.int .i64 0), .v (.int .i64 0), .v (.int .i64 0), .v (.int .i64 0), .v (.string ⟨#[]⟩), .v (.int .i64 0), .v (.int .i64 0), .v (.int .i64 0), .v (.int .i64 0), .v (.int .i64 0), .v (.string ⟨#[]⟩), .v (.int .i64 0), .v (.int .i64 0), .v (.int .i64 0), .v (.int .i64 0), .v (.int .i64 0), .v (.string ⟨#[]⟩), .v (.int .i64 0), .v (.int .i64 0), .v (.int .i64 0), .v (.int .i64 0), .v (.int .i64 0), .v (.string ⟨#[]⟩), .v (.int .i64 0), .v (.int .i64 0), .v (.int .i64 0), .v (.int .i64 0), .v (.int .i64 0), .v (.bool false)] [(0, 1)], [.c (.p (.v (.string ⟨#[98, 101, 104, 105, 110, 100]⟩)))], none⟩,
  ⟨some 36, .call 80, [.t 34, .t 35], none⟩,
  ⟨some 37, .fad 6, [.t 1], none⟩,
  ⟨none, .store 1, [.t 37, .t 36], none⟩])
 (.seq (.reg [⟨some 38, .fad 7, [.t 1], none⟩,
  ⟨some 39, .load 1 false, [.t 38], none⟩,
  ⟨some 40, .build [.v (.string ⟨#[]⟩), .v (.string ⟨#[]⟩), .v (.string ⟨#[]⟩), .v (.int .i64 0), .v (.int .i64 0), .v (.int .i64 0), .v (.int .i64 0), .v (.int .i64 0), .v (.string ⟨#[]⟩), .v (.int .i64 0), .v (.int .i64 0), .v (.int .i64 0), .v (.int .i64 0), .v (.int .i64 0), .v (.string ⟨#[]⟩), .v (.int .i64 0), .v (.int .i64 0), .v (.int .i64 0), .v (.int .i64 0), .v (.int .i64 0), .v (.string ⟨#[]⟩), .v (.int .i64 0), .v (.int .i64 0), .v (.int .i64 0), .v (.int .i64 0), .v (.int .i64 0), .v (.string ⟨#[]⟩), .v (.int .i64 0), .v (.int .i64 0), .v (.int .i64 0), .v (.int .i64 0), .v (.int .i64 0), .v (.string ⟨#[]⟩), .v (.int .i64 0), .v (.int .i64 0), .v (.int .i64 0), .v (.int .i64 0), .v (.int .i64 0), .v (.string ⟨#[]⟩), .v (.int .i64 0), .v (.int .i64 0), .v (.int .i64 0), .v (.int .i64 0), .v (.int .i64 0), .v (.string ⟨#[]⟩), .v (.int .i64 0), .v (.int .i64 0), .v (.int .i64 0), .v (.int .i64 0), .v (.int .i64 0)] [(0, 1)], [.c (.p (.v (.string ⟨#[98, 101, 104, 105, 110, 100]⟩)))], none⟩,
  ⟨some 41, .call 81, [.t 39, .t 40], none⟩,
  ⟨some 42, .fad 7, [.t 1], none⟩,
  ⟨none, .store 1, [.t 42, .t 41], none⟩])
 (.seq (.reg [⟨some 43, .fad 8, [.t 1], none⟩,
  ⟨some 44, .load 1 false, [.t 43], none⟩,
  ⟨some 45, .build [.v (.string ⟨#[]⟩), .v (.int .i64 0), .v (.string ⟨#[]⟩), .v (.string ⟨#[]⟩), .v (.string ⟨#[]⟩), .v (.int .i64 0), .v (.int .i64 0), .v (.int .i64 0)] [(0, 1)], [.c (.p (.v (.string ⟨#[98, 101, 104, 105, 110, 100]⟩)))], none⟩,
  ⟨some 46, .call 82, [.t 44, .t 45], none⟩,
  ⟨some 47, .fad 8, [.t 1], none⟩,
  ⟨none, .store 1, [.t 47, .t 46], none⟩])
 (.seq (.reg [⟨some 48, .fad 9, [.t 1], none⟩,
  ⟨some 49, .load 1 false, [.t 48], none⟩,
  ⟨some 50, .build [.v (.int .i64 0), .v (.int .i64 0), .v (.string ⟨#[]⟩), .v (.int .i64 0), .v (.string ⟨#[]⟩), .v (.string ⟨#[]⟩), .v (.string ⟨#[]⟩), .v (.int .i64 0), .v (.string ⟨#[]⟩), .v (.int .i64 0), .v (.string ⟨#[]⟩)] [(8, 1)], [.c (.p (.v (.string ⟨#[98, 101, 104, 105, 110, 100]⟩)))], none⟩,
  ⟨some 51, .call 83, [.t 49, .t 50], none⟩,
  ⟨some 52, .fad 9, [.t 1], none⟩,
  ⟨none, .store 1, [.t 52, .t 51], none⟩])
 (.seq (.reg [⟨some 53, .fad 10, [.t 1], none⟩,
  ⟨some 54, .load 1 false, [.t 53], none⟩,
  ⟨some 55, .build [.v (.string ⟨#[]⟩), .v (.string ⟨#[]⟩)] [(0, 1)], [.c (.p (.v (.string ⟨#[98, 101, 104, 105, 110, 100]⟩)))], none⟩,
  ⟨some 56, .call 84, [.t 54, .t 55], none⟩,
  ⟨some 57, .fad 10, [.t 1], none⟩,
  ⟨none, .store 1, [.t 57, .t 56], none⟩])
 (.seq (.reg [⟨some 58, .fad 11, [.t 1], none⟩,
  ⟨some 59, .load 1 false, [.t 58], none⟩,
  ⟨some 60, .build [.v (.string ⟨#[]⟩), .v (.string ⟨#[]⟩), .v (.string ⟨#[]⟩), .v (.int .i64 0), .v (.int .i64 0)] [(0, 1)], [.c (.p (.v (.string ⟨#[98, 101, 104, 105, 110, 100]⟩)))], none⟩,
  ⟨some 61, .call 85, [.t 59, .t 60], none⟩,
  ⟨some 62, .fad 11, [.t 1], none⟩,
  ⟨none, .store 1, [.t 62, .t 61], none⟩])
 (.seq (.reg [⟨some 63, .fad 12, [.t 1], none⟩,
  ⟨some 64, .load 1 false, [.t 63], none⟩,
  ⟨some 65, .build [.v (.string ⟨#[]⟩), .v (.string ⟨#[]⟩), .v (.string ⟨#[]⟩), .v (.int .i64 0), .v (.int .i64 0)] [(4, 1)], [.c (.p (.v (.int .i64 (-77))))], none⟩,
  ⟨some 66, .call 86, [.t 64, .t 65], none⟩,
  ⟨some 67, .fad 12, [.t 1], none⟩,
  ⟨none, .store 1, [.t 67, .t 66], none⟩])
 (.seq (.reg [⟨some 68, .fad 13, [.t 1], none⟩,
  ⟨some 69, .load 1 false, [.t 68], none⟩,
  ⟨some 70, .build [.v (.string ⟨#[]⟩), .v (.string ⟨#[]⟩), .v (.int .i64 0), .v (.int .i64 0), .v (.int .i64 0), .v (.int .i64 0)] [(1, 1)], [.c (.p (.v (.string ⟨#[98, 101, 104, 105, 110, 100]⟩)))], none⟩,
  ⟨some 71, .call 87, [.t 69, .t 70], none⟩,
  ⟨some 72, .fad 13, [.t 1], none⟩,
  ⟨none, .store 1, [.t 72, .t 71], none⟩])
 (.seq (.reg [⟨some 73, .load 15 true, [.t 1], none⟩,
  ⟨none, .store 15, [.t 2, .t 73], none⟩])
 .ret))))))))))))))))
theorem ret35 {ps : List PV} {p : PV} (hn : Nat.ble ps.length 74 = true) (h : (∀ q ∈ ps, q.bd) → Run Try.prog (fun e s' => (∀ id, e ≠ .exit id) ∧ ∃ ns, s'.out [.c 2 15 true] = some (p, ns)) [] c35 (S (initL 0 ps) [])) : Ret Try.prog 35 ps p :=
  ret_run Try.func35 rfl (by kernel_rfl) rfl (by kernel_rfl) (by kernel_rfl) (by kernel_rfl) (by kernel_rfl) (Nat.le_of_ble_eq_true hn) h

/-- stevedore/stevedorekeep.lent[stevedore/api.Item] -/
def c74 : C :=
  (.seq (.reg [⟨some 3, .box, [.t 1], none⟩,
  ⟨some 4, .mv, [.c .nil], none⟩])
 (.seq (.reg [⟨some 6, .mv, [.t 0], none⟩,
  ⟨some 7, .len 0, [.t 6], none⟩,
  ⟨some 8, .bin .add, [.t 7, .c (.p (.v (.int .i64 1)))], none⟩,
  ⟨some 9, .mks 46 14 136 [.v (.string ⟨#[]⟩), .v (.string ⟨#[]⟩), .v (.int .i64 0), .v (.string ⟨#[]⟩), .v (.int .i64 0), .v (.string ⟨#[]⟩), .v (.int .i64 0), .v (.string ⟨#[]⟩), .v (.int .i64 0), .v (.int .i64 0), .v (.int .i64 0), .v (.bool false), .v (.bool false), .v (.bool false)], [.c (.p (.v (.int .i64 0))), .t 8], none⟩,
  ⟨some 5, .mv, [.t 9], none⟩])
 (.seq (.reg [⟨some 10, .mv, [.t 5], none⟩,
  ⟨some 11, .mv, [.t 0], none⟩,
  ⟨some 12, .app 46 14 136, [.t 10, .t 11], none⟩,
  ⟨some 5, .mv, [.t 12], none⟩])
 (.seq (.reg [⟨some 13, .mv, [.t 5], none⟩,
  ⟨some 14, .load 14 true, [.t 3], none⟩,
  ⟨some 15, .bsl 46 14 1 [.v (.string ⟨#[]⟩), .v (.string ⟨#[]⟩), .v (.int .i64 0), .v (.string ⟨#[]⟩), .v (.int .i64 0), .v (.string ⟨#[]⟩), .v (.int .i64 0), .v (.string ⟨#[]⟩), .v (.int .i64 0), .v (.int .i64 0), .v (.int .i64 0), .v (.bool false), .v (.bool false), .v (.bool false)] [0], [.t 14], none⟩,
  ⟨some 16, .app 46 14 136, [.t 13, .t 15], none⟩,
  ⟨some 5, .mv, [.t 16], none⟩])
 (.seq (.reg [⟨some 17, .mv, [.t 5], none⟩,
  ⟨some 18, .mv, [.t 0], none⟩,
  ⟨some 19, .len 0, [.t 18], none⟩,
  ⟨some 20, .slc 14 false true, [.t 17, .t 19], none⟩,
  ⟨some 4, .mv, [.t 20], none⟩])
 .ret)))))
theorem ret74 {ps : List PV} {p : PV} (hn : Nat.ble ps.length 21 = true) (h : (∀ q ∈ ps, q.bd) → Run Try.prog (fun e s' => (∀ id, e ≠ .exit id) ∧ ∃ ns, s'.out [.t 4] = some (p, ns)) [] c74 (S (initL 0 ps) [])) : Ret Try.prog 74 ps p :=
  ret_run Try.func74 rfl (by kernel_rfl) rfl (by kernel_rfl) (by kernel_rfl) (by kernel_rfl) (by kernel_rfl) (Nat.le_of_ble_eq_true hn) h

/-- stevedore/stevedorekeep.lent[stevedore/api.Lot] -/
def c75 : C :=
  (.seq (.reg [⟨some 3, .box, [.t 1], none⟩,
  ⟨some 4, .mv, [.c .nil], none⟩])
 (.seq (.reg [⟨some 6, .mv, [.t 0], none⟩,
  ⟨some 7, .len 0, [.t 6], none⟩,
  ⟨some 8, .bin .add, [.t 7, .c (.p (.v (.int .i64 1)))], none⟩,
  ⟨some 9, .mks 54 3 40 [.v (.string ⟨#[]⟩), .v (.string ⟨#[]⟩), .v (.int .i64 0)], [.c (.p (.v (.int .i64 0))), .t 8], none⟩,
  ⟨some 5, .mv, [.t 9], none⟩])
 (.seq (.reg [⟨some 10, .mv, [.t 5], none⟩,
  ⟨some 11, .mv, [.t 0], none⟩,
  ⟨some 12, .app 54 3 40, [.t 10, .t 11], none⟩,
  ⟨some 5, .mv, [.t 12], none⟩])
 (.seq (.reg [⟨some 13, .mv, [.t 5], none⟩,
  ⟨some 14, .load 3 true, [.t 3], none⟩,
  ⟨some 15, .bsl 54 3 1 [.v (.string ⟨#[]⟩), .v (.string ⟨#[]⟩), .v (.int .i64 0)] [0], [.t 14], none⟩,
  ⟨some 16, .app 54 3 40, [.t 13, .t 15], none⟩,
  ⟨some 5, .mv, [.t 16], none⟩])
 (.seq (.reg [⟨some 17, .mv, [.t 5], none⟩,
  ⟨some 18, .mv, [.t 0], none⟩,
  ⟨some 19, .len 0, [.t 18], none⟩,
  ⟨some 20, .slc 3 false true, [.t 17, .t 19], none⟩,
  ⟨some 4, .mv, [.t 20], none⟩])
 .ret)))))
theorem ret75 {ps : List PV} {p : PV} (hn : Nat.ble ps.length 21 = true) (h : (∀ q ∈ ps, q.bd) → Run Try.prog (fun e s' => (∀ id, e ≠ .exit id) ∧ ∃ ns, s'.out [.t 4] = some (p, ns)) [] c75 (S (initL 0 ps) [])) : Ret Try.prog 75 ps p :=
  ret_run Try.func75 rfl (by kernel_rfl) rfl (by kernel_rfl) (by kernel_rfl) (by kernel_rfl) (by kernel_rfl) (Nat.le_of_ble_eq_true hn) h

/-- stevedore/stevedorekeep.lent[stevedore/api.Zone] -/
def c76 : C :=
  (.seq (.reg [⟨some 3, .box, [.t 1], none⟩,
  ⟨some 4, .mv, [.c .nil], none⟩])
 (.seq (.reg [⟨some 6, .mv, [.t 0], none⟩,
  ⟨some 7, .len 0, [.t 6], none⟩,
  ⟨some 8, .bin .add, [.t 7, .c (.p (.v (.int .i64 1)))], none⟩,
  ⟨some 9, .mks 84 2 32 [.v (.string ⟨#[]⟩), .v (.string ⟨#[]⟩)], [.c (.p (.v (.int .i64 0))), .t 8], none⟩,
  ⟨some 5, .mv, [.t 9], none⟩])
 (.seq (.reg [⟨some 10, .mv, [.t 5], none⟩,
  ⟨some 11, .mv, [.t 0], none⟩,
  ⟨some 12, .app 84 2 32, [.t 10, .t 11], none⟩,
  ⟨some 5, .mv, [.t 12], none⟩])
 (.seq (.reg [⟨some 13, .mv, [.t 5], none⟩,
  ⟨some 14, .load 2 true, [.t 3], none⟩,
  ⟨some 15, .bsl 84 2 1 [.v (.string ⟨#[]⟩), .v (.string ⟨#[]⟩)] [0], [.t 14], none⟩,
  ⟨some 16, .app 84 2 32, [.t 13, .t 15], none⟩,
  ⟨some 5, .mv, [.t 16], none⟩])
 (.seq (.reg [⟨some 17, .mv, [.t 5], none⟩,
  ⟨some 18, .mv, [.t 0], none⟩,
  ⟨some 19, .len 0, [.t 18], none⟩,
  ⟨some 20, .slc 2 false true, [.t 17, .t 19], none⟩,
  ⟨some 4, .mv, [.t 20], none⟩])
 .ret)))))
theorem ret76 {ps : List PV} {p : PV} (hn : Nat.ble ps.length 21 = true) (h : (∀ q ∈ ps, q.bd) → Run Try.prog (fun e s' => (∀ id, e ≠ .exit id) ∧ ∃ ns, s'.out [.t 4] = some (p, ns)) [] c76 (S (initL 0 ps) [])) : Ret Try.prog 76 ps p :=
  ret_run Try.func76 rfl (by kernel_rfl) rfl (by kernel_rfl) (by kernel_rfl) (by kernel_rfl) (by kernel_rfl) (Nat.le_of_ble_eq_true hn) h

/-- stevedore/stevedorekeep.lent[stevedore/api.Bin] -/
def c77 : C :=
  (.seq (.reg [⟨some 3, .box, [.t 1], none⟩,
  ⟨some 4, .mv, [.c .nil], none⟩])
 (.seq (.reg [⟨some 6, .mv, [.t 0], none⟩,
  ⟨some 7, .len 0, [.t 6], none⟩,
  ⟨some 8, .bin .add, [.t 7, .c (.p (.v (.int .i64 1)))], none⟩,
  ⟨some 9, .mks 82 8 80 [.v (.string ⟨#[]⟩), .v (.string ⟨#[]⟩), .v (.int .i64 0), .v (.int .i64 0), .v (.int .i64 0), .v (.int .i64 0), .v (.int .i64 0), .v (.bool false)], [.c (.p (.v (.int .i64 0))), .t 8], none⟩,
  ⟨some 5, .mv, [.t 9], none⟩])
 (.seq (.reg [⟨some 10, .mv, [.t 5], none⟩,
  ⟨some 11, .mv, [.t 0], none⟩,
  ⟨some 12, .app 82 8 80, [.t 10, .t 11], none⟩,
  ⟨some 5, .mv, [.t 12], none⟩])
 (.seq (.reg [⟨some 13, .mv, [.t 5], none⟩,
  ⟨some 14, .load 8 true, [.t 3], none⟩,
  ⟨some 15, .bsl 82 8 1 [.v (.string ⟨#[]⟩), .v (.string ⟨#[]⟩), .v (.int .i64 0), .v (.int .i64 0), .v (.int .i64 0), .v (.int .i64 0), .v (.int .i64 0), .v (.bool false)] [0], [.t 14], none⟩,
  ⟨some 16, .app 82 8 80, [.t 13, .t 15], none⟩,
  ⟨some 5, .mv, [.t 16], none⟩])
 (.seq (.reg [⟨some 17, .mv, [.t 5], none⟩,
  ⟨some 18, .mv, [.t 0], none⟩,
  ⟨some 19, .len 0, [.t 18], none⟩,
  ⟨some 20, .slc 8 false true, [.t 17, .t 19], none⟩,
  ⟨some 4, .mv, [.t 20], none⟩])
 .ret)))))
theorem ret77 {ps : List PV} {p : PV} (hn : Nat.ble ps.length 21 = true) (h : (∀ q ∈ ps, q.bd) → Run Try.prog (fun e s' => (∀ id, e ≠ .exit id) ∧ ∃ ns, s'.out [.t 4] = some (p, ns)) [] c77 (S (initL 0 ps) [])) : Ret Try.prog 77 ps p :=
  ret_run Try.func77 rfl (by kernel_rfl) rfl (by kernel_rfl) (by kernel_rfl) (by kernel_rfl) (by kernel_rfl) (Nat.le_of_ble_eq_true hn) h

/-- stevedore/stevedorekeep.lent[stevedore/api.Quant] -/
def c78 : C :=
  (.seq (.reg [⟨some 3, .box, [.t 1], none⟩,
  ⟨some 4, .mv, [.c .nil], none⟩])
 (.seq (.reg [⟨some 6, .mv, [.t 0], none⟩,
  ⟨some 7, .len 0, [.t 6], none⟩,
  ⟨some 8, .bin .add, [.t 7, .c (.p (.v (.int .i64 1)))], none⟩,
  ⟨some 9, .mks 50 6 72 [.v (.string ⟨#[]⟩), .v (.string ⟨#[]⟩), .v (.string ⟨#[]⟩), .v (.int .i64 0), .v (.int .i64 0), .v (.int .i64 0)], [.c (.p (.v (.int .i64 0))), .t 8], none⟩,
  ⟨some 5, .mv, [.t 9], none⟩])
 (.seq (.reg [⟨some 10, .mv, [.t 5], none⟩,
  ⟨some 11, .mv, [.t 0], none⟩,
  ⟨some 12, .app 50 6 72, [.t 10, .t 11], none⟩,
  ⟨some 5, .mv, [.t 12], none⟩])
 (.seq (.reg [⟨some 13, .mv, [.t 5], none⟩,
  ⟨some 14, .load 6 true, [.t 3], none⟩,
  ⟨some 15, .bsl 50 6 1 [.v (.string ⟨#[]⟩), .v (.string ⟨#[]⟩), .v (.string ⟨#[]⟩), .v (.int .i64 0), .v (.int .i64 0), .v (.int .i64 0)] [0], [.t 14], none⟩,
  ⟨some 16, .app 50 6 72, [.t 13, .t 15], none⟩,
  ⟨some 5, .mv, [.t 16], none⟩])
 (.seq (.reg [⟨some 17, .mv, [.t 5], none⟩,
  ⟨some 18, .mv, [.t 0], none⟩,
  ⟨some 19, .len 0, [.t 18], none⟩,
  ⟨some 20, .slc 6 false true, [.t 17, .t 19], none⟩,
  ⟨some 4, .mv, [.t 20], none⟩])
 .ret)))))
theorem ret78 {ps : List PV} {p : PV} (hn : Nat.ble ps.length 21 = true) (h : (∀ q ∈ ps, q.bd) → Run Try.prog (fun e s' => (∀ id, e ≠ .exit id) ∧ ∃ ns, s'.out [.t 4] = some (p, ns)) [] c78 (S (initL 0 ps) [])) : Ret Try.prog 78 ps p :=
  ret_run Try.func78 rfl (by kernel_rfl) rfl (by kernel_rfl) (by kernel_rfl) (by kernel_rfl) (by kernel_rfl) (Nat.le_of_ble_eq_true hn) h

/-- stevedore/stevedorekeep.lent[stevedore/api.Rule] -/
def c79 : C :=
  (.seq (.reg [⟨some 3, .box, [.t 1], none⟩,
  ⟨some 4, .mv, [.c .nil], none⟩])
 (.seq (.reg [⟨some 6, .mv, [.t 0], none⟩,
  ⟨some 7, .len 0, [.t 6], none⟩,
  ⟨some 8, .bin .add, [.t 7, .c (.p (.v (.int .i64 1)))], none⟩,
  ⟨some 9, .mks 109 3 40 [.v (.string ⟨#[]⟩), .v (.string ⟨#[]⟩), .v (.int .i64 0)], [.c (.p (.v (.int .i64 0))), .t 8], none⟩,
  ⟨some 5, .mv, [.t 9], none⟩])
 (.seq (.reg [⟨some 10, .mv, [.t 5], none⟩,
  ⟨some 11, .mv, [.t 0], none⟩,
  ⟨some 12, .app 109 3 40, [.t 10, .t 11], none⟩,
  ⟨some 5, .mv, [.t 12], none⟩])
 (.seq (.reg [⟨some 13, .mv, [.t 5], none⟩,
  ⟨some 14, .load 3 true, [.t 3], none⟩,
  ⟨some 15, .bsl 109 3 1 [.v (.string ⟨#[]⟩), .v (.string ⟨#[]⟩), .v (.int .i64 0)] [0], [.t 14], none⟩,
  ⟨some 16, .app 109 3 40, [.t 13, .t 15], none⟩,
  ⟨some 5, .mv, [.t 16], none⟩])
 (.seq (.reg [⟨some 17, .mv, [.t 5], none⟩,
  ⟨some 18, .mv, [.t 0], none⟩,
  ⟨some 19, .len 0, [.t 18], none⟩,
  ⟨some 20, .slc 3 false true, [.t 17, .t 19], none⟩,
  ⟨some 4, .mv, [.t 20], none⟩])
 .ret)))))
theorem ret79 {ps : List PV} {p : PV} (hn : Nat.ble ps.length 21 = true) (h : (∀ q ∈ ps, q.bd) → Run Try.prog (fun e s' => (∀ id, e ≠ .exit id) ∧ ∃ ns, s'.out [.t 4] = some (p, ns)) [] c79 (S (initL 0 ps) [])) : Ret Try.prog 79 ps p :=
  ret_run Try.func79 rfl (by kernel_rfl) rfl (by kernel_rfl) (by kernel_rfl) (by kernel_rfl) (by kernel_rfl) (Nat.le_of_ble_eq_true hn) h

/-- stevedore/stevedorekeep.lent[stevedore/api.Notice] -/
def c80 : C :=
  (.seq (.reg [⟨some 3, .box, [.t 1], none⟩,
  ⟨some 4, .mv, [.c .nil], none⟩])
 (.seq (.reg [⟨some 6, .mv, [.t 0], none⟩,
  ⟨some 7, .len 0, [.t 6], none⟩,
  ⟨some 8, .bin .add, [.t 7, .c (.p (.v (.int .i64 1)))], none⟩,
  ⟨some 9, .mks 115 51 488 [.v (.string ⟨#[]⟩), .v (.string ⟨#[]⟩), .v (.string ⟨#[]⟩), .v (.int .i64 0), .v (.int .i64 0), .v (.int .i64 0), .v (.int .i64 0), .v (.int .i64 0), .v (.string ⟨#[]⟩), .v (.int .i64 0), .v (.int .i64 0), .v (.int .i64 0), .v (.int .i64 0), .v (.int .i64 0), .v (.string ⟨#[]⟩), .v (.int .i64 0), .v (.int .i64 0), .v (.int .i64 0), .v (.int .i64 0), .v (.int .i64 0), .v (.string ⟨#[]⟩), .v (.int .i64 0), .v (.int .i64 0), .v (.int .i64 0), .v (.int .i64 0), .v (.int .i64 0), .v (.string ⟨#[]⟩), .v (.int .i64 0), .v (.int .i64 0), .v (.int .i64 0), .v (.int .i64 0), .v (.int .i64 0), .v (.string ⟨#[]⟩), .v (.int .i64 0), .v (.int .i64 0), .v (.int .i64 0), .v (.int .i64 0), .v (.int .i64 0), .v (.string ⟨#[]⟩), .v (.int .i64 0), .v (.int .i64 0), .v (.int .i64 0), .v (.int .i64 0), .v (.int .i64 0), .v (.string ⟨#[]⟩), .v (.int .i64 0), .v (.int .i64 0), .v (.int .i64 0), .v (.int .i64 0), .v (.int .i64 0), .v (.bool false)], [.c (.p (.v (.int .i64 0))), .t 8], none⟩,
  ⟨some 5, .mv, [.t 9], none⟩])
 (.seq (.reg [⟨some 10, .mv, [.t 5], none⟩,
  ⟨some 11, .mv, [.t 0], none⟩,
  ⟨some 12, .app 115 51 488, [.t 10, .t 11], none⟩,
  ⟨some 5, .mv, [.t 12], none⟩])
 (.seq (.reg [⟨some 13, .mv, [.t 5], none⟩,
  ⟨some 14, .load 51 true, [.t 3], none⟩,
  ⟨some 15, .bsl 115 51 1 [.v (.string ⟨#[]⟩), .v (.string ⟨#[]⟩), .v (.string ⟨#[]⟩), .v (.int .i64 0), .v (.int .i64 0), .v (.int .i64 0), .v (.int .i64 0), .v (.int .i64 0), .v (.string ⟨#[]⟩), .v (.int .i64 0), .v (.int .i64 0), .v (.int .i64 0), .v (.int .i64 0), .v (.int .i64 0), .v (.string ⟨#[]⟩), .v (.int .i64 0), .v (.int .i64 0), .v (.int .i64 0), .v (.int .i64 0), .v (.int .i64 0), .v (.string ⟨#[]⟩), .v (.int .i64 0), .v (.int .i64 0), .v (.int .i64 0), .v (.int .i64 0), .v (.int .i64 0), .v (.string ⟨#[]⟩), .v (.int .i64 0), .v (.int .i64 0), .v (.int .i64 0), .v (.int .i64 0), .v (.int .i64 0), .v (.string ⟨#[]⟩), .v (.int .i64 0), .v (.int .i64 0), .v (.int .i64 0), .v (.int .i64 0), .v (.int .i64 0), .v (.string ⟨#[]⟩), .v (.int .i64 0), .v (.int .i64 0), .v (.int .i64 0), .v (.int .i64 0), .v (.int .i64 0), .v (.string ⟨#[]⟩), .v (.int .i64 0), .v (.int .i64 0), .v (.int .i64 0), .v (.int .i64 0), .v (.int .i64 0), .v (.bool false)] [0], [.t 14], none⟩,
  ⟨some 16, .app 115 51 488, [.t 13, .t 15], none⟩,
  ⟨some 5, .mv, [.t 16], none⟩])
 (.seq (.reg [⟨some 17, .mv, [.t 5], none⟩,
  ⟨some 18, .mv, [.t 0], none⟩,
  ⟨some 19, .len 0, [.t 18], none⟩,
  ⟨some 20, .slc 51 false true, [.t 17, .t 19], none⟩,
  ⟨some 4, .mv, [.t 20], none⟩])
 .ret)))))
theorem ret80 {ps : List PV} {p : PV} (hn : Nat.ble ps.length 21 = true) (h : (∀ q ∈ ps, q.bd) → Run Try.prog (fun e s' => (∀ id, e ≠ .exit id) ∧ ∃ ns, s'.out [.t 4] = some (p, ns)) [] c80 (S (initL 0 ps) [])) : Ret Try.prog 80 ps p :=
  ret_run Try.func80 rfl (by kernel_rfl) rfl (by kernel_rfl) (by kernel_rfl) (by kernel_rfl) (by kernel_rfl) (Nat.le_of_ble_eq_true hn) h

/-- stevedore/stevedorekeep.lent[stevedore/api.Order] -/
def c81 : C :=
  (.seq (.reg [⟨some 3, .box, [.t 1], none⟩,
  ⟨some 4, .mv, [.c .nil], none⟩])
 (.seq (.reg [⟨some 6, .mv, [.t 0], none⟩,
  ⟨some 7, .len 0, [.t 6], none⟩,
  ⟨some 8, .bin .add, [.t 7, .c (.p (.v (.int .i64 1)))], none⟩,
  ⟨some 9, .mks 118 50 480 [.v (.string ⟨#[]⟩), .v (.string ⟨#[]⟩), .v (.string ⟨#[]⟩), .v (.int .i64 0), .v (.int .i64 0), .v (.int .i64 0), .v (.int .i64 0), .v (.int .i64 0), .v (.string ⟨#[]⟩), .v (.int .i64 0), .v (.int .i64 0), .v (.int .i64 0), .v (.int .i64 0), .v (.int .i64 0), .v (.string ⟨#[]⟩), .v (.int .i64 0), .v (.int .i64 0), .v (.int .i64 0), .v (.int .i64 0), .v (.int .i64 0), .v (.string ⟨#[]⟩), .v (.int .i64 0), .v (.int .i64 0), .v (.int .i64 0), .v (.int .i64 0), .v (.int .i64 0), .v (.string ⟨#[]⟩), .v (.int .i64 0), .v (.int .i64 0), .v (.int .i64 0), .v (.int .i64 0), .v (.int .i64 0), .v (.string ⟨#[]⟩), .v (.int .i64 0), .v (.int .i64 0), .v (.int .i64 0), .v (.int .i64 0), .v (.int .i64 0), .v (.string ⟨#[]⟩), .v (.int .i64 0), .v (.int .i64 0), .v (.int .i64 0), .v (.int .i64 0), .v (.int .i64 0), .v (.string ⟨#[]⟩), .v (.int .i64 0), .v (.int .i64 0), .v (.int .i64 0), .v (.int .i64 0), .v (.int .i64 0)], [.c (.p (.v (.int .i64 0))), .t 8], none⟩,
  ⟨some 5, .mv, [.t 9], none⟩])
 (.seq (.reg [⟨some 10, .mv, [.t 5], none⟩,
  ⟨some 11, .mv, [.t 0], none⟩,
  ⟨some 12, .app 118 50 480, [.t 10, .t 11], none⟩,
  ⟨some 5, .mv, [.t 12], none⟩])
 (.seq (.reg [⟨some 13, .mv, [.t 5], none⟩,
  ⟨some 14, .load 50 true, [.t 3], none⟩,
  ⟨some 15, .bsl 118 50 1 [.v (.string ⟨#[]⟩), .v (.string ⟨#[]⟩), .v (.string ⟨#[]⟩), .v (.int .i64 0), .v (.int .i64 0), .v (.int .i64 0), .v (.int .i64 0), .v (.int .i64 0), .v (.string ⟨#[]⟩), .v (.int .i64 0), .v (.int .i64 0), .v (.int .i64 0), .v (.int .i64 0), .v (.int .i64 0), .v (.string ⟨#[]⟩), .v (.int .i64 0), .v (.int .i64 0), .v (.int .i64 0), .v (.int .i64 0), .v (.int .i64 0), .v (.string ⟨#[]⟩), .v (.int .i64 0), .v (.int .i64 0), .v (.int .i64 0), .v (.int .i64 0), .v (.int .i64 0), .v (.string ⟨#[]⟩), .v (.int .i64 0), .v (.int .i64 0), .v (.int .i64 0), .v (.int .i64 0), .v (.int .i64 0), .v (.string ⟨#[]⟩), .v (.int .i64 0), .v (.int .i64 0), .v (.int .i64 0), .v (.int .i64 0), .v (.int .i64 0), .v (.string ⟨#[]⟩), .v (.int .i64 0), .v (.int .i64 0), .v (.int .i64 0), .v (.int .i64 0), .v (.int .i64 0), .v (.string ⟨#[]⟩), .v (.int .i64 0), .v (.int .i64 0), .v (.int .i64 0), .v (.int .i64 0), .v (.int .i64 0)] [0], [.t 14], none⟩,
  ⟨some 16, .app 118 50 480, [.t 13, .t 15], none⟩,
  ⟨some 5, .mv, [.t 16], none⟩])
 (.seq (.reg [⟨some 17, .mv, [.t 5], none⟩,
  ⟨some 18, .mv, [.t 0], none⟩,
  ⟨some 19, .len 0, [.t 18], none⟩,
  ⟨some 20, .slc 50 false true, [.t 17, .t 19], none⟩,
  ⟨some 4, .mv, [.t 20], none⟩])
 .ret)))))
theorem ret81 {ps : List PV} {p : PV} (hn : Nat.ble ps.length 21 = true) (h : (∀ q ∈ ps, q.bd) → Run Try.prog (fun e s' => (∀ id, e ≠ .exit id) ∧ ∃ ns, s'.out [.t 4] = some (p, ns)) [] c81 (S (initL 0 ps) [])) : Ret Try.prog 81 ps p :=
  ret_run Try.func81 rfl (by kernel_rfl) rfl (by kernel_rfl) (by kernel_rfl) (by kernel_rfl) (by kernel_rfl) (Nat.le_of_ble_eq_true hn) h

/-- stevedore/stevedorekeep.lent[stevedore/api.Claim] -/
def c82 : C :=
  (.seq (.reg [⟨some 3, .box, [.t 1], none⟩,
  ⟨some 4, .mv, [.c .nil], none⟩])
 (.seq (.reg [⟨some 6, .mv, [.t 0], none⟩,
  ⟨some 7, .len 0, [.t 6], none⟩,
  ⟨some 8, .bin .add, [.t 7, .c (.p (.v (.int .i64 1)))], none⟩,
  ⟨some 9, .mks 121 8 96 [.v (.string ⟨#[]⟩), .v (.int .i64 0), .v (.string ⟨#[]⟩), .v (.string ⟨#[]⟩), .v (.string ⟨#[]⟩), .v (.int .i64 0), .v (.int .i64 0), .v (.int .i64 0)], [.c (.p (.v (.int .i64 0))), .t 8], none⟩,
  ⟨some 5, .mv, [.t 9], none⟩])
 (.seq (.reg [⟨some 10, .mv, [.t 5], none⟩,
  ⟨some 11, .mv, [.t 0], none⟩,
  ⟨some 12, .app 121 8 96, [.t 10, .t 11], none⟩,
  ⟨some 5, .mv, [.t 12], none⟩])
 (.seq (.reg [⟨some 13, .mv, [.t 5], none⟩,
  ⟨some 14, .load 8 true, [.t 3], none⟩,
  ⟨some 15, .bsl 121 8 1 [.v (.string ⟨#[]⟩), .v (.int .i64 0), .v (.string ⟨#[]⟩), .v (.string ⟨#[]⟩), .v (.string ⟨#[]⟩), .v (.int .i64 0), .v (.int .i64 0), .v (.int .i64 0)] [0], [.t 14], none⟩,
  ⟨some 16, .app 121 8 96, [.t 13, .t 15], none⟩,
  ⟨some 5, .mv, [.t 16], none⟩])
 (.seq (.reg [⟨some 17, .mv, [.t 5], none⟩,
  ⟨some 18, .mv, [.t 0], none⟩,
  ⟨some 19, .len 0, [.t 18], none⟩,
  ⟨some 20, .slc 8 false true, [.t 17, .t 19], none⟩,
  ⟨some 4, .mv, [.t 20], none⟩])
 .ret)))))
theorem ret82 {ps : List PV} {p : PV} (hn : Nat.ble ps.length 21 = true) (h : (∀ q ∈ ps, q.bd) → Run Try.prog (fun e s' => (∀ id, e ≠ .exit id) ∧ ∃ ns, s'.out [.t 4] = some (p, ns)) [] c82 (S (initL 0 ps) [])) : Ret Try.prog 82 ps p :=
  ret_run Try.func82 rfl (by kernel_rfl) rfl (by kernel_rfl) (by kernel_rfl) (by kernel_rfl) (by kernel_rfl) (Nat.le_of_ble_eq_true hn) h

/-- stevedore/stevedorekeep.lent[stevedore/api.Task] -/
def c83 : C :=
  (.seq (.reg [⟨some 3, .box, [.t 1], none⟩,
  ⟨some 4, .mv, [.c .nil], none⟩])
 (.seq (.reg [⟨some 6, .mv, [.t 0], none⟩,
  ⟨some 7, .len 0, [.t 6], none⟩,
  ⟨some 8, .bin .add, [.t 7, .c (.p (.v (.int .i64 1)))], none⟩,
  ⟨some 9, .mks 124 11 136 [.v (.int .i64 0), .v (.int .i64 0), .v (.string ⟨#[]⟩), .v (.int .i64 0), .v (.string ⟨#[]⟩), .v (.string ⟨#[]⟩), .v (.string ⟨#[]⟩), .v (.int .i64 0), .v (.string ⟨#[]⟩), .v (.int .i64 0), .v (.string ⟨#[]⟩)], [.c (.p (.v (.int .i64 0))), .t 8], none⟩,
  ⟨some 5, .mv, [.t 9], none⟩])
 (.seq (.reg [⟨some 10, .mv, [.t 5], none⟩,
  ⟨some 11, .mv, [.t 0], none⟩,
  ⟨some 12, .app 124 11 136, [.t 10, .t 11], none⟩,
  ⟨some 5, .mv, [.t 12], none⟩])
 (.seq (.reg [⟨some 13, .mv, [.t 5], none⟩,
  ⟨some 14, .load 11 true, [.t 3], none⟩,
  ⟨some 15, .bsl 124 11 1 [.v (.int .i64 0), .v (.int .i64 0), .v (.string ⟨#[]⟩), .v (.int .i64 0), .v (.string ⟨#[]⟩), .v (.string ⟨#[]⟩), .v (.string ⟨#[]⟩), .v (.int .i64 0), .v (.string ⟨#[]⟩), .v (.int .i64 0), .v (.string ⟨#[]⟩)] [0], [.t 14], none⟩,
  ⟨some 16, .app 124 11 136, [.t 13, .t 15], none⟩,
  ⟨some 5, .mv, [.t 16], none⟩])
 (.seq (.reg [⟨some 17, .mv, [.t 5], none⟩,
  ⟨some 18, .mv, [.t 0], none⟩,
  ⟨some 19, .len 0, [.t 18], none⟩,
  ⟨some 20, .slc 11 false true, [.t 17, .t 19], none⟩,
  ⟨some 4, .mv, [.t 20], none⟩])
 .ret)))))
theorem ret83 {ps : List PV} {p : PV} (hn : Nat.ble ps.length 21 = true) (h : (∀ q ∈ ps, q.bd) → Run Try.prog (fun e s' => (∀ id, e ≠ .exit id) ∧ ∃ ns, s'.out [.t 4] = some (p, ns)) [] c83 (S (initL 0 ps) [])) : Ret Try.prog 83 ps p :=
  ret_run Try.func83 rfl (by kernel_rfl) rfl (by kernel_rfl) (by kernel_rfl) (by kernel_rfl) (by kernel_rfl) (Nat.le_of_ble_eq_true hn) h

/-- stevedore/stevedorekeep.lent[stevedore/api.Parcel] -/
def c84 : C :=
  (.seq (.reg [⟨some 3, .box, [.t 1], none⟩,
  ⟨some 4, .mv, [.c .nil], none⟩])
 (.seq (.reg [⟨some 6, .mv, [.t 0], none⟩,
  ⟨some 7, .len 0, [.t 6], none⟩,
  ⟨some 8, .bin .add, [.t 7, .c (.p (.v (.int .i64 1)))], none⟩,
  ⟨some 9, .mks 127 2 32 [.v (.string ⟨#[]⟩), .v (.string ⟨#[]⟩)], [.c (.p (.v (.int .i64 0))), .t 8], none⟩,
  ⟨some 5, .mv, [.t 9], none⟩])
 (.seq (.reg [⟨some 10, .mv, [.t 5], none⟩,
  ⟨some 11, .mv, [.t 0], none⟩,
  ⟨some 12, .app 127 2 32, [.t 10, .t 11], none⟩,
  ⟨some 5, .mv, [.t 12], none⟩])
 (.seq (.reg [⟨some 13, .mv, [.t 5], none⟩,
  ⟨some 14, .load 2 true, [.t 3], none⟩,
  ⟨some 15, .bsl 127 2 1 [.v (.string ⟨#[]⟩), .v (.string ⟨#[]⟩)] [0], [.t 14], none⟩,
  ⟨some 16, .app 127 2 32, [.t 13, .t 15], none⟩,
  ⟨some 5, .mv, [.t 16], none⟩])
 (.seq (.reg [⟨some 17, .mv, [.t 5], none⟩,
  ⟨some 18, .mv, [.t 0], none⟩,
  ⟨some 19, .len 0, [.t 18], none⟩,
  ⟨some 20, .slc 2 false true, [.t 17, .t 19], none⟩,
  ⟨some 4, .mv, [.t 20], none⟩])
 .ret)))))
theorem ret84 {ps : List PV} {p : PV} (hn : Nat.ble ps.length 21 = true) (h : (∀ q ∈ ps, q.bd) → Run Try.prog (fun e s' => (∀ id, e ≠ .exit id) ∧ ∃ ns, s'.out [.t 4] = some (p, ns)) [] c84 (S (initL 0 ps) [])) : Ret Try.prog 84 ps p :=
  ret_run Try.func84 rfl (by kernel_rfl) rfl (by kernel_rfl) (by kernel_rfl) (by kernel_rfl) (by kernel_rfl) (Nat.le_of_ble_eq_true hn) h

/-- stevedore/stevedorekeep.lent[stevedore/api.Sent] -/
def c85 : C :=
  (.seq (.reg [⟨some 3, .box, [.t 1], none⟩,
  ⟨some 4, .mv, [.c .nil], none⟩])
 (.seq (.reg [⟨some 6, .mv, [.t 0], none⟩,
  ⟨some 7, .len 0, [.t 6], none⟩,
  ⟨some 8, .bin .add, [.t 7, .c (.p (.v (.int .i64 1)))], none⟩,
  ⟨some 9, .mks 130 5 64 [.v (.string ⟨#[]⟩), .v (.string ⟨#[]⟩), .v (.string ⟨#[]⟩), .v (.int .i64 0), .v (.int .i64 0)], [.c (.p (.v (.int .i64 0))), .t 8], none⟩,
  ⟨some 5, .mv, [.t 9], none⟩])
 (.seq (.reg [⟨some 10, .mv, [.t 5], none⟩,
  ⟨some 11, .mv, [.t 0], none⟩,
  ⟨some 12, .app 130 5 64, [.t 10, .t 11], none⟩,
  ⟨some 5, .mv, [.t 12], none⟩])
 (.seq (.reg [⟨some 13, .mv, [.t 5], none⟩,
  ⟨some 14, .load 5 true, [.t 3], none⟩,
  ⟨some 15, .bsl 130 5 1 [.v (.string ⟨#[]⟩), .v (.string ⟨#[]⟩), .v (.string ⟨#[]⟩), .v (.int .i64 0), .v (.int .i64 0)] [0], [.t 14], none⟩,
  ⟨some 16, .app 130 5 64, [.t 13, .t 15], none⟩,
  ⟨some 5, .mv, [.t 16], none⟩])
 (.seq (.reg [⟨some 17, .mv, [.t 5], none⟩,
  ⟨some 18, .mv, [.t 0], none⟩,
  ⟨some 19, .len 0, [.t 18], none⟩,
  ⟨some 20, .slc 5 false true, [.t 17, .t 19], none⟩,
  ⟨some 4, .mv, [.t 20], none⟩])
 .ret)))))
theorem ret85 {ps : List PV} {p : PV} (hn : Nat.ble ps.length 21 = true) (h : (∀ q ∈ ps, q.bd) → Run Try.prog (fun e s' => (∀ id, e ≠ .exit id) ∧ ∃ ns, s'.out [.t 4] = some (p, ns)) [] c85 (S (initL 0 ps) [])) : Ret Try.prog 85 ps p :=
  ret_run Try.func85 rfl (by kernel_rfl) rfl (by kernel_rfl) (by kernel_rfl) (by kernel_rfl) (by kernel_rfl) (Nat.le_of_ble_eq_true hn) h

/-- stevedore/stevedorekeep.lent[stevedore/api.Counted] -/
def c86 : C :=
  (.seq (.reg [⟨some 3, .box, [.t 1], none⟩,
  ⟨some 4, .mv, [.c .nil], none⟩])
 (.seq (.reg [⟨some 6, .mv, [.t 0], none⟩,
  ⟨some 7, .len 0, [.t 6], none⟩,
  ⟨some 8, .bin .add, [.t 7, .c (.p (.v (.int .i64 1)))], none⟩,
  ⟨some 9, .mks 133 5 64 [.v (.string ⟨#[]⟩), .v (.string ⟨#[]⟩), .v (.string ⟨#[]⟩), .v (.int .i64 0), .v (.int .i64 0)], [.c (.p (.v (.int .i64 0))), .t 8], none⟩,
  ⟨some 5, .mv, [.t 9], none⟩])
 (.seq (.reg [⟨some 10, .mv, [.t 5], none⟩,
  ⟨some 11, .mv, [.t 0], none⟩,
  ⟨some 12, .app 133 5 64, [.t 10, .t 11], none⟩,
  ⟨some 5, .mv, [.t 12], none⟩])
 (.seq (.reg [⟨some 13, .mv, [.t 5], none⟩,
  ⟨some 14, .load 5 true, [.t 3], none⟩,
  ⟨some 15, .bsl 133 5 1 [.v (.string ⟨#[]⟩), .v (.string ⟨#[]⟩), .v (.string ⟨#[]⟩), .v (.int .i64 0), .v (.int .i64 0)] [0], [.t 14], none⟩,
  ⟨some 16, .app 133 5 64, [.t 13, .t 15], none⟩,
  ⟨some 5, .mv, [.t 16], none⟩])
 (.seq (.reg [⟨some 17, .mv, [.t 5], none⟩,
  ⟨some 18, .mv, [.t 0], none⟩,
  ⟨some 19, .len 0, [.t 18], none⟩,
  ⟨some 20, .slc 5 false true, [.t 17, .t 19], none⟩,
  ⟨some 4, .mv, [.t 20], none⟩])
 .ret)))))
theorem ret86 {ps : List PV} {p : PV} (hn : Nat.ble ps.length 21 = true) (h : (∀ q ∈ ps, q.bd) → Run Try.prog (fun e s' => (∀ id, e ≠ .exit id) ∧ ∃ ns, s'.out [.t 4] = some (p, ns)) [] c86 (S (initL 0 ps) [])) : Ret Try.prog 86 ps p :=
  ret_run Try.func86 rfl (by kernel_rfl) rfl (by kernel_rfl) (by kernel_rfl) (by kernel_rfl) (by kernel_rfl) (Nat.le_of_ble_eq_true hn) h

/-- stevedore/stevedorekeep.lent[stevedore/api.Total] -/
def c87 : C :=
  (.seq (.reg [⟨some 3, .box, [.t 1], none⟩,
  ⟨some 4, .mv, [.c .nil], none⟩])
 (.seq (.reg [⟨some 6, .mv, [.t 0], none⟩,
  ⟨some 7, .len 0, [.t 6], none⟩,
  ⟨some 8, .bin .add, [.t 7, .c (.p (.v (.int .i64 1)))], none⟩,
  ⟨some 9, .mks 136 6 64 [.v (.string ⟨#[]⟩), .v (.string ⟨#[]⟩), .v (.int .i64 0), .v (.int .i64 0), .v (.int .i64 0), .v (.int .i64 0)], [.c (.p (.v (.int .i64 0))), .t 8], none⟩,
  ⟨some 5, .mv, [.t 9], none⟩])
 (.seq (.reg [⟨some 10, .mv, [.t 5], none⟩,
  ⟨some 11, .mv, [.t 0], none⟩,
  ⟨some 12, .app 136 6 64, [.t 10, .t 11], none⟩,
  ⟨some 5, .mv, [.t 12], none⟩])
 (.seq (.reg [⟨some 13, .mv, [.t 5], none⟩,
  ⟨some 14, .load 6 true, [.t 3], none⟩,
  ⟨some 15, .bsl 136 6 1 [.v (.string ⟨#[]⟩), .v (.string ⟨#[]⟩), .v (.int .i64 0), .v (.int .i64 0), .v (.int .i64 0), .v (.int .i64 0)] [0], [.t 14], none⟩,
  ⟨some 16, .app 136 6 64, [.t 13, .t 15], none⟩,
  ⟨some 5, .mv, [.t 16], none⟩])
 (.seq (.reg [⟨some 17, .mv, [.t 5], none⟩,
  ⟨some 18, .mv, [.t 0], none⟩,
  ⟨some 19, .len 0, [.t 18], none⟩,
  ⟨some 20, .slc 6 false true, [.t 17, .t 19], none⟩,
  ⟨some 4, .mv, [.t 20], none⟩])
 .ret)))))
theorem ret87 {ps : List PV} {p : PV} (hn : Nat.ble ps.length 21 = true) (h : (∀ q ∈ ps, q.bd) → Run Try.prog (fun e s' => (∀ id, e ≠ .exit id) ∧ ∃ ns, s'.out [.t 4] = some (p, ns)) [] c87 (S (initL 0 ps) [])) : Ret Try.prog 87 ps p :=
  ret_run Try.func87 rfl (by kernel_rfl) rfl (by kernel_rfl) (by kernel_rfl) (by kernel_rfl) (by kernel_rfl) (Nat.le_of_ble_eq_true hn) h

/-- stevedore/stevedorekeep.same[stevedore/api.Item] -/
def c92 : C :=
  (.seq (.reg [⟨some 4, .mv, [.c (.p (.v (.bool false)))], none⟩])
 (.seq (.seq (.reg [⟨some 6, .mv, [.t 0], none⟩,
  ⟨some 7, .len 0, [.t 6], none⟩,
  ⟨some 8, .mv, [.t 1], none⟩,
  ⟨some 9, .len 0, [.t 8], none⟩,
  ⟨some 10, .bin .neq, [.t 7, .t 9], none⟩])
 (.cond (.t 10)
 (.seq (.reg [⟨some 4, .mv, [.c (.p (.v (.bool false)))], none⟩])
 .ret)
 .skip))
 (.seq (.seq (.reg [⟨some 5, .mv, [.c (.p (.v (.int .i64 0)))], none⟩])
 (.block 0
 (.loop
 (.seq (.seq (.reg [⟨some 11, .mv, [.t 5], none⟩,
  ⟨some 12, .mv, [.t 0], none⟩,
  ⟨some 13, .len 0, [.t 12], none⟩,
  ⟨some 14, .bin .lss, [.t 11, .t 13], none⟩])
 (.cond (.t 14)
 .skip
 (.exit 0)))
 (.seq (.block 1
 (.seq (.regd [⟨some 17, .mv, [.t 0], none⟩,
  ⟨some 18, .mv, [.t 5], none⟩,
  ⟨some 19, .iad 14, [.t 17, .t 18], none⟩,
  ⟨some 20, .load 14 true, [.t 19], none⟩,
  ⟨some 21, .mv, [.t 1], none⟩,
  ⟨some 22, .mv, [.t 5], none⟩,
  ⟨some 23, .iad 14, [.t 21, .t 22], none⟩,
  ⟨some 24, .load 14 true, [.t 23], none⟩,
  ⟨some 25, .eqs true [.s, .s, .i .i64, .s, .i .i64, .s, .i .i64, .s, .i .i64, .i .i64, .i .i64, .b, .b, .b], [.t 20, .t 24], none⟩])
 (.cond (.t 25)
 (.seq (.reg [⟨some 4, .mv, [.c (.p (.v (.bool false)))], none⟩])
 .ret)
 .skip)))
 (.reg [⟨some 15, .mv, [.t 5], none⟩,
  ⟨some 16, .bin .add, [.t 15, .c (.p (.v (.int .i64 1)))], none⟩,
  ⟨some 5, .mv, [.t 16], none⟩]))))))
 (.seq (.reg [⟨some 4, .mv, [.c (.p (.v (.bool true)))], none⟩])
 .ret))))
theorem ret92 {ps : List PV} {p : PV} (hn : Nat.ble ps.length 26 = true) (h : (∀ q ∈ ps, q.bd) → Run Try.prog (fun e s' => (∀ id, e ≠ .exit id) ∧ ∃ ns, s'.out [.t 4] = some (p, ns)) [] c92 (S (initL 0 ps) [])) : Ret Try.prog 92 ps p :=
  ret_run Try.func92 rfl (by kernel_rfl) rfl (by kernel_rfl) (by kernel_rfl) (by kernel_rfl) (by kernel_rfl) (Nat.le_of_ble_eq_true hn) h

/-- stevedore/stevedorekeep.same[stevedore/api.Lot] -/
def c93 : C :=
  (.seq (.reg [⟨some 4, .mv, [.c (.p (.v (.bool false)))], none⟩])
 (.seq (.seq (.reg [⟨some 6, .mv, [.t 0], none⟩,
  ⟨some 7, .len 0, [.t 6], none⟩,
  ⟨some 8, .mv, [.t 1], none⟩,
  ⟨some 9, .len 0, [.t 8], none⟩,
  ⟨some 10, .bin .neq, [.t 7, .t 9], none⟩])
 (.cond (.t 10)
 (.seq (.reg [⟨some 4, .mv, [.c (.p (.v (.bool false)))], none⟩])
 .ret)
 .skip))
 (.seq (.seq (.reg [⟨some 5, .mv, [.c (.p (.v (.int .i64 0)))], none⟩])
 (.block 0
 (.loop
 (.seq (.seq (.reg [⟨some 11, .mv, [.t 5], none⟩,
  ⟨some 12, .mv, [.t 0], none⟩,
  ⟨some 13, .len 0, [.t 12], none⟩,
  ⟨some 14, .bin .lss, [.t 11, .t 13], none⟩])
 (.cond (.t 14)
 .skip
 (.exit 0)))
 (.seq (.block 1
 (.seq (.regd [⟨some 17, .mv, [.t 0], none⟩,
  ⟨some 18, .mv, [.t 5], none⟩,
  ⟨some 19, .iad 3, [.t 17, .t 18], none⟩,
  ⟨some 20, .load 3 true, [.t 19], none⟩,
  ⟨some 21, .mv, [.t 1], none⟩,
  ⟨some 22, .mv, [.t 5], none⟩,
  ⟨some 23, .iad 3, [.t 21, .t 22], none⟩,
  ⟨some 24, .load 3 true, [.t 23], none⟩,
  ⟨some 25, .eqs true [.s, .s, .i .i64], [.t 20, .t 24], none⟩])
 (.cond (.t 25)
 (.seq (.reg [⟨some 4, .mv, [.c (.p (.v (.bool false)))], none⟩])
 .ret)
 .skip)))
 (.reg [⟨some 15, .mv, [.t 5], none⟩,
  ⟨some 16, .bin .add, [.t 15, .c (.p (.v (.int .i64 1)))], none⟩,
  ⟨some 5, .mv, [.t 16], none⟩]))))))
 (.seq (.reg [⟨some 4, .mv, [.c (.p (.v (.bool true)))], none⟩])
 .ret))))
theorem ret93 {ps : List PV} {p : PV} (hn : Nat.ble ps.length 26 = true) (h : (∀ q ∈ ps, q.bd) → Run Try.prog (fun e s' => (∀ id, e ≠ .exit id) ∧ ∃ ns, s'.out [.t 4] = some (p, ns)) [] c93 (S (initL 0 ps) [])) : Ret Try.prog 93 ps p :=
  ret_run Try.func93 rfl (by kernel_rfl) rfl (by kernel_rfl) (by kernel_rfl) (by kernel_rfl) (by kernel_rfl) (Nat.le_of_ble_eq_true hn) h

/-- stevedore/stevedorekeep.same[stevedore/api.Zone] -/
def c94 : C :=
  (.seq (.reg [⟨some 4, .mv, [.c (.p (.v (.bool false)))], none⟩])
 (.seq (.seq (.reg [⟨some 6, .mv, [.t 0], none⟩,
  ⟨some 7, .len 0, [.t 6], none⟩,
  ⟨some 8, .mv, [.t 1], none⟩,
  ⟨some 9, .len 0, [.t 8], none⟩,
  ⟨some 10, .bin .neq, [.t 7, .t 9], none⟩])
 (.cond (.t 10)
 (.seq (.reg [⟨some 4, .mv, [.c (.p (.v (.bool false)))], none⟩])
 .ret)
 .skip))
 (.seq (.seq (.reg [⟨some 5, .mv, [.c (.p (.v (.int .i64 0)))], none⟩])
 (.block 0
 (.loop
 (.seq (.seq (.reg [⟨some 11, .mv, [.t 5], none⟩,
  ⟨some 12, .mv, [.t 0], none⟩,
  ⟨some 13, .len 0, [.t 12], none⟩,
  ⟨some 14, .bin .lss, [.t 11, .t 13], none⟩])
 (.cond (.t 14)
 .skip
 (.exit 0)))
 (.seq (.block 1
 (.seq (.regd [⟨some 17, .mv, [.t 0], none⟩,
  ⟨some 18, .mv, [.t 5], none⟩,
  ⟨some 19, .iad 2, [.t 17, .t 18], none⟩,
  ⟨some 20, .load 2 true, [.t 19], none⟩,
  ⟨some 21, .mv, [.t 1], none⟩,
  ⟨some 22, .mv, [.t 5], none⟩,
  ⟨some 23, .iad 2, [.t 21, .t 22], none⟩,
  ⟨some 24, .load 2 true, [.t 23], none⟩,
  ⟨some 25, .eqs true [.s, .s], [.t 20, .t 24], none⟩])
 (.cond (.t 25)
 (.seq (.reg [⟨some 4, .mv, [.c (.p (.v (.bool false)))], none⟩])
 .ret)
 .skip)))
 (.reg [⟨some 15, .mv, [.t 5], none⟩,
  ⟨some 16, .bin .add, [.t 15, .c (.p (.v (.int .i64 1)))], none⟩,
  ⟨some 5, .mv, [.t 16], none⟩]))))))
 (.seq (.reg [⟨some 4, .mv, [.c (.p (.v (.bool true)))], none⟩])
 .ret))))
theorem ret94 {ps : List PV} {p : PV} (hn : Nat.ble ps.length 26 = true) (h : (∀ q ∈ ps, q.bd) → Run Try.prog (fun e s' => (∀ id, e ≠ .exit id) ∧ ∃ ns, s'.out [.t 4] = some (p, ns)) [] c94 (S (initL 0 ps) [])) : Ret Try.prog 94 ps p :=
  ret_run Try.func94 rfl (by kernel_rfl) rfl (by kernel_rfl) (by kernel_rfl) (by kernel_rfl) (by kernel_rfl) (Nat.le_of_ble_eq_true hn) h

/-- stevedore/stevedorekeep.same[stevedore/api.Bin] -/
def c95 : C :=
  (.seq (.reg [⟨some 4, .mv, [.c (.p (.v (.bool false)))], none⟩])
 (.seq (.seq (.reg [⟨some 6, .mv, [.t 0], none⟩,
  ⟨some 7, .len 0, [.t 6], none⟩,
  ⟨some 8, .mv, [.t 1], none⟩,
  ⟨some 9, .len 0, [.t 8], none⟩,
  ⟨some 10, .bin .neq, [.t 7, .t 9], none⟩])
 (.cond (.t 10)
 (.seq (.reg [⟨some 4, .mv, [.c (.p (.v (.bool false)))], none⟩])
 .ret)
 .skip))
 (.seq (.seq (.reg [⟨some 5, .mv, [.c (.p (.v (.int .i64 0)))], none⟩])
 (.block 0
 (.loop
 (.seq (.seq (.reg [⟨some 11, .mv, [.t 5], none⟩,
  ⟨some 12, .mv, [.t 0], none⟩,
  ⟨some 13, .len 0, [.t 12], none⟩,
  ⟨some 14, .bin .lss, [.t 11, .t 13], none⟩])
 (.cond (.t 14)
 .skip
 (.exit 0)))
 (.seq (.block 1
 (.seq (.regd [⟨some 17, .mv, [.t 0], none⟩,
  ⟨some 18, .mv, [.t 5], none⟩,
  ⟨some 19, .iad 8, [.t 17, .t 18], none⟩,
  ⟨some 20, .load 8 true, [.t 19], none⟩,
  ⟨some 21, .mv, [.t 1], none⟩,
  ⟨some 22, .mv, [.t 5], none⟩,
  ⟨some 23, .iad 8, [.t 21, .t 22], none⟩,
  ⟨some 24, .load 8 true, [.t 23], none⟩,
  ⟨some 25, .eqs true [.s, .s, .i .i64, .i .i64, .i .i64, .i .i64, .i .i64, .b], [.t 20, .t 24], none⟩])
 (.cond (.t 25)
 (.seq (.reg [⟨some 4, .mv, [.c (.p (.v (.bool false)))], none⟩])
 .ret)
 .skip)))
 (.reg [⟨some 15, .mv, [.t 5], none⟩,
  ⟨some 16, .bin .add, [.t 15, .c (.p (.v (.int .i64 1)))], none⟩,
  ⟨some 5, .mv, [.t 16], none⟩]))))))
 (.seq (.reg [⟨some 4, .mv, [.c (.p (.v (.bool true)))], none⟩])
 .ret))))
theorem ret95 {ps : List PV} {p : PV} (hn : Nat.ble ps.length 26 = true) (h : (∀ q ∈ ps, q.bd) → Run Try.prog (fun e s' => (∀ id, e ≠ .exit id) ∧ ∃ ns, s'.out [.t 4] = some (p, ns)) [] c95 (S (initL 0 ps) [])) : Ret Try.prog 95 ps p :=
  ret_run Try.func95 rfl (by kernel_rfl) rfl (by kernel_rfl) (by kernel_rfl) (by kernel_rfl) (by kernel_rfl) (Nat.le_of_ble_eq_true hn) h

/-- stevedore/stevedorekeep.same[stevedore/api.Quant] -/
def c96 : C :=
  (.seq (.reg [⟨some 4, .mv, [.c (.p (.v (.bool false)))], none⟩])
 (.seq (.seq (.reg [⟨some 6, .mv, [.t 0], none⟩,
  ⟨some 7, .len 0, [.t 6], none⟩,
  ⟨some 8, .mv, [.t 1], none⟩,
  ⟨some 9, .len 0, [.t 8], none⟩,
  ⟨some 10, .bin .neq, [.t 7, .t 9], none⟩])
 (.cond (.t 10)
 (.seq (.reg [⟨some 4, .mv, [.c (.p (.v (.bool false)))], none⟩])
 .ret)
 .skip))
 (.seq (.seq (.reg [⟨some 5, .mv, [.c (.p (.v (.int .i64 0)))], none⟩])
 (.block 0
 (.loop
 (.seq (.seq (.reg [⟨some 11, .mv, [.t 5], none⟩,
  ⟨some 12, .mv, [.t 0], none⟩,
  ⟨some 13, .len 0, [.t 12], none⟩,
  ⟨some 14, .bin .lss, [.t 11, .t 13], none⟩])
 (.cond (.t 14)
 .skip
 (.exit 0)))
 (.seq (.block 1
 (.seq (.regd [⟨some 17, .mv, [.t 0], none⟩,
  ⟨some 18, .mv, [.t 5], none⟩,
  ⟨some 19, .iad 6, [.t 17, .t 18], none⟩,
  ⟨some 20, .load 6 true, [.t 19], none⟩,
  ⟨some 21, .mv, [.t 1], none⟩,
  ⟨some 22, .mv, [.t 5], none⟩,
  ⟨some 23, .iad 6, [.t 21, .t 22], none⟩,
  ⟨some 24, .load 6 true, [.t 23], none⟩,
  ⟨some 25, .eqs true [.s, .s, .s, .i .i64, .i .i64, .i .i64], [.t 20, .t 24], none⟩])
 (.cond (.t 25)
 (.seq (.reg [⟨some 4, .mv, [.c (.p (.v (.bool false)))], none⟩])
 .ret)
 .skip)))
 (.reg [⟨some 15, .mv, [.t 5], none⟩,
  ⟨some 16, .bin .add, [.t 15, .c (.p (.v (.int .i64 1)))], none⟩,
  ⟨some 5, .mv, [.t 16], none⟩]))))))
 (.seq (.reg [⟨some 4, .mv, [.c (.p (.v (.bool true)))], none⟩])
 .ret))))
theorem ret96 {ps : List PV} {p : PV} (hn : Nat.ble ps.length 26 = true) (h : (∀ q ∈ ps, q.bd) → Run Try.prog (fun e s' => (∀ id, e ≠ .exit id) ∧ ∃ ns, s'.out [.t 4] = some (p, ns)) [] c96 (S (initL 0 ps) [])) : Ret Try.prog 96 ps p :=
  ret_run Try.func96 rfl (by kernel_rfl) rfl (by kernel_rfl) (by kernel_rfl) (by kernel_rfl) (by kernel_rfl) (Nat.le_of_ble_eq_true hn) h

/-- stevedore/stevedorekeep.same[stevedore/api.Rule] -/
def c97 : C :=
  (.seq (.reg [⟨some 4, .mv, [.c (.p (.v (.bool false)))], none⟩])
 (.seq (.seq (.reg [⟨some 6, .mv, [.t 0], none⟩,
  ⟨some 7, .len 0, [.t 6], none⟩,
  ⟨some 8, .mv, [.t 1], none⟩,
  ⟨some 9, .len 0, [.t 8], none⟩,
  ⟨some 10, .bin .neq, [.t 7, .t 9], none⟩])
 (.cond (.t 10)
 (.seq (.reg [⟨some 4, .mv, [.c (.p (.v (.bool false)))], none⟩])
 .ret)
 .skip))
 (.seq (.seq (.reg [⟨some 5, .mv, [.c (.p (.v (.int .i64 0)))], none⟩])
 (.block 0
 (.loop
 (.seq (.seq (.reg [⟨some 11, .mv, [.t 5], none⟩,
  ⟨some 12, .mv, [.t 0], none⟩,
  ⟨some 13, .len 0, [.t 12], none⟩,
  ⟨some 14, .bin .lss, [.t 11, .t 13], none⟩])
 (.cond (.t 14)
 .skip
 (.exit 0)))
 (.seq (.block 1
 (.seq (.regd [⟨some 17, .mv, [.t 0], none⟩,
  ⟨some 18, .mv, [.t 5], none⟩,
  ⟨some 19, .iad 3, [.t 17, .t 18], none⟩,
  ⟨some 20, .load 3 true, [.t 19], none⟩,
  ⟨some 21, .mv, [.t 1], none⟩,
  ⟨some 22, .mv, [.t 5], none⟩,
  ⟨some 23, .iad 3, [.t 21, .t 22], none⟩,
  ⟨some 24, .load 3 true, [.t 23], none⟩,
  ⟨some 25, .eqs true [.s, .s, .i .i64], [.t 20, .t 24], none⟩])
 (.cond (.t 25)
 (.seq (.reg [⟨some 4, .mv, [.c (.p (.v (.bool false)))], none⟩])
 .ret)
 .skip)))
 (.reg [⟨some 15, .mv, [.t 5], none⟩,
  ⟨some 16, .bin .add, [.t 15, .c (.p (.v (.int .i64 1)))], none⟩,
  ⟨some 5, .mv, [.t 16], none⟩]))))))
 (.seq (.reg [⟨some 4, .mv, [.c (.p (.v (.bool true)))], none⟩])
 .ret))))
theorem ret97 {ps : List PV} {p : PV} (hn : Nat.ble ps.length 26 = true) (h : (∀ q ∈ ps, q.bd) → Run Try.prog (fun e s' => (∀ id, e ≠ .exit id) ∧ ∃ ns, s'.out [.t 4] = some (p, ns)) [] c97 (S (initL 0 ps) [])) : Ret Try.prog 97 ps p :=
  ret_run Try.func97 rfl (by kernel_rfl) rfl (by kernel_rfl) (by kernel_rfl) (by kernel_rfl) (by kernel_rfl) (Nat.le_of_ble_eq_true hn) h

/-- stevedore/stevedorekeep.same[stevedore/api.Notice] -/
def c98 : C :=
  (.seq (.reg [⟨some 4, .mv, [.c (.p (.v (.bool false)))], none⟩])
 (.seq (.seq (.reg [⟨some 6, .mv, [.t 0], none⟩,
  ⟨some 7, .len 0, [.t 6], none⟩,
  ⟨some 8, .mv, [.t 1], none⟩,
  ⟨some 9, .len 0, [.t 8], none⟩,
  ⟨some 10, .bin .neq, [.t 7, .t 9], none⟩])
 (.cond (.t 10)
 (.seq (.reg [⟨some 4, .mv, [.c (.p (.v (.bool false)))], none⟩])
 .ret)
 .skip))
 (.seq (.seq (.reg [⟨some 5, .mv, [.c (.p (.v (.int .i64 0)))], none⟩])
 (.block 0
 (.loop
 (.seq (.seq (.reg [⟨some 11, .mv, [.t 5], none⟩,
  ⟨some 12, .mv, [.t 0], none⟩,
  ⟨some 13, .len 0, [.t 12], none⟩,
  ⟨some 14, .bin .lss, [.t 11, .t 13], none⟩])
 (.cond (.t 14)
 .skip
 (.exit 0)))
 (.seq (.block 1
 (.seq (.regd [⟨some 17, .mv, [.t 0], none⟩,
  ⟨some 18, .mv, [.t 5], none⟩,
  ⟨some 19, .iad 51, [.t 17, .t 18], none⟩,
  ⟨some 20, .load 51 true, [.t 19], none⟩,
  ⟨some 21, .mv, [.t 1], none⟩,
  ⟨some 22, .mv, [.t 5], none⟩,
  ⟨some 23, .iad 51, [.t 21, .t 22], none⟩,
  ⟨some 24, .load 51 true, [.t 23], none⟩,
  ⟨some 25, .eqs true [.s, .s, .s, .i .i64, .i .i64, .i .i64, .i .i64, .i .i64, .s, .i .i64, .i .i64, .i .i64, .i .i64, .i .i64, .s, .i .i64, .i .i64, .i .i64, .i .i64, .i .i64, .s, .i .i64, .i .i64, .i .i64, .i .i64, .i .i64, .s, .i .i64, .i .i64, .i .i64, .i .i64, .i .i64, .s, .i .i64, .i .i64, .i .i64, .i .i64, .i .i64, .s, .i .i64, .i .i64, .i .i64, .i .i64, .i .i64, .s, .i .i64, .i .i64, .i .i64, .i .i64, .i .i64, .b], [.t 20, .t 24], none⟩])
 (.cond (.t 25)
 (.seq (.reg [⟨some 4, .mv, [.c (.p (.v (.bool false)))], none⟩])
 .ret)
 .skip)))
 (.reg [⟨some 15, .mv, [.t 5], none⟩,
  ⟨some 16, .bin .add, [.t 15, .c (.p (.v (.int .i64 1)))], none⟩,
  ⟨some 5, .mv, [.t 16], none⟩]))))))
 (.seq (.reg [⟨some 4, .mv, [.c (.p (.v (.bool true)))], none⟩])
 .ret))))
theorem ret98 {ps : List PV} {p : PV} (hn : Nat.ble ps.length 26 = true) (h : (∀ q ∈ ps, q.bd) → Run Try.prog (fun e s' => (∀ id, e ≠ .exit id) ∧ ∃ ns, s'.out [.t 4] = some (p, ns)) [] c98 (S (initL 0 ps) [])) : Ret Try.prog 98 ps p :=
  ret_run Try.func98 rfl (by kernel_rfl) rfl (by kernel_rfl) (by kernel_rfl) (by kernel_rfl) (by kernel_rfl) (Nat.le_of_ble_eq_true hn) h

/-- stevedore/stevedorekeep.same[stevedore/api.Order] -/
def c99 : C :=
  (.seq (.reg [⟨some 4, .mv, [.c (.p (.v (.bool false)))], none⟩])
 (.seq (.seq (.reg [⟨some 6, .mv, [.t 0], none⟩,
  ⟨some 7, .len 0, [.t 6], none⟩,
  ⟨some 8, .mv, [.t 1], none⟩,
  ⟨some 9, .len 0, [.t 8], none⟩,
  ⟨some 10, .bin .neq, [.t 7, .t 9], none⟩])
 (.cond (.t 10)
 (.seq (.reg [⟨some 4, .mv, [.c (.p (.v (.bool false)))], none⟩])
 .ret)
 .skip))
 (.seq (.seq (.reg [⟨some 5, .mv, [.c (.p (.v (.int .i64 0)))], none⟩])
 (.block 0
 (.loop
 (.seq (.seq (.reg [⟨some 11, .mv, [.t 5], none⟩,
  ⟨some 12, .mv, [.t 0], none⟩,
  ⟨some 13, .len 0, [.t 12], none⟩,
  ⟨some 14, .bin .lss, [.t 11, .t 13], none⟩])
 (.cond (.t 14)
 .skip
 (.exit 0)))
 (.seq (.block 1
 (.seq (.regd [⟨some 17, .mv, [.t 0], none⟩,
  ⟨some 18, .mv, [.t 5], none⟩,
  ⟨some 19, .iad 50, [.t 17, .t 18], none⟩,
  ⟨some 20, .load 50 true, [.t 19], none⟩,
  ⟨some 21, .mv, [.t 1], none⟩,
  ⟨some 22, .mv, [.t 5], none⟩,
  ⟨some 23, .iad 50, [.t 21, .t 22], none⟩,
  ⟨some 24, .load 50 true, [.t 23], none⟩,
  ⟨some 25, .eqs true [.s, .s, .s, .i .i64, .i .i64, .i .i64, .i .i64, .i .i64, .s, .i .i64, .i .i64, .i .i64, .i .i64, .i .i64, .s, .i .i64, .i .i64, .i .i64, .i .i64, .i .i64, .s, .i .i64, .i .i64, .i .i64, .i .i64, .i .i64, .s, .i .i64, .i .i64, .i .i64, .i .i64, .i .i64, .s, .i .i64, .i .i64, .i .i64, .i .i64, .i .i64, .s, .i .i64, .i .i64, .i .i64, .i .i64, .i .i64, .s, .i .i64, .i .i64, .i .i64, .i .i64, .i .i64], [.t 20, .t 24], none⟩])
 (.cond (.t 25)
 (.seq (.reg [⟨some 4, .mv, [.c (.p (.v (.bool false)))], none⟩])
 .ret)
 .skip)))
 (.reg [⟨some 15, .mv, [.t 5], none⟩,
  ⟨some 16, .bin .add, [.t 15, .c (.p (.v (.int .i64 1)))], none⟩,
  ⟨some 5, .mv, [.t 16], none⟩]))))))
 (.seq (.reg [⟨some 4, .mv, [.c (.p (.v (.bool true)))], none⟩])
 .ret))))
theorem ret99 {ps : List PV} {p : PV} (hn : Nat.ble ps.length 26 = true) (h : (∀ q ∈ ps, q.bd) → Run Try.prog (fun e s' => (∀ id, e ≠ .exit id) ∧ ∃ ns, s'.out [.t 4] = some (p, ns)) [] c99 (S (initL 0 ps) [])) : Ret Try.prog 99 ps p :=
  ret_run Try.func99 rfl (by kernel_rfl) rfl (by kernel_rfl) (by kernel_rfl) (by kernel_rfl) (by kernel_rfl) (Nat.le_of_ble_eq_true hn) h

/-- stevedore/stevedorekeep.same[stevedore/api.Claim] -/
def c100 : C :=
  (.seq (.reg [⟨some 4, .mv, [.c (.p (.v (.bool false)))], none⟩])
 (.seq (.seq (.reg [⟨some 6, .mv, [.t 0], none⟩,
  ⟨some 7, .len 0, [.t 6], none⟩,
  ⟨some 8, .mv, [.t 1], none⟩,
  ⟨some 9, .len 0, [.t 8], none⟩,
  ⟨some 10, .bin .neq, [.t 7, .t 9], none⟩])
 (.cond (.t 10)
 (.seq (.reg [⟨some 4, .mv, [.c (.p (.v (.bool false)))], none⟩])
 .ret)
 .skip))
 (.seq (.seq (.reg [⟨some 5, .mv, [.c (.p (.v (.int .i64 0)))], none⟩])
 (.block 0
 (.loop
 (.seq (.seq (.reg [⟨some 11, .mv, [.t 5], none⟩,
  ⟨some 12, .mv, [.t 0], none⟩,
  ⟨some 13, .len 0, [.t 12], none⟩,
  ⟨some 14, .bin .lss, [.t 11, .t 13], none⟩])
 (.cond (.t 14)
 .skip
 (.exit 0)))
 (.seq (.block 1
 (.seq (.regd [⟨some 17, .mv, [.t 0], none⟩,
  ⟨some 18, .mv, [.t 5], none⟩,
  ⟨some 19, .iad 8, [.t 17, .t 18], none⟩,
  ⟨some 20, .load 8 true, [.t 19], none⟩,
  ⟨some 21, .mv, [.t 1], none⟩,
  ⟨some 22, .mv, [.t 5], none⟩,
  ⟨some 23, .iad 8, [.t 21, .t 22], none⟩,
  ⟨some 24, .load 8 true, [.t 23], none⟩,
  ⟨some 25, .eqs true [.s, .i .i64, .s, .s, .s, .i .i64, .i .i64, .i .i64], [.t 20, .t 24], none⟩])
 (.cond (.t 25)
 (.seq (.reg [⟨some 4, .mv, [.c (.p (.v (.bool false)))], none⟩])
 .ret)
 .skip)))
 (.reg [⟨some 15, .mv, [.t 5], none⟩,
  ⟨some 16, .bin .add, [.t 15, .c (.p (.v (.int .i64 1)))], none⟩,
  ⟨some 5, .mv, [.t 16], none⟩]))))))
 (.seq (.reg [⟨some 4, .mv, [.c (.p (.v (.bool true)))], none⟩])
 .ret))))
theorem ret100 {ps : List PV} {p : PV} (hn : Nat.ble ps.length 26 = true) (h : (∀ q ∈ ps, q.bd) → Run Try.prog (fun e s' => (∀ id, e ≠ .exit id) ∧ ∃ ns, s'.out [.t 4] = some (p, ns)) [] c100 (S (initL 0 ps) [])) : Ret Try.prog 100 ps p :=
  ret_run Try.func100 rfl (by kernel_rfl) rfl (by kernel_rfl) (by kernel_rfl) (by kernel_rfl) (by kernel_rfl) (Nat.le_of_ble_eq_true hn) h

/-- stevedore/stevedorekeep.same[stevedore/api.Task] -/
def c101 : C :=
  (.seq (.reg [⟨some 4, .mv, [.c (.p (.v (.bool false)))], none⟩])
 (.seq (.seq (.reg [⟨some 6, .mv, [.t 0], none⟩,
  ⟨some 7, .len 0, [.t 6], none⟩,
  ⟨some 8, .mv, [.t 1], none⟩,
  ⟨some 9, .len 0, [.t 8], none⟩,
  ⟨some 10, .bin .neq, [.t 7, .t 9], none⟩])
 (.cond (.t 10)
 (.seq (.reg [⟨some 4, .mv, [.c (.p (.v (.bool false)))], none⟩])
 .ret)
 .skip))
 (.seq (.seq (.reg [⟨some 5, .mv, [.c (.p (.v (.int .i64 0)))], none⟩])
 (.block 0
 (.loop
 (.seq (.seq (.reg [⟨some 11, .mv, [.t 5], none⟩,
  ⟨some 12, .mv, [.t 0], none⟩,
  ⟨some 13, .len 0, [.t 12], none⟩,
  ⟨some 14, .bin .lss, [.t 11, .t 13], none⟩])
 (.cond (.t 14)
 .skip
 (.exit 0)))
 (.seq (.block 1
 (.seq (.regd [⟨some 17, .mv, [.t 0], none⟩,
  ⟨some 18, .mv, [.t 5], none⟩,
  ⟨some 19, .iad 11, [.t 17, .t 18], none⟩,
  ⟨some 20, .load 11 true, [.t 19], none⟩,
  ⟨some 21, .mv, [.t 1], none⟩,
  ⟨some 22, .mv, [.t 5], none⟩,
  ⟨some 23, .iad 11, [.t 21, .t 22], none⟩,
  ⟨some 24, .load 11 true, [.t 23], none⟩,
  ⟨some 25, .eqs true [.i .i64, .i .i64, .s, .i .i64, .s, .s, .s, .i .i64, .s, .i .i64, .s], [.t 20, .t 24], none⟩])
 (.cond (.t 25)
 (.seq (.reg [⟨some 4, .mv, [.c (.p (.v (.bool false)))], none⟩])
 .ret)
 .skip)))
 (.reg [⟨some 15, .mv, [.t 5], none⟩,
  ⟨some 16, .bin .add, [.t 15, .c (.p (.v (.int .i64 1)))], none⟩,
  ⟨some 5, .mv, [.t 16], none⟩]))))))
 (.seq (.reg [⟨some 4, .mv, [.c (.p (.v (.bool true)))], none⟩])
 .ret))))
theorem ret101 {ps : List PV} {p : PV} (hn : Nat.ble ps.length 26 = true) (h : (∀ q ∈ ps, q.bd) → Run Try.prog (fun e s' => (∀ id, e ≠ .exit id) ∧ ∃ ns, s'.out [.t 4] = some (p, ns)) [] c101 (S (initL 0 ps) [])) : Ret Try.prog 101 ps p :=
  ret_run Try.func101 rfl (by kernel_rfl) rfl (by kernel_rfl) (by kernel_rfl) (by kernel_rfl) (by kernel_rfl) (Nat.le_of_ble_eq_true hn) h

/-- stevedore/stevedorekeep.same[stevedore/api.Parcel] -/
def c102 : C :=
  (.seq (.reg [⟨some 4, .mv, [.c (.p (.v (.bool false)))], none⟩])
 (.seq (.seq (.reg [⟨some 6, .mv, [.t 0], none⟩,
  ⟨some 7, .len 0, [.t 6], none⟩,
  ⟨some 8, .mv, [.t 1], none⟩,
  ⟨some 9, .len 0, [.t 8], none⟩,
  ⟨some 10, .bin .neq, [.t 7, .t 9], none⟩])
 (.cond (.t 10)
 (.seq (.reg [⟨some 4, .mv, [.c (.p (.v (.bool false)))], none⟩])
 .ret)
 .skip))
 (.seq (.seq (.reg [⟨some 5, .mv, [.c (.p (.v (.int .i64 0)))], none⟩])
 (.block 0
 (.loop
 (.seq (.seq (.reg [⟨some 11, .mv, [.t 5], none⟩,
  ⟨some 12, .mv, [.t 0], none⟩,
  ⟨some 13, .len 0, [.t 12], none⟩,
  ⟨some 14, .bin .lss, [.t 11, .t 13], none⟩])
 (.cond (.t 14)
 .skip
 (.exit 0)))
 (.seq (.block 1
 (.seq (.regd [⟨some 17, .mv, [.t 0], none⟩,
  ⟨some 18, .mv, [.t 5], none⟩,
  ⟨some 19, .iad 2, [.t 17, .t 18], none⟩,
  ⟨some 20, .load 2 true, [.t 19], none⟩,
  ⟨some 21, .mv, [.t 1], none⟩,
  ⟨some 22, .mv, [.t 5], none⟩,
  ⟨some 23, .iad 2, [.t 21, .t 22], none⟩,
  ⟨some 24, .load 2 true, [.t 23], none⟩,
  ⟨some 25, .eqs true [.s, .s], [.t 20, .t 24], none⟩])
 (.cond (.t 25)
 (.seq (.reg [⟨some 4, .mv, [.c (.p (.v (.bool false)))], none⟩])
 .ret)
 .skip)))
 (.reg [⟨some 15, .mv, [.t 5], none⟩,
  ⟨some 16, .bin .add, [.t 15, .c (.p (.v (.int .i64 1)))], none⟩,
  ⟨some 5, .mv, [.t 16], none⟩]))))))
 (.seq (.reg [⟨some 4, .mv, [.c (.p (.v (.bool true)))], none⟩])
 .ret))))
theorem ret102 {ps : List PV} {p : PV} (hn : Nat.ble ps.length 26 = true) (h : (∀ q ∈ ps, q.bd) → Run Try.prog (fun e s' => (∀ id, e ≠ .exit id) ∧ ∃ ns, s'.out [.t 4] = some (p, ns)) [] c102 (S (initL 0 ps) [])) : Ret Try.prog 102 ps p :=
  ret_run Try.func102 rfl (by kernel_rfl) rfl (by kernel_rfl) (by kernel_rfl) (by kernel_rfl) (by kernel_rfl) (Nat.le_of_ble_eq_true hn) h

/-- stevedore/stevedorekeep.same[stevedore/api.Sent] -/
def c103 : C :=
  (.seq (.reg [⟨some 4, .mv, [.c (.p (.v (.bool false)))], none⟩])
 (.seq (.seq (.reg [⟨some 6, .mv, [.t 0], none⟩,
  ⟨some 7, .len 0, [.t 6], none⟩,
  ⟨some 8, .mv, [.t 1], none⟩,
  ⟨some 9, .len 0, [.t 8], none⟩,
  ⟨some 10, .bin .neq, [.t 7, .t 9], none⟩])
 (.cond (.t 10)
 (.seq (.reg [⟨some 4, .mv, [.c (.p (.v (.bool false)))], none⟩])
 .ret)
 .skip))
 (.seq (.seq (.reg [⟨some 5, .mv, [.c (.p (.v (.int .i64 0)))], none⟩])
 (.block 0
 (.loop
 (.seq (.seq (.reg [⟨some 11, .mv, [.t 5], none⟩,
  ⟨some 12, .mv, [.t 0], none⟩,
  ⟨some 13, .len 0, [.t 12], none⟩,
  ⟨some 14, .bin .lss, [.t 11, .t 13], none⟩])
 (.cond (.t 14)
 .skip
 (.exit 0)))
 (.seq (.block 1
 (.seq (.regd [⟨some 17, .mv, [.t 0], none⟩,
  ⟨some 18, .mv, [.t 5], none⟩,
  ⟨some 19, .iad 5, [.t 17, .t 18], none⟩,
  ⟨some 20, .load 5 true, [.t 19], none⟩,
  ⟨some 21, .mv, [.t 1], none⟩,
  ⟨some 22, .mv, [.t 5], none⟩,
  ⟨some 23, .iad 5, [.t 21, .t 22], none⟩,
  ⟨some 24, .load 5 true, [.t 23], none⟩,
  ⟨some 25, .eqs true [.s, .s, .s, .i .i64, .i .i64], [.t 20, .t 24], none⟩])
 (.cond (.t 25)
 (.seq (.reg [⟨some 4, .mv, [.c (.p (.v (.bool false)))], none⟩])
 .ret)
 .skip)))
 (.reg [⟨some 15, .mv, [.t 5], none⟩,
  ⟨some 16, .bin .add, [.t 15, .c (.p (.v (.int .i64 1)))], none⟩,
  ⟨some 5, .mv, [.t 16], none⟩]))))))
 (.seq (.reg [⟨some 4, .mv, [.c (.p (.v (.bool true)))], none⟩])
 .ret))))
theorem ret103 {ps : List PV} {p : PV} (hn : Nat.ble ps.length 26 = true) (h : (∀ q ∈ ps, q.bd) → Run Try.prog (fun e s' => (∀ id, e ≠ .exit id) ∧ ∃ ns, s'.out [.t 4] = some (p, ns)) [] c103 (S (initL 0 ps) [])) : Ret Try.prog 103 ps p :=
  ret_run Try.func103 rfl (by kernel_rfl) rfl (by kernel_rfl) (by kernel_rfl) (by kernel_rfl) (by kernel_rfl) (Nat.le_of_ble_eq_true hn) h

/-- stevedore/stevedorekeep.same[stevedore/api.Counted] -/
def c104 : C :=
  (.seq (.reg [⟨some 4, .mv, [.c (.p (.v (.bool false)))], none⟩])
 (.seq (.seq (.reg [⟨some 6, .mv, [.t 0], none⟩,
  ⟨some 7, .len 0, [.t 6], none⟩,
  ⟨some 8, .mv, [.t 1], none⟩,
  ⟨some 9, .len 0, [.t 8], none⟩,
  ⟨some 10, .bin .neq, [.t 7, .t 9], none⟩])
 (.cond (.t 10)
 (.seq (.reg [⟨some 4, .mv, [.c (.p (.v (.bool false)))], none⟩])
 .ret)
 .skip))
 (.seq (.seq (.reg [⟨some 5, .mv, [.c (.p (.v (.int .i64 0)))], none⟩])
 (.block 0
 (.loop
 (.seq (.seq (.reg [⟨some 11, .mv, [.t 5], none⟩,
  ⟨some 12, .mv, [.t 0], none⟩,
  ⟨some 13, .len 0, [.t 12], none⟩,
  ⟨some 14, .bin .lss, [.t 11, .t 13], none⟩])
 (.cond (.t 14)
 .skip
 (.exit 0)))
 (.seq (.block 1
 (.seq (.regd [⟨some 17, .mv, [.t 0], none⟩,
  ⟨some 18, .mv, [.t 5], none⟩,
  ⟨some 19, .iad 5, [.t 17, .t 18], none⟩,
  ⟨some 20, .load 5 true, [.t 19], none⟩,
  ⟨some 21, .mv, [.t 1], none⟩,
  ⟨some 22, .mv, [.t 5], none⟩,
  ⟨some 23, .iad 5, [.t 21, .t 22], none⟩,
  ⟨some 24, .load 5 true, [.t 23], none⟩,
  ⟨some 25, .eqs true [.s, .s, .s, .i .i64, .i .i64], [.t 20, .t 24], none⟩])
 (.cond (.t 25)
 (.seq (.reg [⟨some 4, .mv, [.c (.p (.v (.bool false)))], none⟩])
 .ret)
 .skip)))
 (.reg [⟨some 15, .mv, [.t 5], none⟩,
  ⟨some 16, .bin .add, [.t 15, .c (.p (.v (.int .i64 1)))], none⟩,
  ⟨some 5, .mv, [.t 16], none⟩]))))))
 (.seq (.reg [⟨some 4, .mv, [.c (.p (.v (.bool true)))], none⟩])
 .ret))))
theorem ret104 {ps : List PV} {p : PV} (hn : Nat.ble ps.length 26 = true) (h : (∀ q ∈ ps, q.bd) → Run Try.prog (fun e s' => (∀ id, e ≠ .exit id) ∧ ∃ ns, s'.out [.t 4] = some (p, ns)) [] c104 (S (initL 0 ps) [])) : Ret Try.prog 104 ps p :=
  ret_run Try.func104 rfl (by kernel_rfl) rfl (by kernel_rfl) (by kernel_rfl) (by kernel_rfl) (by kernel_rfl) (Nat.le_of_ble_eq_true hn) h

/-- stevedore/stevedorekeep.same[stevedore/api.Total] -/
def c105 : C :=
  (.seq (.reg [⟨some 4, .mv, [.c (.p (.v (.bool false)))], none⟩])
 (.seq (.seq (.reg [⟨some 6, .mv, [.t 0], none⟩,
  ⟨some 7, .len 0, [.t 6], none⟩,
  ⟨some 8, .mv, [.t 1], none⟩,
  ⟨some 9, .len 0, [.t 8], none⟩,
  ⟨some 10, .bin .neq, [.t 7, .t 9], none⟩])
 (.cond (.t 10)
 (.seq (.reg [⟨some 4, .mv, [.c (.p (.v (.bool false)))], none⟩])
 .ret)
 .skip))
 (.seq (.seq (.reg [⟨some 5, .mv, [.c (.p (.v (.int .i64 0)))], none⟩])
 (.block 0
 (.loop
 (.seq (.seq (.reg [⟨some 11, .mv, [.t 5], none⟩,
  ⟨some 12, .mv, [.t 0], none⟩,
  ⟨some 13, .len 0, [.t 12], none⟩,
  ⟨some 14, .bin .lss, [.t 11, .t 13], none⟩])
 (.cond (.t 14)
 .skip
 (.exit 0)))
 (.seq (.block 1
 (.seq (.regd [⟨some 17, .mv, [.t 0], none⟩,
  ⟨some 18, .mv, [.t 5], none⟩,
  ⟨some 19, .iad 6, [.t 17, .t 18], none⟩,
  ⟨some 20, .load 6 true, [.t 19], none⟩,
  ⟨some 21, .mv, [.t 1], none⟩,
  ⟨some 22, .mv, [.t 5], none⟩,
  ⟨some 23, .iad 6, [.t 21, .t 22], none⟩,
  ⟨some 24, .load 6 true, [.t 23], none⟩,
  ⟨some 25, .eqs true [.s, .s, .i .i64, .i .i64, .i .i64, .i .i64], [.t 20, .t 24], none⟩])
 (.cond (.t 25)
 (.seq (.reg [⟨some 4, .mv, [.c (.p (.v (.bool false)))], none⟩])
 .ret)
 .skip)))
 (.reg [⟨some 15, .mv, [.t 5], none⟩,
  ⟨some 16, .bin .add, [.t 15, .c (.p (.v (.int .i64 1)))], none⟩,
  ⟨some 5, .mv, [.t 16], none⟩]))))))
 (.seq (.reg [⟨some 4, .mv, [.c (.p (.v (.bool true)))], none⟩])
 .ret))))
theorem ret105 {ps : List PV} {p : PV} (hn : Nat.ble ps.length 26 = true) (h : (∀ q ∈ ps, q.bd) → Run Try.prog (fun e s' => (∀ id, e ≠ .exit id) ∧ ∃ ns, s'.out [.t 4] = some (p, ns)) [] c105 (S (initL 0 ps) [])) : Ret Try.prog 105 ps p :=
  ret_run Try.func105 rfl (by kernel_rfl) rfl (by kernel_rfl) (by kernel_rfl) (by kernel_rfl) (by kernel_rfl) (Nat.le_of_ble_eq_true hn) h

end Go.Fw
