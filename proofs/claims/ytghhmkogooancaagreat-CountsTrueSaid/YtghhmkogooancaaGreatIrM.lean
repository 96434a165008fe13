/-
  The code of some functions, for the abstract machine. Printed by a program (wip/tools/mkir.py).
-/
import Derived.Test.YtghhmkogooancaaGreatFwU
import Derived.Test.YtghhmkogooancaaGreatProg
import Derived.KernelRfl
set_option linter.unusedVariables false
set_option maxRecDepth 100000
namespace Go.Fw
open Go.Proofs

/-- stevedore/stevedorelaw21.plain -/
def c22 : C :=
  (.seq (.reg [⟨some 1, .box, [.t 0], none⟩,
  ⟨some 2, .mv, [.c (.p (.v (.bool false)))], none⟩])
 (.seq (.seq (.reg [⟨some 3, .mv, [.c (.p (.v (.int .i64 0)))], none⟩])
 (.block 0
 (.loop
 (.seq (.seq (.reg [⟨some 10, .mv, [.t 3], none⟩,
  ⟨some 11, .fad 4, [.t 1], none⟩,
  ⟨some 12, .load 1 false, [.t 11], none⟩,
  ⟨some 13, .len 0, [.t 12], none⟩,
  ⟨some 14, .bin .lss, [.t 10, .t 13], none⟩])
 (.cond (.t 14)
 .skip
 (.exit 0)))
 (.seq (.block 1
 (.seq (.reg [⟨some 17, .fad 4, [.t 1], none⟩,
  ⟨some 18, .load 1 false, [.t 17], none⟩,
  ⟨some 19, .mv, [.t 3], none⟩,
  ⟨some 20, .iad 6, [.t 18, .t 19], none⟩,
  ⟨some 21, .load 6 true, [.t 20], none⟩,
  ⟨some 4, .alloc [.v (.string ⟨#[]⟩), .v (.string ⟨#[]⟩), .v (.string ⟨#[]⟩), .v (.int .i64 0), .v (.int .i64 0), .v (.int .i64 0)], [], none⟩,
  ⟨none, .store 6, [.t 4, .t 21], none⟩])
 (.seq (.seq (.reg [⟨some 22, .fad 5, [.t 4], none⟩,
  ⟨some 23, .load 1 false, [.t 22], none⟩,
  ⟨some 24, .bin .lss, [.t 23, .c (.p (.v (.int .i64 0)))], none⟩,
  ⟨some 25, .mv, [.t 24], none⟩,
  ⟨some 26, .fad 5, [.t 4], some (25, false)⟩,
  ⟨some 27, .load 1 false, [.t 26], some (25, false)⟩,
  ⟨some 28, .fad 4, [.t 4], some (25, false)⟩,
  ⟨some 29, .load 1 false, [.t 28], some (25, false)⟩,
  ⟨some 30, .bin .gtr, [.t 27, .t 29], some (25, false)⟩,
  ⟨some 31, .pick, [.t 25, .c (.p (.v (.bool true))), .t 30], none⟩,
  ⟨some 32, .mv, [.t 31], none⟩,
  ⟨some 33, .fad 4, [.t 4], some (32, false)⟩,
  ⟨some 34, .load 1 false, [.t 33], some (32, false)⟩,
  ⟨some 35, .bin .lss, [.t 34, .c (.p (.v (.int .i64 1)))], some (32, false)⟩,
  ⟨some 36, .pick, [.t 32, .c (.p (.v (.bool true))), .t 35], none⟩])
 (.cond (.t 36)
 (.seq (.reg [⟨some 2, .mv, [.c (.p (.v (.bool false)))], none⟩])
 .ret)
 .skip))
 (.seq (.reg [⟨some 5, .mv, [.c (.p (.v (.int .i64 0)))], none⟩])
 (.block 2
 (.loop
 (.seq (.seq (.reg [⟨some 37, .mv, [.t 5], none⟩,
  ⟨some 38, .mv, [.t 3], none⟩,
  ⟨some 39, .bin .lss, [.t 37, .t 38], none⟩])
 (.cond (.t 39)
 .skip
 (.exit 2)))
 (.seq (.block 3
 (.seq (.regd [⟨some 42, .fad 4, [.t 1], none⟩,
  ⟨some 43, .load 1 false, [.t 42], none⟩,
  ⟨some 44, .mv, [.t 5], none⟩,
  ⟨some 45, .iad 6, [.t 43, .t 44], none⟩,
  ⟨some 46, .fad 0, [.t 45], none⟩,
  ⟨some 47, .load 4 true, [.t 46], none⟩,
  ⟨some 48, .fad 0, [.t 4], none⟩,
  ⟨some 49, .load 4 true, [.t 48], none⟩,
  ⟨some 50, .eqs false [.s, .s, .s, .i .i64], [.t 47, .t 49], none⟩])
 (.cond (.t 50)
 (.seq (.reg [⟨some 2, .mv, [.c (.p (.v (.bool false)))], none⟩])
 .ret)
 .skip)))
 (.reg [⟨some 40, .mv, [.t 5], none⟩,
  ⟨some 41, .bin .add, [.t 40, .c (.p (.v (.int .i64 1)))], none⟩,
  ⟨some 5, .mv, [.t 41], none⟩])))))))))
 (.reg [⟨some 15, .mv, [.t 3], none⟩,
  ⟨some 16, .bin .add, [.t 15, .c (.p (.v (.int .i64 1)))], none⟩,
  ⟨some 3, .mv, [.t 16], none⟩]))))))
 (.seq (.seq (.reg [⟨some 6, .mv, [.c (.p (.v (.int .i64 0)))], none⟩])
 (.block 4
 (.loop
 (.seq (.seq (.reg [⟨some 51, .mv, [.t 6], none⟩,
  ⟨some 52, .fad 13, [.t 1], none⟩,
  ⟨some 53, .load 1 false, [.t 52], none⟩,
  ⟨some 54, .len 0, [.t 53], none⟩,
  ⟨some 55, .bin .lss, [.t 51, .t 54], none⟩])
 (.cond (.t 55)
 .skip
 (.exit 4)))
 (.seq (.block 5
 (.seq (.reg [⟨some 7, .mv, [.c (.p (.v (.int .i64 0)))], none⟩])
 (.block 6
 (.loop
 (.seq (.seq (.reg [⟨some 58, .mv, [.t 7], none⟩,
  ⟨some 59, .mv, [.t 6], none⟩,
  ⟨some 60, .bin .lss, [.t 58, .t 59], none⟩])
 (.cond (.t 60)
 .skip
 (.exit 6)))
 (.seq (.block 7
 (.seq (.regd [⟨some 63, .fad 13, [.t 1], none⟩,
  ⟨some 64, .load 1 false, [.t 63], none⟩,
  ⟨some 65, .mv, [.t 7], none⟩,
  ⟨some 66, .iad 6, [.t 64, .t 65], none⟩,
  ⟨some 67, .fad 0, [.t 66], none⟩,
  ⟨some 68, .load 1 false, [.t 67], none⟩,
  ⟨some 69, .fad 13, [.t 1], none⟩,
  ⟨some 70, .load 1 false, [.t 69], none⟩,
  ⟨some 71, .mv, [.t 6], none⟩,
  ⟨some 72, .iad 6, [.t 70, .t 71], none⟩,
  ⟨some 73, .fad 0, [.t 72], none⟩,
  ⟨some 74, .load 1 false, [.t 73], none⟩,
  ⟨some 75, .bin .eql, [.t 68, .t 74], none⟩,
  ⟨some 76, .mv, [.t 75], none⟩,
  ⟨some 77, .fad 13, [.t 1], some (76, true)⟩,
  ⟨some 78, .load 1 false, [.t 77], some (76, true)⟩,
  ⟨some 79, .mv, [.t 7], some (76, true)⟩,
  ⟨some 80, .iad 6, [.t 78, .t 79], some (76, true)⟩,
  ⟨some 81, .fad 1, [.t 80], some (76, true)⟩,
  ⟨some 82, .load 1 false, [.t 81], some (76, true)⟩,
  ⟨some 83, .fad 13, [.t 1], some (76, true)⟩,
  ⟨some 84, .load 1 false, [.t 83], some (76, true)⟩,
  ⟨some 85, .mv, [.t 6], some (76, true)⟩,
  ⟨some 86, .iad 6, [.t 84, .t 85], some (76, true)⟩,
  ⟨some 87, .fad 1, [.t 86], some (76, true)⟩,
  ⟨some 88, .load 1 false, [.t 87], some (76, true)⟩,
  ⟨some 89, .bin .eql, [.t 82, .t 88], some (76, true)⟩,
  ⟨some 90, .pick, [.t 76, .t 89, .c (.p (.v (.bool false)))], none⟩])
 (.cond (.t 90)
 (.seq (.reg [⟨some 2, .mv, [.c (.p (.v (.bool false)))], none⟩])
 .ret)
 .skip)))
 (.reg [⟨some 61, .mv, [.t 7], none⟩,
  ⟨some 62, .bin .add, [.t 61, .c (.p (.v (.int .i64 1)))], none⟩,
  ⟨some 7, .mv, [.t 62], none⟩])))))))
 (.reg [⟨some 56, .mv, [.t 6], none⟩,
  ⟨some 57, .bin .add, [.t 56, .c (.p (.v (.int .i64 1)))], none⟩,
  ⟨some 6, .mv, [.t 57], none⟩]))))))
 (.seq (.seq (.reg [⟨some 8, .mv, [.c (.p (.v (.int .i64 0)))], none⟩])
 (.block 8
 (.loop
 (.seq (.seq (.reg [⟨some 91, .mv, [.t 8], none⟩,
  ⟨some 92, .fad 12, [.t 1], none⟩,
  ⟨some 93, .load 1 false, [.t 92], none⟩,
  ⟨some 94, .len 0, [.t 93], none⟩,
  ⟨some 95, .bin .lss, [.t 91, .t 94], none⟩])
 (.cond (.t 95)
 .skip
 (.exit 8)))
 (.seq (.block 9
 (.seq (.seq (.reg [⟨some 98, .fad 12, [.t 1], none⟩,
  ⟨some 99, .load 1 false, [.t 98], none⟩,
  ⟨some 100, .mv, [.t 8], none⟩,
  ⟨some 101, .iad 5, [.t 99, .t 100], none⟩,
  ⟨some 102, .fad 4, [.t 101], none⟩,
  ⟨some 103, .load 1 false, [.t 102], none⟩,
  ⟨some 104, .bin .lss, [.t 103, .c (.p (.v (.int .i64 0)))], none⟩])
 (.cond (.t 104)
 (.seq (.reg [⟨some 2, .mv, [.c (.p (.v (.bool false)))], none⟩])
 .ret)
 .skip))
 (.seq (.reg [⟨some 9, .mv, [.c (.p (.v (.int .i64 0)))], none⟩])
 (.block 10
 (.loop
 (.seq (.seq (.reg [⟨some 105, .mv, [.t 9], none⟩,
  ⟨some 106, .mv, [.t 8], none⟩,
  ⟨some 107, .bin .lss, [.t 105, .t 106], none⟩])
 (.cond (.t 107)
 .skip
 (.exit 10)))
 (.seq (.block 11
 (.seq (.regd [⟨some 110, .fad 12, [.t 1], none⟩,
  ⟨some 111, .load 1 false, [.t 110], none⟩,
  ⟨some 112, .mv, [.t 9], none⟩,
  ⟨some 113, .iad 5, [.t 111, .t 112], none⟩,
  ⟨some 114, .fad 0, [.t 113], none⟩,
  ⟨some 115, .load 4 true, [.t 114], none⟩,
  ⟨some 116, .fad 12, [.t 1], none⟩,
  ⟨some 117, .load 1 false, [.t 116], none⟩,
  ⟨some 118, .mv, [.t 8], none⟩,
  ⟨some 119, .iad 5, [.t 117, .t 118], none⟩,
  ⟨some 120, .fad 0, [.t 119], none⟩,
  ⟨some 121, .load 4 true, [.t 120], none⟩,
  ⟨some 122, .eqs false [.s, .s, .s, .i .i64], [.t 115, .t 121], none⟩])
 (.cond (.t 122)
 (.seq (.reg [⟨some 2, .mv, [.c (.p (.v (.bool false)))], none⟩])
 .ret)
 .skip)))
 (.reg [⟨some 108, .mv, [.t 9], none⟩,
  ⟨some 109, .bin .add, [.t 108, .c (.p (.v (.int .i64 1)))], none⟩,
  ⟨some 9, .mv, [.t 109], none⟩]))))))))
 (.reg [⟨some 96, .mv, [.t 8], none⟩,
  ⟨some 97, .bin .add, [.t 96, .c (.p (.v (.int .i64 1)))], none⟩,
  ⟨some 8, .mv, [.t 97], none⟩]))))))
 (.seq (.reg [⟨some 2, .mv, [.c (.p (.v (.bool true)))], none⟩])
 .ret)))))
theorem ret22 {ps : List PV} {p : PV} (hn : Nat.ble ps.length 123 = true) (h : (∀ q ∈ ps, q.bd) → Run Tryz.prog (fun e s' => (∀ id, e ≠ .exit id) ∧ ∃ ns, s'.out [.t 2] = some (p, ns)) [] c22 (S (initL 0 ps) [])) : Ret Tryz.prog 22 ps p :=
  ret_run Tryz.func22 rfl (by kernel_rfl) rfl (by kernel_rfl) (by kernel_rfl) (by kernel_rfl) (by kernel_rfl) (Nat.le_of_ble_eq_true hn) h

/-- stevedore/stevedorelaw21.balance -/
def c26 : C :=
  (.seq (.reg [⟨some 3, .box, [.t 0], none⟩,
  ⟨some 6, .mv, [.c (.p (.v (.int .i64 0)))], none⟩])
 (.seq (.reg [⟨some 10, .load 15 true, [.t 3], none⟩,
  ⟨some 11, .mv, [.t 1], none⟩,
  ⟨some 12, .mv, [.t 2], none⟩,
  ⟨some 13, .call 80, [.t 10, .t 11, .t 12], none⟩,
  ⟨some 9, .mv, [.t 13], none⟩,
  ⟨some 14, .ext 0, [.t 9], none⟩,
  ⟨some 15, .ext 1, [.t 9], none⟩,
  ⟨some 7, .alloc [.v (.string ⟨#[]⟩), .v (.string ⟨#[]⟩), .v (.int .i64 0), .v (.int .i64 0), .v (.int .i64 0), .v (.int .i64 0)], [], none⟩,
  ⟨none, .store 6, [.t 7, .t 14], none⟩,
  ⟨some 8, .mv, [.t 15], none⟩])
 (.seq (.regd [⟨some 16, .fad 2, [.t 7], none⟩,
  ⟨some 17, .load 1 false, [.t 16], none⟩,
  ⟨some 18, .fad 3, [.t 7], none⟩,
  ⟨some 19, .load 1 false, [.t 18], none⟩,
  ⟨some 20, .bin .sub, [.t 17, .t 19], none⟩,
  ⟨some 21, .fad 4, [.t 7], none⟩,
  ⟨some 22, .load 1 false, [.t 21], none⟩,
  ⟨some 23, .bin .add, [.t 20, .t 22], none⟩,
  ⟨some 24, .fad 5, [.t 7], none⟩,
  ⟨some 25, .load 1 false, [.t 24], none⟩,
  ⟨some 26, .bin .add, [.t 23, .t 25], none⟩,
  ⟨some 27, .load 15 true, [.t 3], none⟩,
  ⟨some 28, .mv, [.t 1], none⟩,
  ⟨some 29, .mv, [.t 2], none⟩,
  ⟨some 30, .call 74, [.t 27, .t 28, .t 29], none⟩,
  ⟨some 31, .bin .sub, [.t 26, .t 30], none⟩,
  ⟨some 6, .mv, [.t 31], none⟩])
 .ret)))
theorem ret26 {ps : List PV} {p : PV} (hn : Nat.ble ps.length 32 = true) (h : (∀ q ∈ ps, q.bd) → Run Tryz.prog (fun e s' => (∀ id, e ≠ .exit id) ∧ ∃ ns, s'.out [.t 6] = some (p, ns)) [] c26 (S (initL 0 ps) [])) : Ret Tryz.prog 26 ps p :=
  ret_run Tryz.func26 rfl (by kernel_rfl) rfl (by kernel_rfl) (by kernel_rfl) (by kernel_rfl) (by kernel_rfl) (Nat.le_of_ble_eq_true hn) h

end Go.Fw
