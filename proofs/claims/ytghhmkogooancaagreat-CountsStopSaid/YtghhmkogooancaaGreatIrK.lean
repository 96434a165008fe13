/-
  The code of some functions, for the abstract machine. Printed by a program (wip/tools/mkir.py).
-/
import Derived.Test.YtghhmkogooancaaGreatFwU
import Derived.Test.YtghhmkogooancaaGreatProg
import Derived.KernelRfl
set_option linter.unusedVariables false
set_option maxRecDepth 100000
namespace Go.Fw
open Go.Proofs

/-- stevedore/stevedorelaw21.CountsStop -/
def c5 : C :=
  (.seq (.reg [⟨some 2, .box, [.t 0], none⟩,
  ⟨some 3, .box, [.t 1], none⟩,
  ⟨some 4, .mv, [.c (.p (.v (.bool false)))], none⟩])
 (.seq (.seq (.reg [⟨some 13, .load 15 true, [.t 2], none⟩,
  ⟨some 14, .call 9, [.t 13], none⟩,
  ⟨some 15, .un .not, [.t 14], none⟩])
 (.cond (.t 15)
 (.seq (.reg [⟨some 16, .call 10, [], none⟩,
  ⟨some 4, .mv, [.t 16], none⟩])
 .ret)
 .skip))
 (.seq (.reg [⟨some 18, .load 15 true, [.t 2], none⟩,
  ⟨some 19, .fad 0, [.t 3], none⟩,
  ⟨some 20, .fad 0, [.t 19], none⟩,
  ⟨some 21, .load 1 false, [.t 20], none⟩,
  ⟨some 22, .call 12, [.t 18, .t 21], none⟩,
  ⟨some 17, .mv, [.t 22], none⟩,
  ⟨some 23, .ext 0, [.t 17], none⟩,
  ⟨some 24, .ext 1, [.t 17], none⟩,
  ⟨some 5, .alloc [.sl [] [], .sl [] [], .sl [] [], .sl [] [], .sl [] [], .sl [] [], .sl [] [], .sl [] [], .sl [] [], .sl [] [], .sl [] [], .sl [] [], .sl [] [], .sl [] [], .v (.int .i64 0)], [], none⟩,
  ⟨none, .store 15, [.t 5, .t 23], none⟩,
  ⟨some 6, .mv, [.t 24], none⟩])
 (.seq (.seq (.reg [⟨some 25, .mv, [.t 6], none⟩,
  ⟨some 26, .bin .neq, [.t 25, .c (.p (.v (.int .i64 0)))], none⟩])
 (.cond (.t 26)
 (.seq (.reg [⟨some 27, .mv, [.t 6], none⟩,
  ⟨some 28, .bin .eql, [.t 27, .c (.p (.v (.int .i64 12)))], none⟩,
  ⟨some 29, .mv, [.t 28], none⟩,
  ⟨some 30, .mv, [.t 6], some (29, false)⟩,
  ⟨some 31, .bin .eql, [.t 30, .c (.p (.v (.int .i64 25)))], some (29, false)⟩,
  ⟨some 32, .pick, [.t 29, .c (.p (.v (.bool true))), .t 31], none⟩,
  ⟨some 33, .mv, [.t 32], none⟩,
  ⟨some 34, .call 10, [], some (33, true)⟩,
  ⟨some 35, .pick, [.t 33, .t 34, .c (.p (.v (.bool false)))], none⟩,
  ⟨some 4, .mv, [.t 35], none⟩])
 .ret)
 .skip))
 (.seq (.reg [⟨some 37, .load 15 true, [.t 5], none⟩,
  ⟨some 38, .fad 0, [.t 3], none⟩,
  ⟨some 39, .load 4 true, [.t 38], none⟩,
  ⟨some 40, .fad 4, [.t 3], none⟩,
  ⟨some 41, .load 1 false, [.t 40], none⟩,
  ⟨some 42, .call 15, [.t 37, .t 39, .t 41], none⟩,
  ⟨some 36, .mv, [.t 42], none⟩,
  ⟨some 43, .ext 0, [.t 36], none⟩,
  ⟨some 44, .ext 1, [.t 36], none⟩,
  ⟨some 7, .alloc [.sl [] [], .sl [] [], .sl [] [], .sl [] [], .sl [] [], .sl [] [], .sl [] [], .sl [] [], .sl [] [], .sl [] [], .sl [] [], .sl [] [], .sl [] [], .sl [] [], .v (.int .i64 0)], [], none⟩,
  ⟨none, .store 15, [.t 7, .t 43], none⟩,
  ⟨some 8, .mv, [.t 44], none⟩])
 (.seq (.seq (.reg [⟨some 45, .mv, [.t 8], none⟩,
  ⟨some 46, .bin .eql, [.t 45, .c (.p (.v (.int .i64 0)))], none⟩])
 (.cond (.t 46)
 (.reg [⟨some 47, .load 15 true, [.t 7], none⟩,
  ⟨none, .store 15, [.t 5, .t 47], none⟩])
 .skip))
 (.seq (.reg [⟨some 49, .load 15 true, [.t 5], none⟩,
  ⟨some 50, .fad 0, [.t 3], none⟩,
  ⟨some 51, .fad 0, [.t 50], none⟩,
  ⟨some 52, .load 1 false, [.t 51], none⟩,
  ⟨some 53, .call 19, [.t 49, .t 52], none⟩,
  ⟨some 48, .mv, [.t 53], none⟩,
  ⟨some 54, .ext 0, [.t 48], none⟩,
  ⟨some 55, .ext 1, [.t 48], none⟩,
  ⟨some 9, .alloc [.sl [] [], .sl [] [], .sl [] [], .sl [] [], .sl [] [], .sl [] [], .sl [] [], .sl [] [], .sl [] [], .sl [] [], .sl [] [], .sl [] [], .sl [] [], .sl [] [], .v (.int .i64 0)], [], none⟩,
  ⟨none, .store 15, [.t 9, .t 54], none⟩,
  ⟨some 10, .mv, [.t 55], none⟩])
 (.seq (.reg [⟨some 11, .mv, [.c .nil], none⟩])
 (.seq (.seq (.reg [⟨some 12, .mv, [.c (.p (.v (.int .i64 0)))], none⟩])
 (.block 0
 (.loop
 (.seq (.seq (.reg [⟨some 56, .mv, [.t 12], none⟩,
  ⟨some 57, .fad 12, [.t 2], none⟩,
  ⟨some 58, .load 1 false, [.t 57], none⟩,
  ⟨some 59, .len 0, [.t 58], none⟩,
  ⟨some 60, .bin .lss, [.t 56, .t 59], none⟩])
 (.cond (.t 60)
 .skip
 (.exit 0)))
 (.seq (.block 1
 (.seq (.regd [⟨some 63, .fad 12, [.t 2], none⟩,
  ⟨some 64, .load 1 false, [.t 63], none⟩,
  ⟨some 65, .mv, [.t 12], none⟩,
  ⟨some 66, .iad 5, [.t 64, .t 65], none⟩,
  ⟨some 67, .fad 0, [.t 66], none⟩,
  ⟨some 68, .fad 0, [.t 67], none⟩,
  ⟨some 69, .load 1 false, [.t 68], none⟩,
  ⟨some 70, .fad 0, [.t 3], none⟩,
  ⟨some 71, .fad 0, [.t 70], none⟩,
  ⟨some 72, .load 1 false, [.t 71], none⟩,
  ⟨some 73, .bin .neq, [.t 69, .t 72], none⟩])
 (.cond (.t 73)
 (.reg [⟨some 74, .mv, [.t 11], none⟩,
  ⟨some 75, .fad 12, [.t 2], none⟩,
  ⟨some 76, .load 1 false, [.t 75], none⟩,
  ⟨some 77, .mv, [.t 12], none⟩,
  ⟨some 78, .iad 5, [.t 76, .t 77], none⟩,
  ⟨some 79, .load 5 true, [.t 78], none⟩,
  ⟨some 80, .bsl 41 5 1 [.v (.string ⟨#[]⟩), .v (.string ⟨#[]⟩), .v (.string ⟨#[]⟩), .v (.int .i64 0), .v (.int .i64 0)] [0], [.t 79], none⟩,
  ⟨some 81, .app 41 5 64, [.t 74, .t 80], none⟩,
  ⟨some 11, .mv, [.t 81], none⟩])
 .skip)))
 (.reg [⟨some 61, .mv, [.t 12], none⟩,
  ⟨some 62, .bin .add, [.t 61, .c (.p (.v (.int .i64 1)))], none⟩,
  ⟨some 12, .mv, [.t 62], none⟩]))))))
 (.seq (.reg [⟨some 82, .mv, [.t 11], none⟩,
  ⟨some 83, .fad 12, [.t 2], none⟩,
  ⟨none, .store 1, [.t 83, .t 82], none⟩])
 (.seq (.reg [⟨some 84, .mv, [.t 10], none⟩,
  ⟨some 85, .bin .eql, [.t 84, .c (.p (.v (.int .i64 0)))], none⟩,
  ⟨some 86, .mv, [.t 85], none⟩,
  ⟨some 87, .load 15 true, [.t 9], some (86, true)⟩,
  ⟨some 88, .load 15 true, [.t 2], some (86, true)⟩,
  ⟨some 89, .call 14, [.t 87, .t 88], some (86, true)⟩,
  ⟨some 90, .pick, [.t 86, .t 89, .c (.p (.v (.bool false)))], none⟩,
  ⟨some 91, .mv, [.t 90], none⟩,
  ⟨some 92, .call 10, [], some (91, true)⟩,
  ⟨some 93, .pick, [.t 91, .t 92, .c (.p (.v (.bool false)))], none⟩,
  ⟨some 4, .mv, [.t 93], none⟩])
 .ret)))))))))))
theorem ret5 {ps : List PV} {p : PV} (hn : Nat.ble ps.length 94 = true) (h : (∀ q ∈ ps, q.bd) → Run Tryz.prog (fun e s' => (∀ id, e ≠ .exit id) ∧ ∃ ns, s'.out [.t 4] = some (p, ns)) [] c5 (S (initL 0 ps) [])) : Ret Tryz.prog 5 ps p :=
  ret_run Tryz.func5 rfl (by kernel_rfl) rfl (by kernel_rfl) (by kernel_rfl) (by kernel_rfl) (by kernel_rfl) (Nat.le_of_ble_eq_true hn) h

end Go.Fw
