/-
  The code of some functions, for the abstract machine. Printed by a program (wip/tools/mkir.py).
-/
import Derived.Test.YtghhmkogooancaaGreatFwU
import Derived.Test.YtghhmkogooancaaGreatProg
import Derived.KernelRfl
set_option linter.unusedVariables false
set_option maxRecDepth 100000
namespace Go.Fw
open Go.Proofs

/-- stevedore/layout.Freeze -/
def c87 : C :=
  (.seq (.reg [⟨some 3, .box, [.t 0], none⟩,
  ⟨some 6, .alloc [.sl [] [], .sl [] [], .sl [] [], .sl [] [], .sl [] [], .sl [] [], .sl [] [], .sl [] [], .sl [] [], .sl [] [], .sl [] [], .sl [] [], .sl [] [], .sl [] [], .v (.int .i64 0)], [], none⟩,
  ⟨some 7, .mv, [.c (.p (.v (.int .i64 0)))], none⟩])
 (.seq (.reg [⟨some 11, .load 15 true, [.t 3], none⟩,
  ⟨some 12, .mv, [.t 1], none⟩,
  ⟨some 13, .call 75, [.t 11, .t 12], none⟩,
  ⟨some 10, .mv, [.t 13], none⟩,
  ⟨some 14, .ext 0, [.t 10], none⟩,
  ⟨some 15, .ext 1, [.t 10], none⟩,
  ⟨some 8, .alloc [.v (.string ⟨#[]⟩), .v (.string ⟨#[]⟩), .v (.int .i64 0), .v (.int .i64 0), .v (.int .i64 0), .v (.int .i64 0), .v (.int .i64 0), .v (.bool false)], [], none⟩,
  ⟨none, .store 8, [.t 8, .t 14], none⟩,
  ⟨some 9, .mv, [.t 15], none⟩])
 (.seq (.block 0
 (.seq (.reg [⟨some 17, .mv, [.t 9], none⟩,
  ⟨some 18, .un .not, [.t 17], none⟩,
  ⟨some 16, .mv, [.t 18], none⟩])
 (.cond (.t 16)
 (.seq (.reg [⟨some 19, .build [.sl [] [], .sl [] [], .sl [] [], .sl [] [], .sl [] [], .sl [] [], .sl [] [], .sl [] [], .sl [] [], .sl [] [], .sl [] [], .sl [] [], .sl [] [], .sl [] [], .v (.int .i64 0)] [], [], none⟩,
  ⟨none, .store 15, [.t 6, .t 19], none⟩,
  ⟨some 7, .mv, [.c (.p (.v (.int .i64 12)))], none⟩])
 .ret)
 (.seq (.reg [⟨some 21, .mv, [.t 2], none⟩,
  ⟨some 22, .mv, [.t 21], none⟩,
  ⟨some 23, .fad 7, [.t 8], some (22, true)⟩,
  ⟨some 24, .load 1 false, [.t 23], some (22, true)⟩,
  ⟨some 25, .pick, [.t 22, .t 24, .c (.p (.v (.bool false)))], none⟩,
  ⟨some 20, .mv, [.t 25], none⟩])
 (.cond (.t 20)
 (.seq (.reg [⟨some 26, .build [.sl [] [], .sl [] [], .sl [] [], .sl [] [], .sl [] [], .sl [] [], .sl [] [], .sl [] [], .sl [] [], .sl [] [], .sl [] [], .sl [] [], .sl [] [], .sl [] [], .v (.int .i64 0)] [], [], none⟩,
  ⟨none, .store 15, [.t 6, .t 26], none⟩,
  ⟨some 7, .mv, [.c (.p (.v (.int .i64 25)))], none⟩])
 .ret)
 (.seq (.reg [⟨some 28, .mv, [.t 2], none⟩,
  ⟨some 29, .fad 7, [.t 8], none⟩,
  ⟨some 30, .load 1 false, [.t 29], none⟩,
  ⟨some 31, .beq false, [.t 28, .t 30], none⟩,
  ⟨some 27, .mv, [.t 31], none⟩])
 (.cond (.t 27)
 (.seq (.reg [⟨some 32, .build [.sl [] [], .sl [] [], .sl [] [], .sl [] [], .sl [] [], .sl [] [], .sl [] [], .sl [] [], .sl [] [], .sl [] [], .sl [] [], .sl [] [], .sl [] [], .sl [] [], .v (.int .i64 0)] [], [], none⟩,
  ⟨none, .store 15, [.t 6, .t 32], none⟩,
  ⟨some 7, .mv, [.c (.p (.v (.int .i64 13)))], none⟩])
 .ret)
 .skip)))))))
 (.seq (.reg [⟨some 33, .mv, [.t 2], none⟩,
  ⟨some 34, .fad 7, [.t 8], none⟩,
  ⟨none, .store 1, [.t 34, .t 33], none⟩])
 (.seq (.regd [⟨some 35, .call 107, [], none⟩,
  ⟨some 36, .fad 3, [.t 3], none⟩,
  ⟨some 37, .load 1 false, [.t 36], none⟩,
  ⟨some 38, .load 8 true, [.t 8], none⟩,
  ⟨some 39, .call 119, [.t 35, .t 37, .t 38], none⟩,
  ⟨some 40, .fad 3, [.t 3], none⟩,
  ⟨none, .store 1, [.t 40, .t 39], none⟩])
 (.seq (.reg [⟨some 41, .load 15 true, [.t 3], none⟩,
  ⟨none, .store 15, [.t 6, .t 41], none⟩,
  ⟨some 7, .mv, [.c (.p (.v (.int .i64 0)))], none⟩])
 .ret))))))
theorem ret87 {ps : List PV} {p : PV} (hn : Nat.ble ps.length 42 = true) (h : (∀ q ∈ ps, q.bd) → Run Tryz.prog (fun e s' => (∀ id, e ≠ .exit id) ∧ ∃ ns, s'.out [.c 6 15 true, .t 7] = some (p, ns)) [] c87 (S (initL 0 ps) [])) : Ret Tryz.prog 87 ps p :=
  ret_run Tryz.func87 rfl (by kernel_rfl) rfl (by kernel_rfl) (by kernel_rfl) (by kernel_rfl) (by kernel_rfl) (Nat.le_of_ble_eq_true hn) h

/-- stevedore/stevedoreref10.Freeze -/
def c44 : C :=
  (.seq (.reg [⟨some 3, .box, [.t 0], none⟩,
  ⟨some 6, .alloc [.sl [] [], .sl [] [], .sl [] [], .sl [] [], .sl [] [], .sl [] [], .sl [] [], .sl [] [], .sl [] [], .sl [] [], .sl [] [], .sl [] [], .sl [] [], .sl [] [], .v (.int .i64 0)], [], none⟩,
  ⟨some 7, .mv, [.c (.p (.v (.int .i64 0)))], none⟩])
 (.seq (.reg [⟨some 11, .load 15 true, [.t 3], none⟩,
  ⟨some 12, .mv, [.t 1], none⟩,
  ⟨some 13, .call 23, [.t 11, .t 12], none⟩,
  ⟨some 10, .mv, [.t 13], none⟩,
  ⟨some 14, .ext 0, [.t 10], none⟩,
  ⟨some 15, .ext 1, [.t 10], none⟩,
  ⟨some 8, .alloc [.v (.string ⟨#[]⟩), .v (.string ⟨#[]⟩), .v (.int .i64 0), .v (.int .i64 0), .v (.int .i64 0), .v (.int .i64 0), .v (.int .i64 0), .v (.bool false)], [], none⟩,
  ⟨none, .store 8, [.t 8, .t 14], none⟩,
  ⟨some 9, .mv, [.t 15], none⟩])
 (.seq (.seq (.reg [⟨some 16, .mv, [.t 9], none⟩,
  ⟨some 17, .un .not, [.t 16], none⟩])
 (.cond (.t 17)
 (.seq (.reg [⟨some 18, .build [.sl [] [], .sl [] [], .sl [] [], .sl [] [], .sl [] [], .sl [] [], .sl [] [], .sl [] [], .sl [] [], .sl [] [], .sl [] [], .sl [] [], .sl [] [], .sl [] [], .v (.int .i64 0)] [], [], none⟩,
  ⟨none, .store 15, [.t 6, .t 18], none⟩,
  ⟨some 7, .mv, [.c (.p (.v (.int .i64 12)))], none⟩])
 .ret)
 .skip))
 (.seq (.seq (.reg [⟨some 19, .mv, [.t 2], none⟩,
  ⟨some 20, .mv, [.t 19], none⟩,
  ⟨some 21, .fad 7, [.t 8], some (20, true)⟩,
  ⟨some 22, .load 1 false, [.t 21], some (20, true)⟩,
  ⟨some 23, .pick, [.t 20, .t 22, .c (.p (.v (.bool false)))], none⟩])
 (.cond (.t 23)
 (.seq (.reg [⟨some 24, .build [.sl [] [], .sl [] [], .sl [] [], .sl [] [], .sl [] [], .sl [] [], .sl [] [], .sl [] [], .sl [] [], .sl [] [], .sl [] [], .sl [] [], .sl [] [], .sl [] [], .v (.int .i64 0)] [], [], none⟩,
  ⟨none, .store 15, [.t 6, .t 24], none⟩,
  ⟨some 7, .mv, [.c (.p (.v (.int .i64 25)))], none⟩])
 .ret)
 .skip))
 (.seq (.seq (.reg [⟨some 25, .mv, [.t 2], none⟩,
  ⟨some 26, .un .not, [.t 25], none⟩,
  ⟨some 27, .mv, [.t 26], none⟩,
  ⟨some 28, .fad 7, [.t 8], some (27, true)⟩,
  ⟨some 29, .load 1 false, [.t 28], some (27, true)⟩,
  ⟨some 30, .un .not, [.t 29], some (27, true)⟩,
  ⟨some 31, .pick, [.t 27, .t 30, .c (.p (.v (.bool false)))], none⟩])
 (.cond (.t 31)
 (.seq (.reg [⟨some 32, .build [.sl [] [], .sl [] [], .sl [] [], .sl [] [], .sl [] [], .sl [] [], .sl [] [], .sl [] [], .sl [] [], .sl [] [], .sl [] [], .sl [] [], .sl [] [], .sl [] [], .v (.int .i64 0)] [], [], none⟩,
  ⟨none, .store 15, [.t 6, .t 32], none⟩,
  ⟨some 7, .mv, [.c (.p (.v (.int .i64 13)))], none⟩])
 .ret)
 .skip))
 (.seq (.reg [⟨some 33, .mv, [.t 2], none⟩,
  ⟨some 34, .fad 7, [.t 8], none⟩,
  ⟨none, .store 1, [.t 34, .t 33], none⟩])
 (.seq (.reg [⟨some 35, .load 15 true, [.t 3], none⟩,
  ⟨some 36, .load 8 true, [.t 8], none⟩,
  ⟨some 37, .call 89, [.t 35, .t 36], none⟩,
  ⟨none, .store 15, [.t 6, .t 37], none⟩,
  ⟨some 7, .mv, [.c (.p (.v (.int .i64 0)))], none⟩])
 .ret)))))))
theorem ret44 {ps : List PV} {p : PV} (hn : Nat.ble ps.length 38 = true) (h : (∀ q ∈ ps, q.bd) → Run Tryz.prog (fun e s' => (∀ id, e ≠ .exit id) ∧ ∃ ns, s'.out [.c 6 15 true, .t 7] = some (p, ns)) [] c44 (S (initL 0 ps) [])) : Ret Tryz.prog 44 ps p :=
  ret_run Tryz.func44 rfl (by kernel_rfl) rfl (by kernel_rfl) (by kernel_rfl) (by kernel_rfl) (by kernel_rfl) (Nat.le_of_ble_eq_true hn) h

end Go.Fw
