/-
  The code of some functions, for the abstract machine. Printed by a program (wip/tools/mkir.py).
-/
import Derived.Test.YtghhmkogooancaaGreatFwU
import Derived.Test.YtghhmkogooancaaGreatProg
import Derived.KernelRfl
set_option linter.unusedVariables false
set_option maxRecDepth 100000
namespace Go.Fw
open Go.Proofs

/-- stevedore/stevedorelaw21.CountsStarts -/
def c6 : C :=
  (.seq (.reg [⟨some 2, .box, [.t 0], none⟩,
  ⟨some 4, .mv, [.c (.p (.v (.bool false)))], none⟩])
 (.seq (.seq (.reg [⟨some 10, .load 15 true, [.t 2], none⟩,
  ⟨some 11, .call 9, [.t 10], none⟩,
  ⟨some 12, .un .not, [.t 11], none⟩])
 (.cond (.t 12)
 (.seq (.reg [⟨some 13, .call 10, [], none⟩,
  ⟨some 4, .mv, [.t 13], none⟩])
 .ret)
 .skip))
 (.seq (.reg [⟨some 14, .load 15 true, [.t 2], none⟩,
  ⟨some 15, .call 11, [.t 14], none⟩,
  ⟨some 5, .alloc [.sl [] [], .sl [] [], .sl [] [], .sl [] [], .sl [] [], .sl [] [], .sl [] [], .sl [] [], .sl [] [], .sl [] [], .sl [] [], .sl [] [], .sl [] [], .sl [] [], .v (.int .i64 0)], [], none⟩,
  ⟨none, .store 15, [.t 5, .t 15], none⟩])
 (.seq (.reg [⟨some 17, .load 15 true, [.t 5], none⟩,
  ⟨some 18, .mv, [.t 1], none⟩,
  ⟨some 19, .call 12, [.t 17, .t 18], none⟩,
  ⟨some 16, .mv, [.t 19], none⟩,
  ⟨some 20, .ext 0, [.t 16], none⟩,
  ⟨some 21, .ext 1, [.t 16], none⟩,
  ⟨some 6, .alloc [.sl [] [], .sl [] [], .sl [] [], .sl [] [], .sl [] [], .sl [] [], .sl [] [], .sl [] [], .sl [] [], .sl [] [], .sl [] [], .sl [] [], .sl [] [], .sl [] [], .v (.int .i64 0)], [], none⟩,
  ⟨none, .store 15, [.t 6, .t 20], none⟩,
  ⟨some 7, .mv, [.t 21], none⟩])
 (.seq (.reg [⟨some 23, .load 15 true, [.t 2], none⟩,
  ⟨some 24, .mv, [.t 1], none⟩,
  ⟨some 25, .call 13, [.t 23, .t 24], none⟩,
  ⟨some 22, .mv, [.t 25], none⟩,
  ⟨some 26, .ext 0, [.t 22], none⟩,
  ⟨some 27, .ext 1, [.t 22], none⟩,
  ⟨some 8, .alloc [.sl [] [], .sl [] [], .sl [] [], .sl [] [], .sl [] [], .sl [] [], .sl [] [], .sl [] [], .sl [] [], .sl [] [], .sl [] [], .sl [] [], .sl [] [], .sl [] [], .v (.int .i64 0)], [], none⟩,
  ⟨none, .store 15, [.t 8, .t 26], none⟩,
  ⟨some 9, .mv, [.t 27], none⟩])
 (.seq (.reg [⟨some 28, .mv, [.t 7], none⟩,
  ⟨some 29, .mv, [.t 9], none⟩,
  ⟨some 30, .bin .eql, [.t 28, .t 29], none⟩,
  ⟨some 31, .mv, [.t 30], none⟩,
  ⟨some 32, .load 15 true, [.t 6], some (31, true)⟩,
  ⟨some 33, .load 15 true, [.t 8], some (31, true)⟩,
  ⟨some 34, .call 14, [.t 32, .t 33], some (31, true)⟩,
  ⟨some 35, .pick, [.t 31, .t 34, .c (.p (.v (.bool false)))], none⟩,
  ⟨some 36, .mv, [.t 35], none⟩,
  ⟨some 37, .load 15 true, [.t 5], some (36, true)⟩,
  ⟨some 38, .load 15 true, [.t 2], some (36, true)⟩,
  ⟨some 39, .call 21, [.t 37, .t 38], some (36, true)⟩,
  ⟨some 40, .pick, [.t 36, .t 39, .c (.p (.v (.bool false)))], none⟩,
  ⟨some 41, .mv, [.t 40], none⟩,
  ⟨some 42, .call 10, [], some (41, true)⟩,
  ⟨some 43, .pick, [.t 41, .t 42, .c (.p (.v (.bool false)))], none⟩,
  ⟨some 4, .mv, [.t 43], none⟩])
 .ret))))))
theorem ret6 {ps : List PV} {p : PV} (hn : Nat.ble ps.length 44 = true) (h : (∀ q ∈ ps, q.bd) → Run Tryz.prog (fun e s' => (∀ id, e ≠ .exit id) ∧ ∃ ns, s'.out [.t 4] = some (p, ns)) [] c6 (S (initL 0 ps) [])) : Ret Tryz.prog 6 ps p :=
  ret_run Tryz.func6 rfl (by kernel_rfl) rfl (by kernel_rfl) (by kernel_rfl) (by kernel_rfl) (by kernel_rfl) (Nat.le_of_ble_eq_true hn) h

/-- stevedore/stevedorelaw21.CountsNotes -/
def c7 : C :=
  (.seq (.reg [⟨some 2, .box, [.t 0], none⟩,
  ⟨some 3, .box, [.t 1], none⟩,
  ⟨some 4, .mv, [.c (.p (.v (.bool false)))], none⟩])
 (.seq (.seq (.reg [⟨some 10, .load 15 true, [.t 2], none⟩,
  ⟨some 11, .call 9, [.t 10], none⟩,
  ⟨some 12, .un .not, [.t 11], none⟩])
 (.cond (.t 12)
 (.seq (.reg [⟨some 13, .call 10, [], none⟩,
  ⟨some 4, .mv, [.t 13], none⟩])
 .ret)
 .skip))
 (.seq (.reg [⟨some 14, .load 15 true, [.t 2], none⟩,
  ⟨some 15, .call 11, [.t 14], none⟩,
  ⟨some 5, .alloc [.sl [] [], .sl [] [], .sl [] [], .sl [] [], .sl [] [], .sl [] [], .sl [] [], .sl [] [], .sl [] [], .sl [] [], .sl [] [], .sl [] [], .sl [] [], .sl [] [], .v (.int .i64 0)], [], none⟩,
  ⟨none, .store 15, [.t 5, .t 15], none⟩])
 (.seq (.reg [⟨some 17, .load 15 true, [.t 5], none⟩,
  ⟨some 18, .fad 0, [.t 3], none⟩,
  ⟨some 19, .load 4 true, [.t 18], none⟩,
  ⟨some 20, .fad 4, [.t 3], none⟩,
  ⟨some 21, .load 1 false, [.t 20], none⟩,
  ⟨some 22, .call 15, [.t 17, .t 19, .t 21], none⟩,
  ⟨some 16, .mv, [.t 22], none⟩,
  ⟨some 23, .ext 0, [.t 16], none⟩,
  ⟨some 24, .ext 1, [.t 16], none⟩,
  ⟨some 6, .alloc [.sl [] [], .sl [] [], .sl [] [], .sl [] [], .sl [] [], .sl [] [], .sl [] [], .sl [] [], .sl [] [], .sl [] [], .sl [] [], .sl [] [], .sl [] [], .sl [] [], .v (.int .i64 0)], [], none⟩,
  ⟨none, .store 15, [.t 6, .t 23], none⟩,
  ⟨some 7, .mv, [.t 24], none⟩])
 (.seq (.reg [⟨some 26, .load 15 true, [.t 2], none⟩,
  ⟨some 27, .fad 0, [.t 3], none⟩,
  ⟨some 28, .load 4 true, [.t 27], none⟩,
  ⟨some 29, .fad 4, [.t 3], none⟩,
  ⟨some 30, .load 1 false, [.t 29], none⟩,
  ⟨some 31, .call 16, [.t 26, .t 28, .t 30], none⟩,
  ⟨some 25, .mv, [.t 31], none⟩,
  ⟨some 32, .ext 0, [.t 25], none⟩,
  ⟨some 33, .ext 1, [.t 25], none⟩,
  ⟨some 8, .alloc [.sl [] [], .sl [] [], .sl [] [], .sl [] [], .sl [] [], .sl [] [], .sl [] [], .sl [] [], .sl [] [], .sl [] [], .sl [] [], .sl [] [], .sl [] [], .sl [] [], .v (.int .i64 0)], [], none⟩,
  ⟨none, .store 15, [.t 8, .t 32], none⟩,
  ⟨some 9, .mv, [.t 33], none⟩])
 (.seq (.reg [⟨some 34, .mv, [.t 7], none⟩,
  ⟨some 35, .mv, [.t 9], none⟩,
  ⟨some 36, .bin .eql, [.t 34, .t 35], none⟩,
  ⟨some 37, .mv, [.t 36], none⟩,
  ⟨some 38, .load 15 true, [.t 6], some (37, true)⟩,
  ⟨some 39, .load 15 true, [.t 8], some (37, true)⟩,
  ⟨some 40, .call 14, [.t 38, .t 39], some (37, true)⟩,
  ⟨some 41, .pick, [.t 37, .t 40, .c (.p (.v (.bool false)))], none⟩,
  ⟨some 42, .mv, [.t 41], none⟩,
  ⟨some 43, .load 15 true, [.t 5], some (42, true)⟩,
  ⟨some 44, .load 15 true, [.t 2], some (42, true)⟩,
  ⟨some 45, .call 21, [.t 43, .t 44], some (42, true)⟩,
  ⟨some 46, .pick, [.t 42, .t 45, .c (.p (.v (.bool false)))], none⟩,
  ⟨some 47, .mv, [.t 46], none⟩,
  ⟨some 48, .call 10, [], some (47, true)⟩,
  ⟨some 49, .pick, [.t 47, .t 48, .c (.p (.v (.bool false)))], none⟩,
  ⟨some 4, .mv, [.t 49], none⟩])
 .ret))))))
theorem ret7 {ps : List PV} {p : PV} (hn : Nat.ble ps.length 50 = true) (h : (∀ q ∈ ps, q.bd) → Run Tryz.prog (fun e s' => (∀ id, e ≠ .exit id) ∧ ∃ ns, s'.out [.t 4] = some (p, ns)) [] c7 (S (initL 0 ps) [])) : Ret Tryz.prog 7 ps p :=
  ret_run Tryz.func7 rfl (by kernel_rfl) rfl (by kernel_rfl) (by kernel_rfl) (by kernel_rfl) (by kernel_rfl) (Nat.le_of_ble_eq_true hn) h

end Go.Fw
