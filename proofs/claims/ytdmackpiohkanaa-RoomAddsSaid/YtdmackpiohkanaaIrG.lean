/-
  The code of some functions, for the abstract machine. Printed by a program (wip/tools/mkir.py).
-/
import Derived.Test.YtdmackpiohkanaaFwU
import Derived.Test.YtdmackpiohkanaaProg
import Derived.KernelRfl
set_option linter.unusedVariables false
set_option maxRecDepth 100000
namespace Go.Fw
open Go.Proofs

/-- stevedore/stevedorelaw10.awake -/
def c58 : C :=
  (.seq (.reg [⟨some 0, .mv, [.c (.p (.v (.bool false)))], none⟩])
 (.seq (.reg [⟨some 16, .build [.sl [] [], .sl [] [], .sl [] [], .sl [] [], .sl [] [], .sl [] [], .sl [] [], .sl [] [], .sl [] [], .sl [] [], .sl [] [], .sl [] [], .sl [] [], .sl [] [], .v (.int .i64 0)] [], [], none⟩,
  ⟨some 17, .build [.v (.string ⟨#[]⟩), .v (.string ⟨#[]⟩)] [(0, 1), (1, 1)], [.c (.p (.v (.string ⟨#[122]⟩))), .c (.p (.v (.string ⟨#[115]⟩)))], none⟩,
  ⟨some 18, .call 59, [.t 16, .t 17], none⟩,
  ⟨some 15, .mv, [.t 18], none⟩,
  ⟨some 19, .ext 0, [.t 15], none⟩,
  ⟨some 20, .ext 1, [.t 15], none⟩,
  ⟨some 1, .alloc [.sl [] [], .sl [] [], .sl [] [], .sl [] [], .sl [] [], .sl [] [], .sl [] [], .sl [] [], .sl [] [], .sl [] [], .sl [] [], .sl [] [], .sl [] [], .sl [] [], .v (.int .i64 0)], [], none⟩,
  ⟨none, .store 15, [.t 1, .t 19], none⟩,
  ⟨some 2, .mv, [.t 20], none⟩])
 (.seq (.reg [⟨some 22, .load 15 true, [.t 1], none⟩,
  ⟨some 23, .build [.v (.string ⟨#[]⟩), .v (.string ⟨#[]⟩), .v (.int .i64 0), .v (.int .i64 0), .v (.int .i64 0), .v (.int .i64 0), .v (.int .i64 0), .v (.bool false)] [(0, 1), (1, 1), (2, 1)], [.c (.p (.v (.string ⟨#[98]⟩))), .c (.p (.v (.string ⟨#[122]⟩))), .c (.p (.v (.int .i64 1)))], none⟩,
  ⟨some 24, .call 61, [.t 22, .t 23], none⟩,
  ⟨some 21, .mv, [.t 24], none⟩,
  ⟨some 25, .ext 0, [.t 21], none⟩,
  ⟨some 26, .ext 1, [.t 21], none⟩,
  ⟨some 3, .alloc [.sl [] [], .sl [] [], .sl [] [], .sl [] [], .sl [] [], .sl [] [], .sl [] [], .sl [] [], .sl [] [], .sl [] [], .sl [] [], .sl [] [], .sl [] [], .sl [] [], .v (.int .i64 0)], [], none⟩,
  ⟨none, .store 15, [.t 3, .t 25], none⟩,
  ⟨some 4, .mv, [.t 26], none⟩])
 (.seq (.reg [⟨some 28, .load 15 true, [.t 1], none⟩,
  ⟨some 29, .build [.v (.string ⟨#[]⟩), .v (.string ⟨#[]⟩), .v (.int .i64 0), .v (.int .i64 0), .v (.int .i64 0), .v (.int .i64 0), .v (.int .i64 0), .v (.bool false)] [(0, 1), (1, 1), (2, 1)], [.c (.p (.v (.string ⟨#[98]⟩))), .c (.p (.v (.string ⟨#[121]⟩))), .c (.p (.v (.int .i64 1)))], none⟩,
  ⟨some 30, .call 61, [.t 28, .t 29], none⟩,
  ⟨some 27, .mv, [.t 30], none⟩,
  ⟨some 31, .ext 0, [.t 27], none⟩,
  ⟨some 32, .ext 1, [.t 27], none⟩,
  ⟨some 5, .alloc [.sl [] [], .sl [] [], .sl [] [], .sl [] [], .sl [] [], .sl [] [], .sl [] [], .sl [] [], .sl [] [], .sl [] [], .sl [] [], .sl [] [], .sl [] [], .sl [] [], .v (.int .i64 0)], [], none⟩,
  ⟨none, .store 15, [.t 5, .t 31], none⟩,
  ⟨some 6, .mv, [.t 32], none⟩])
 (.seq (.reg [⟨some 34, .load 15 true, [.t 3], none⟩,
  ⟨some 35, .call 65, [.t 34, .c (.p (.v (.string ⟨#[98]⟩))), .c (.p (.v (.bool true)))], none⟩,
  ⟨some 33, .mv, [.t 35], none⟩,
  ⟨some 36, .ext 0, [.t 33], none⟩,
  ⟨some 37, .ext 1, [.t 33], none⟩,
  ⟨some 7, .alloc [.sl [] [], .sl [] [], .sl [] [], .sl [] [], .sl [] [], .sl [] [], .sl [] [], .sl [] [], .sl [] [], .sl [] [], .sl [] [], .sl [] [], .sl [] [], .sl [] [], .v (.int .i64 0)], [], none⟩,
  ⟨none, .store 15, [.t 7, .t 36], none⟩,
  ⟨some 8, .mv, [.t 37], none⟩])
 (.seq (.reg [⟨some 39, .load 15 true, [.t 7], none⟩,
  ⟨some 40, .call 65, [.t 39, .c (.p (.v (.string ⟨#[98]⟩))), .c (.p (.v (.bool true)))], none⟩,
  ⟨some 38, .mv, [.t 40], none⟩,
  ⟨some 41, .ext 0, [.t 38], none⟩,
  ⟨some 42, .ext 1, [.t 38], none⟩,
  ⟨some 9, .alloc [.sl [] [], .sl [] [], .sl [] [], .sl [] [], .sl [] [], .sl [] [], .sl [] [], .sl [] [], .sl [] [], .sl [] [], .sl [] [], .sl [] [], .sl [] [], .sl [] [], .v (.int .i64 0)], [], none⟩,
  ⟨none, .store 15, [.t 9, .t 41], none⟩,
  ⟨some 10, .mv, [.t 42], none⟩])
 (.seq (.reg [⟨some 44, .load 15 true, [.t 7], none⟩,
  ⟨some 45, .call 65, [.t 44, .c (.p (.v (.string ⟨#[98]⟩))), .c (.p (.v (.bool false)))], none⟩,
  ⟨some 43, .mv, [.t 45], none⟩,
  ⟨some 46, .ext 0, [.t 43], none⟩,
  ⟨some 47, .ext 1, [.t 43], none⟩,
  ⟨some 11, .alloc [.sl [] [], .sl [] [], .sl [] [], .sl [] [], .sl [] [], .sl [] [], .sl [] [], .sl [] [], .sl [] [], .sl [] [], .sl [] [], .sl [] [], .sl [] [], .sl [] [], .v (.int .i64 0)], [], none⟩,
  ⟨none, .store 15, [.t 11, .t 46], none⟩,
  ⟨some 12, .mv, [.t 47], none⟩])
 (.seq (.reg [⟨some 49, .load 15 true, [.t 11], none⟩,
  ⟨some 50, .call 65, [.t 49, .c (.p (.v (.string ⟨#[98]⟩))), .c (.p (.v (.bool false)))], none⟩,
  ⟨some 48, .mv, [.t 50], none⟩,
  ⟨some 51, .ext 0, [.t 48], none⟩,
  ⟨some 52, .ext 1, [.t 48], none⟩,
  ⟨some 13, .alloc [.sl [] [], .sl [] [], .sl [] [], .sl [] [], .sl [] [], .sl [] [], .sl [] [], .sl [] [], .sl [] [], .sl [] [], .sl [] [], .sl [] [], .sl [] [], .sl [] [], .v (.int .i64 0)], [], none⟩,
  ⟨none, .store 15, [.t 13, .t 51], none⟩,
  ⟨some 14, .mv, [.t 52], none⟩])
 (.seq (.reg [⟨some 53, .mv, [.t 2], none⟩,
  ⟨some 54, .bin .eql, [.t 53, .c (.p (.v (.int .i64 0)))], none⟩,
  ⟨some 55, .mv, [.t 54], none⟩,
  ⟨some 56, .mv, [.t 4], some (55, true)⟩,
  ⟨some 57, .bin .eql, [.t 56, .c (.p (.v (.int .i64 0)))], some (55, true)⟩,
  ⟨some 58, .pick, [.t 55, .t 57, .c (.p (.v (.bool false)))], none⟩,
  ⟨some 59, .mv, [.t 58], none⟩,
  ⟨some 60, .mv, [.t 6], some (59, true)⟩,
  ⟨some 61, .bin .eql, [.t 60, .c (.p (.v (.int .i64 12)))], some (59, true)⟩,
  ⟨some 62, .pick, [.t 59, .t 61, .c (.p (.v (.bool false)))], none⟩,
  ⟨some 63, .mv, [.t 62], none⟩,
  ⟨some 64, .mv, [.t 8], some (63, true)⟩,
  ⟨some 65, .bin .eql, [.t 64, .c (.p (.v (.int .i64 0)))], some (63, true)⟩,
  ⟨some 66, .pick, [.t 63, .t 65, .c (.p (.v (.bool false)))], none⟩,
  ⟨some 67, .mv, [.t 66], none⟩,
  ⟨some 68, .mv, [.t 10], some (67, true)⟩,
  ⟨some 69, .bin .eql, [.t 68, .c (.p (.v (.int .i64 25)))], some (67, true)⟩,
  ⟨some 70, .pick, [.t 67, .t 69, .c (.p (.v (.bool false)))], none⟩,
  ⟨some 71, .mv, [.t 70], none⟩,
  ⟨some 72, .mv, [.t 12], some (71, true)⟩,
  ⟨some 73, .bin .eql, [.t 72, .c (.p (.v (.int .i64 0)))], some (71, true)⟩,
  ⟨some 74, .pick, [.t 71, .t 73, .c (.p (.v (.bool false)))], none⟩,
  ⟨some 75, .mv, [.t 74], none⟩,
  ⟨some 76, .mv, [.t 14], some (75, true)⟩,
  ⟨some 77, .bin .eql, [.t 76, .c (.p (.v (.int .i64 13)))], some (75, true)⟩,
  ⟨some 78, .pick, [.t 75, .t 77, .c (.p (.v (.bool false)))], none⟩,
  ⟨some 79, .mv, [.t 78], none⟩,
  ⟨some 80, .load 15 true, [.t 3], some (79, true)⟩,
  ⟨some 81, .call 67, [.t 80, .c (.p (.v (.string ⟨#[98]⟩)))], some (79, true)⟩,
  ⟨some 82, .bin .eql, [.t 81, .c (.p (.v (.string ⟨#[115]⟩)))], some (79, true)⟩,
  ⟨some 83, .pick, [.t 79, .t 82, .c (.p (.v (.bool false)))], none⟩,
  ⟨some 0, .mv, [.t 83], none⟩])
 .ret)))))))))
theorem ret58 {ps : List PV} {p : PV} (hn : Nat.ble ps.length 84 = true) (h : (∀ q ∈ ps, q.bd) → Run Try.prog (fun e s' => (∀ id, e ≠ .exit id) ∧ ∃ ns, s'.out [.t 0] = some (p, ns)) [] c58 (S (initL 0 ps) [])) : Ret Try.prog 58 ps p :=
  ret_run Try.func58 rfl (by kernel_rfl) rfl (by kernel_rfl) (by kernel_rfl) (by kernel_rfl) (by kernel_rfl) (Nat.le_of_ble_eq_true hn) h

/-- stevedore/stevedorelaw10.LayoutAdds -/
def c21 : C :=
  (.seq (.reg [⟨some 3, .box, [.t 0], none⟩,
  ⟨some 4, .box, [.t 1], none⟩,
  ⟨some 5, .box, [.t 2], none⟩,
  ⟨some 6, .mv, [.c (.p (.v (.bool false)))], none⟩])
 (.seq (.seq (.reg [⟨some 16, .load 15 true, [.t 3], none⟩,
  ⟨some 17, .call 28, [.t 16], none⟩,
  ⟨some 18, .un .not, [.t 17], none⟩])
 (.cond (.t 18)
 (.seq (.reg [⟨some 19, .call 58, [], none⟩,
  ⟨some 6, .mv, [.t 19], none⟩])
 .ret)
 .skip))
 (.seq (.reg [⟨some 20, .load 15 true, [.t 3], none⟩,
  ⟨some 21, .call 35, [.t 20], none⟩,
  ⟨some 7, .alloc [.sl [] [], .sl [] [], .sl [] [], .sl [] [], .sl [] [], .sl [] [], .sl [] [], .sl [] [], .sl [] [], .sl [] [], .sl [] [], .sl [] [], .sl [] [], .sl [] [], .v (.int .i64 0)], [], none⟩,
  ⟨none, .store 15, [.t 7, .t 21], none⟩])
 (.seq (.reg [⟨some 23, .load 15 true, [.t 7], none⟩,
  ⟨some 24, .load 2 true, [.t 4], none⟩,
  ⟨some 25, .call 59, [.t 23, .t 24], none⟩,
  ⟨some 22, .mv, [.t 25], none⟩,
  ⟨some 26, .ext 0, [.t 22], none⟩,
  ⟨some 27, .ext 1, [.t 22], none⟩,
  ⟨some 8, .alloc [.sl [] [], .sl [] [], .sl [] [], .sl [] [], .sl [] [], .sl [] [], .sl [] [], .sl [] [], .sl [] [], .sl [] [], .sl [] [], .sl [] [], .sl [] [], .sl [] [], .v (.int .i64 0)], [], none⟩,
  ⟨none, .store 15, [.t 8, .t 26], none⟩,
  ⟨some 9, .mv, [.t 27], none⟩])
 (.seq (.reg [⟨some 29, .load 15 true, [.t 3], none⟩,
  ⟨some 30, .load 2 true, [.t 4], none⟩,
  ⟨some 31, .call 60, [.t 29, .t 30], none⟩,
  ⟨some 28, .mv, [.t 31], none⟩,
  ⟨some 32, .ext 0, [.t 28], none⟩,
  ⟨some 33, .ext 1, [.t 28], none⟩,
  ⟨some 10, .alloc [.sl [] [], .sl [] [], .sl [] [], .sl [] [], .sl [] [], .sl [] [], .sl [] [], .sl [] [], .sl [] [], .sl [] [], .sl [] [], .sl [] [], .sl [] [], .sl [] [], .v (.int .i64 0)], [], none⟩,
  ⟨none, .store 15, [.t 10, .t 32], none⟩,
  ⟨some 11, .mv, [.t 33], none⟩])
 (.seq (.reg [⟨some 35, .load 15 true, [.t 7], none⟩,
  ⟨some 36, .load 8 true, [.t 5], none⟩,
  ⟨some 37, .call 61, [.t 35, .t 36], none⟩,
  ⟨some 34, .mv, [.t 37], none⟩,
  ⟨some 38, .ext 0, [.t 34], none⟩,
  ⟨some 39, .ext 1, [.t 34], none⟩,
  ⟨some 12, .alloc [.sl [] [], .sl [] [], .sl [] [], .sl [] [], .sl [] [], .sl [] [], .sl [] [], .sl [] [], .sl [] [], .sl [] [], .sl [] [], .sl [] [], .sl [] [], .sl [] [], .v (.int .i64 0)], [], none⟩,
  ⟨none, .store 15, [.t 12, .t 38], none⟩,
  ⟨some 13, .mv, [.t 39], none⟩])
 (.seq (.reg [⟨some 41, .load 15 true, [.t 3], none⟩,
  ⟨some 42, .load 8 true, [.t 5], none⟩,
  ⟨some 43, .call 62, [.t 41, .t 42], none⟩,
  ⟨some 40, .mv, [.t 43], none⟩,
  ⟨some 44, .ext 0, [.t 40], none⟩,
  ⟨some 45, .ext 1, [.t 40], none⟩,
  ⟨some 14, .alloc [.sl [] [], .sl [] [], .sl [] [], .sl [] [], .sl [] [], .sl [] [], .sl [] [], .sl [] [], .sl [] [], .sl [] [], .sl [] [], .sl [] [], .sl [] [], .sl [] [], .v (.int .i64 0)], [], none⟩,
  ⟨none, .store 15, [.t 14, .t 44], none⟩,
  ⟨some 15, .mv, [.t 45], none⟩])
 (.seq (.reg [⟨some 46, .mv, [.t 9], none⟩,
  ⟨some 47, .mv, [.t 11], none⟩,
  ⟨some 48, .bin .eql, [.t 46, .t 47], none⟩,
  ⟨some 49, .mv, [.t 48], none⟩,
  ⟨some 50, .mv, [.t 13], some (49, true)⟩,
  ⟨some 51, .mv, [.t 15], some (49, true)⟩,
  ⟨some 52, .bin .eql, [.t 50, .t 51], some (49, true)⟩,
  ⟨some 53, .pick, [.t 49, .t 52, .c (.p (.v (.bool false)))], none⟩,
  ⟨some 54, .mv, [.t 53], none⟩,
  ⟨some 55, .load 15 true, [.t 8], some (54, true)⟩,
  ⟨some 56, .load 15 true, [.t 10], some (54, true)⟩,
  ⟨some 57, .call 40, [.t 55, .t 56], some (54, true)⟩,
  ⟨some 58, .pick, [.t 54, .t 57, .c (.p (.v (.bool false)))], none⟩,
  ⟨some 59, .mv, [.t 58], none⟩,
  ⟨some 60, .load 15 true, [.t 12], some (59, true)⟩,
  ⟨some 61, .load 15 true, [.t 14], some (59, true)⟩,
  ⟨some 62, .call 40, [.t 60, .t 61], some (59, true)⟩,
  ⟨some 63, .pick, [.t 59, .t 62, .c (.p (.v (.bool false)))], none⟩,
  ⟨some 64, .mv, [.t 63], none⟩,
  ⟨some 65, .load 15 true, [.t 7], some (64, true)⟩,
  ⟨some 66, .load 15 true, [.t 3], some (64, true)⟩,
  ⟨some 67, .call 43, [.t 65, .t 66], some (64, true)⟩,
  ⟨some 68, .pick, [.t 64, .t 67, .c (.p (.v (.bool false)))], none⟩,
  ⟨some 69, .mv, [.t 68], none⟩,
  ⟨some 70, .call 58, [], some (69, true)⟩,
  ⟨some 71, .pick, [.t 69, .t 70, .c (.p (.v (.bool false)))], none⟩,
  ⟨some 6, .mv, [.t 71], none⟩])
 .ret))))))))
theorem ret21 {ps : List PV} {p : PV} (hn : Nat.ble ps.length 72 = true) (h : (∀ q ∈ ps, q.bd) → Run Try.prog (fun e s' => (∀ id, e ≠ .exit id) ∧ ∃ ns, s'.out [.t 6] = some (p, ns)) [] c21 (S (initL 0 ps) [])) : Ret Try.prog 21 ps p :=
  ret_run Try.func21 rfl (by kernel_rfl) rfl (by kernel_rfl) (by kernel_rfl) (by kernel_rfl) (by kernel_rfl) (Nat.le_of_ble_eq_true hn) h

/-- stevedore/stevedorelaw10.LayoutFinds -/
def c22 : C :=
  (.seq (.reg [⟨some 3, .box, [.t 0], none⟩,
  ⟨some 6, .mv, [.c (.p (.v (.bool false)))], none⟩])
 (.seq (.seq (.reg [⟨some 16, .load 15 true, [.t 3], none⟩,
  ⟨some 17, .call 28, [.t 16], none⟩,
  ⟨some 18, .un .not, [.t 17], none⟩])
 (.cond (.t 18)
 (.seq (.reg [⟨some 19, .call 58, [], none⟩,
  ⟨some 6, .mv, [.t 19], none⟩])
 .ret)
 .skip))
 (.seq (.reg [⟨some 20, .load 15 true, [.t 3], none⟩,
  ⟨some 21, .call 35, [.t 20], none⟩,
  ⟨some 7, .alloc [.sl [] [], .sl [] [], .sl [] [], .sl [] [], .sl [] [], .sl [] [], .sl [] [], .sl [] [], .sl [] [], .sl [] [], .sl [] [], .sl [] [], .sl [] [], .sl [] [], .v (.int .i64 0)], [], none⟩,
  ⟨none, .store 15, [.t 7, .t 21], none⟩])
 (.seq (.reg [⟨some 23, .load 15 true, [.t 7], none⟩,
  ⟨some 24, .mv, [.t 1], none⟩,
  ⟨some 25, .call 63, [.t 23, .t 24], none⟩,
  ⟨some 22, .mv, [.t 25], none⟩,
  ⟨some 26, .ext 0, [.t 22], none⟩,
  ⟨some 27, .ext 1, [.t 22], none⟩,
  ⟨some 8, .alloc [.v (.string ⟨#[]⟩), .v (.string ⟨#[]⟩), .v (.int .i64 0), .v (.int .i64 0), .v (.int .i64 0), .v (.int .i64 0), .v (.int .i64 0), .v (.bool false)], [], none⟩,
  ⟨none, .store 8, [.t 8, .t 26], none⟩,
  ⟨some 9, .mv, [.t 27], none⟩])
 (.seq (.reg [⟨some 29, .load 15 true, [.t 3], none⟩,
  ⟨some 30, .mv, [.t 1], none⟩,
  ⟨some 31, .call 64, [.t 29, .t 30], none⟩,
  ⟨some 28, .mv, [.t 31], none⟩,
  ⟨some 32, .ext 0, [.t 28], none⟩,
  ⟨some 33, .ext 1, [.t 28], none⟩,
  ⟨some 10, .alloc [.v (.string ⟨#[]⟩), .v (.string ⟨#[]⟩), .v (.int .i64 0), .v (.int .i64 0), .v (.int .i64 0), .v (.int .i64 0), .v (.int .i64 0), .v (.bool false)], [], none⟩,
  ⟨none, .store 8, [.t 10, .t 32], none⟩,
  ⟨some 11, .mv, [.t 33], none⟩])
 (.seq (.reg [⟨some 35, .load 15 true, [.t 7], none⟩,
  ⟨some 36, .mv, [.t 1], none⟩,
  ⟨some 37, .mv, [.t 2], none⟩,
  ⟨some 38, .call 65, [.t 35, .t 36, .t 37], none⟩,
  ⟨some 34, .mv, [.t 38], none⟩,
  ⟨some 39, .ext 0, [.t 34], none⟩,
  ⟨some 40, .ext 1, [.t 34], none⟩,
  ⟨some 12, .alloc [.sl [] [], .sl [] [], .sl [] [], .sl [] [], .sl [] [], .sl [] [], .sl [] [], .sl [] [], .sl [] [], .sl [] [], .sl [] [], .sl [] [], .sl [] [], .sl [] [], .v (.int .i64 0)], [], none⟩,
  ⟨none, .store 15, [.t 12, .t 39], none⟩,
  ⟨some 13, .mv, [.t 40], none⟩])
 (.seq (.reg [⟨some 42, .load 15 true, [.t 3], none⟩,
  ⟨some 43, .mv, [.t 1], none⟩,
  ⟨some 44, .mv, [.t 2], none⟩,
  ⟨some 45, .call 66, [.t 42, .t 43, .t 44], none⟩,
  ⟨some 41, .mv, [.t 45], none⟩,
  ⟨some 46, .ext 0, [.t 41], none⟩,
  ⟨some 47, .ext 1, [.t 41], none⟩,
  ⟨some 14, .alloc [.sl [] [], .sl [] [], .sl [] [], .sl [] [], .sl [] [], .sl [] [], .sl [] [], .sl [] [], .sl [] [], .sl [] [], .sl [] [], .sl [] [], .sl [] [], .sl [] [], .v (.int .i64 0)], [], none⟩,
  ⟨none, .store 15, [.t 14, .t 46], none⟩,
  ⟨some 15, .mv, [.t 47], none⟩])
 (.seq (.regd [⟨some 48, .load 8 true, [.t 8], none⟩,
  ⟨some 49, .load 8 true, [.t 10], none⟩,
  ⟨some 50, .eqs false [.s, .s, .i .i64, .i .i64, .i .i64, .i .i64, .i .i64, .b], [.t 48, .t 49], none⟩,
  ⟨some 51, .mv, [.t 50], none⟩,
  ⟨some 52, .mv, [.t 9], some (51, true)⟩,
  ⟨some 53, .mv, [.t 11], some (51, true)⟩,
  ⟨some 54, .beq false, [.t 52, .t 53], some (51, true)⟩,
  ⟨some 55, .pick, [.t 51, .t 54, .c (.p (.v (.bool false)))], none⟩,
  ⟨some 56, .mv, [.t 55], none⟩,
  ⟨some 57, .load 15 true, [.t 7], some (56, true)⟩,
  ⟨some 58, .mv, [.t 1], some (56, true)⟩,
  ⟨some 59, .call 67, [.t 57, .t 58], some (56, true)⟩,
  ⟨some 60, .load 15 true, [.t 3], some (56, true)⟩,
  ⟨some 61, .mv, [.t 1], some (56, true)⟩,
  ⟨some 62, .call 68, [.t 60, .t 61], some (56, true)⟩,
  ⟨some 63, .bin .eql, [.t 59, .t 62], some (56, true)⟩,
  ⟨some 64, .pick, [.t 56, .t 63, .c (.p (.v (.bool false)))], none⟩,
  ⟨some 65, .mv, [.t 64], none⟩,
  ⟨some 66, .mv, [.t 13], some (65, true)⟩,
  ⟨some 67, .mv, [.t 15], some (65, true)⟩,
  ⟨some 68, .bin .eql, [.t 66, .t 67], some (65, true)⟩,
  ⟨some 69, .pick, [.t 65, .t 68, .c (.p (.v (.bool false)))], none⟩,
  ⟨some 70, .mv, [.t 69], none⟩,
  ⟨some 71, .load 15 true, [.t 12], some (70, true)⟩,
  ⟨some 72, .load 15 true, [.t 14], some (70, true)⟩,
  ⟨some 73, .call 40, [.t 71, .t 72], some (70, true)⟩,
  ⟨some 74, .pick, [.t 70, .t 73, .c (.p (.v (.bool false)))], none⟩,
  ⟨some 75, .mv, [.t 74], none⟩,
  ⟨some 76, .load 15 true, [.t 7], some (75, true)⟩,
  ⟨some 77, .load 15 true, [.t 3], some (75, true)⟩,
  ⟨some 78, .call 43, [.t 76, .t 77], some (75, true)⟩,
  ⟨some 79, .pick, [.t 75, .t 78, .c (.p (.v (.bool false)))], none⟩,
  ⟨some 80, .mv, [.t 79], none⟩,
  ⟨some 81, .call 58, [], some (80, true)⟩,
  ⟨some 82, .pick, [.t 80, .t 81, .c (.p (.v (.bool false)))], none⟩,
  ⟨some 6, .mv, [.t 82], none⟩])
 .ret))))))))
theorem ret22 {ps : List PV} {p : PV} (hn : Nat.ble ps.length 83 = true) (h : (∀ q ∈ ps, q.bd) → Run Try.prog (fun e s' => (∀ id, e ≠ .exit id) ∧ ∃ ns, s'.out [.t 6] = some (p, ns)) [] c22 (S (initL 0 ps) [])) : Ret Try.prog 22 ps p :=
  ret_run Try.func22 rfl (by kernel_rfl) rfl (by kernel_rfl) (by kernel_rfl) (by kernel_rfl) (by kernel_rfl) (Nat.le_of_ble_eq_true hn) h

/-- stevedore/stevedorelaw10.LayoutStands -/
def c23 : C :=
  (.seq (.reg [⟨some 2, .box, [.t 0], none⟩,
  ⟨some 3, .box, [.t 1], none⟩,
  ⟨some 4, .mv, [.c (.p (.v (.bool false)))], none⟩])
 (.seq (.seq (.reg [⟨some 17, .load 15 true, [.t 2], none⟩,
  ⟨some 18, .call 28, [.t 17], none⟩,
  ⟨some 19, .un .not, [.t 18], none⟩])
 (.cond (.t 19)
 (.seq (.reg [⟨some 20, .call 58, [], none⟩,
  ⟨some 4, .mv, [.t 20], none⟩])
 .ret)
 .skip))
 (.seq (.reg [⟨some 22, .load 15 true, [.t 2], none⟩,
  ⟨some 23, .load 8 true, [.t 3], none⟩,
  ⟨some 24, .call 61, [.t 22, .t 23], none⟩,
  ⟨some 21, .mv, [.t 24], none⟩,
  ⟨some 25, .ext 0, [.t 21], none⟩,
  ⟨some 26, .ext 1, [.t 21], none⟩,
  ⟨some 5, .alloc [.sl [] [], .sl [] [], .sl [] [], .sl [] [], .sl [] [], .sl [] [], .sl [] [], .sl [] [], .sl [] [], .sl [] [], .sl [] [], .sl [] [], .sl [] [], .sl [] [], .v (.int .i64 0)], [], none⟩,
  ⟨none, .store 15, [.t 5, .t 25], none⟩,
  ⟨some 6, .mv, [.t 26], none⟩])
 (.seq (.seq (.reg [⟨some 27, .mv, [.t 6], none⟩,
  ⟨some 28, .bin .neq, [.t 27, .c (.p (.v (.int .i64 0)))], none⟩])
 (.cond (.t 28)
 (.seq (.reg [⟨some 29, .fad 3, [.t 5], none⟩,
  ⟨some 30, .load 1 false, [.t 29], none⟩,
  ⟨some 31, .len 0, [.t 30], none⟩,
  ⟨some 32, .bin .eql, [.t 31, .c (.p (.v (.int .i64 0)))], none⟩,
  ⟨some 33, .mv, [.t 32], none⟩,
  ⟨some 34, .call 58, [], some (33, true)⟩,
  ⟨some 35, .pick, [.t 33, .t 34, .c (.p (.v (.bool false)))], none⟩,
  ⟨some 4, .mv, [.t 35], none⟩])
 .ret)
 .skip))
 (.seq (.reg [⟨some 37, .load 15 true, [.t 5], none⟩,
  ⟨some 38, .fad 0, [.t 3], none⟩,
  ⟨some 39, .load 1 false, [.t 38], none⟩,
  ⟨some 40, .call 63, [.t 37, .t 39], none⟩,
  ⟨some 36, .mv, [.t 40], none⟩,
  ⟨some 41, .ext 0, [.t 36], none⟩,
  ⟨some 42, .ext 1, [.t 36], none⟩,
  ⟨some 7, .alloc [.v (.string ⟨#[]⟩), .v (.string ⟨#[]⟩), .v (.int .i64 0), .v (.int .i64 0), .v (.int .i64 0), .v (.int .i64 0), .v (.int .i64 0), .v (.bool false)], [], none⟩,
  ⟨none, .store 8, [.t 7, .t 41], none⟩,
  ⟨some 8, .mv, [.t 42], none⟩])
 (.seq (.reg [⟨some 44, .load 15 true, [.t 2], none⟩,
  ⟨some 45, .fad 1, [.t 3], none⟩,
  ⟨some 46, .load 1 false, [.t 45], none⟩,
  ⟨some 47, .call 69, [.t 44, .t 46], none⟩,
  ⟨some 43, .mv, [.t 47], none⟩,
  ⟨some 48, .ext 0, [.t 43], none⟩,
  ⟨some 49, .ext 1, [.t 43], none⟩,
  ⟨some 9, .alloc [.v (.string ⟨#[]⟩), .v (.string ⟨#[]⟩)], [], none⟩,
  ⟨none, .store 2, [.t 9, .t 48], none⟩,
  ⟨some 10, .mv, [.t 49], none⟩])
 (.seq (.seq (.regd [⟨some 50, .mv, [.t 8], none⟩,
  ⟨some 51, .un .not, [.t 50], none⟩,
  ⟨some 52, .mv, [.t 51], none⟩,
  ⟨some 53, .load 8 true, [.t 7], some (52, false)⟩,
  ⟨some 54, .load 8 true, [.t 3], some (52, false)⟩,
  ⟨some 55, .eqs true [.s, .s, .i .i64, .i .i64, .i .i64, .i .i64, .i .i64, .b], [.t 53, .t 54], some (52, false)⟩,
  ⟨some 56, .pick, [.t 52, .c (.p (.v (.bool true))), .t 55], none⟩,
  ⟨some 57, .mv, [.t 56], none⟩,
  ⟨some 58, .load 15 true, [.t 5], some (57, false)⟩,
  ⟨some 59, .fad 0, [.t 3], some (57, false)⟩,
  ⟨some 60, .load 1 false, [.t 59], some (57, false)⟩,
  ⟨some 61, .call 67, [.t 58, .t 60], some (57, false)⟩,
  ⟨some 62, .fad 1, [.t 9], some (57, false)⟩,
  ⟨some 63, .load 1 false, [.t 62], some (57, false)⟩,
  ⟨some 64, .bin .neq, [.t 61, .t 63], some (57, false)⟩,
  ⟨some 65, .pick, [.t 57, .c (.p (.v (.bool true))), .t 64], none⟩,
  ⟨some 66, .mv, [.t 65], none⟩,
  ⟨some 67, .fad 3, [.t 5], some (66, false)⟩,
  ⟨some 68, .load 1 false, [.t 67], some (66, false)⟩,
  ⟨some 69, .len 0, [.t 68], some (66, false)⟩,
  ⟨some 70, .fad 3, [.t 2], some (66, false)⟩,
  ⟨some 71, .load 1 false, [.t 70], some (66, false)⟩,
  ⟨some 72, .len 0, [.t 71], some (66, false)⟩,
  ⟨some 73, .bin .add, [.t 72, .c (.p (.v (.int .i64 1)))], some (66, false)⟩,
  ⟨some 74, .bin .neq, [.t 69, .t 73], some (66, false)⟩,
  ⟨some 75, .pick, [.t 66, .c (.p (.v (.bool true))), .t 74], none⟩])
 (.cond (.t 75)
 (.seq (.reg [⟨some 4, .mv, [.c (.p (.v (.bool false)))], none⟩])
 .ret)
 .skip))
 (.seq (.reg [⟨some 77, .load 15 true, [.t 5], none⟩,
  ⟨some 78, .fad 0, [.t 3], none⟩,
  ⟨some 79, .load 1 false, [.t 78], none⟩,
  ⟨some 80, .call 65, [.t 77, .t 79, .c (.p (.v (.bool true)))], none⟩,
  ⟨some 76, .mv, [.t 80], none⟩,
  ⟨some 81, .ext 0, [.t 76], none⟩,
  ⟨some 82, .ext 1, [.t 76], none⟩,
  ⟨some 11, .alloc [.sl [] [], .sl [] [], .sl [] [], .sl [] [], .sl [] [], .sl [] [], .sl [] [], .sl [] [], .sl [] [], .sl [] [], .sl [] [], .sl [] [], .sl [] [], .sl [] [], .v (.int .i64 0)], [], none⟩,
  ⟨none, .store 15, [.t 11, .t 81], none⟩,
  ⟨some 12, .mv, [.t 82], none⟩])
 (.seq (.reg [⟨some 84, .load 15 true, [.t 11], none⟩,
  ⟨some 85, .fad 0, [.t 3], none⟩,
  ⟨some 86, .load 1 false, [.t 85], none⟩,
  ⟨some 87, .call 63, [.t 84, .t 86], none⟩,
  ⟨some 83, .mv, [.t 87], none⟩,
  ⟨some 88, .ext 0, [.t 83], none⟩,
  ⟨some 89, .ext 1, [.t 83], none⟩,
  ⟨some 13, .alloc [.v (.string ⟨#[]⟩), .v (.string ⟨#[]⟩), .v (.int .i64 0), .v (.int .i64 0), .v (.int .i64 0), .v (.int .i64 0), .v (.int .i64 0), .v (.bool false)], [], none⟩,
  ⟨none, .store 8, [.t 13, .t 88], none⟩,
  ⟨some 14, .mv, [.t 89], none⟩])
 (.seq (.reg [⟨some 91, .load 15 true, [.t 11], none⟩,
  ⟨some 92, .fad 0, [.t 3], none⟩,
  ⟨some 93, .load 1 false, [.t 92], none⟩,
  ⟨some 94, .call 65, [.t 91, .t 93, .c (.p (.v (.bool false)))], none⟩,
  ⟨some 90, .mv, [.t 94], none⟩,
  ⟨some 95, .ext 0, [.t 90], none⟩,
  ⟨some 96, .ext 1, [.t 90], none⟩,
  ⟨some 15, .alloc [.sl [] [], .sl [] [], .sl [] [], .sl [] [], .sl [] [], .sl [] [], .sl [] [], .sl [] [], .sl [] [], .sl [] [], .sl [] [], .sl [] [], .sl [] [], .sl [] [], .v (.int .i64 0)], [], none⟩,
  ⟨none, .store 15, [.t 15, .t 95], none⟩,
  ⟨some 16, .mv, [.t 96], none⟩])
 (.seq (.reg [⟨some 97, .mv, [.t 12], none⟩,
  ⟨some 98, .bin .eql, [.t 97, .c (.p (.v (.int .i64 0)))], none⟩,
  ⟨some 99, .mv, [.t 98], none⟩,
  ⟨some 100, .mv, [.t 16], some (99, true)⟩,
  ⟨some 101, .bin .eql, [.t 100, .c (.p (.v (.int .i64 0)))], some (99, true)⟩,
  ⟨some 102, .pick, [.t 99, .t 101, .c (.p (.v (.bool false)))], none⟩,
  ⟨some 103, .mv, [.t 102], none⟩,
  ⟨some 104, .mv, [.t 14], some (103, true)⟩,
  ⟨some 105, .pick, [.t 103, .t 104, .c (.p (.v (.bool false)))], none⟩,
  ⟨some 106, .mv, [.t 105], none⟩,
  ⟨some 107, .fad 7, [.t 13], some (106, true)⟩,
  ⟨some 108, .load 1 false, [.t 107], some (106, true)⟩,
  ⟨some 109, .pick, [.t 106, .t 108, .c (.p (.v (.bool false)))], none⟩,
  ⟨some 110, .mv, [.t 109], none⟩,
  ⟨some 111, .load 15 true, [.t 15], some (110, true)⟩,
  ⟨some 112, .load 15 true, [.t 5], some (110, true)⟩,
  ⟨some 113, .call 40, [.t 111, .t 112], some (110, true)⟩,
  ⟨some 114, .pick, [.t 110, .t 113, .c (.p (.v (.bool false)))], none⟩,
  ⟨some 115, .mv, [.t 114], none⟩,
  ⟨some 116, .call 58, [], some (115, true)⟩,
  ⟨some 117, .pick, [.t 115, .t 116, .c (.p (.v (.bool false)))], none⟩,
  ⟨some 4, .mv, [.t 117], none⟩])
 .ret)))))))))))
theorem ret23 {ps : List PV} {p : PV} (hn : Nat.ble ps.length 118 = true) (h : (∀ q ∈ ps, q.bd) → Run Try.prog (fun e s' => (∀ id, e ≠ .exit id) ∧ ∃ ns, s'.out [.t 4] = some (p, ns)) [] c23 (S (initL 0 ps) [])) : Ret Try.prog 23 ps p :=
  ret_run Try.func23 rfl (by kernel_rfl) rfl (by kernel_rfl) (by kernel_rfl) (by kernel_rfl) (by kernel_rfl) (Nat.le_of_ble_eq_true hn) h

/-- stevedore/stevedorelaw10.LayoutBins -/
def c24 : C :=
  (.seq (.reg [⟨some 4, .mv, [.c (.p (.v (.bool false)))], none⟩])
 (.seq (.reg [⟨some 5, .alloc [.sl [] [], .sl [] [], .sl [] [], .sl [] [], .sl [] [], .sl [] [], .sl [] [], .sl [] [], .sl [] [], .sl [] [], .sl [] [], .sl [] [], .sl [] [], .sl [] [], .v (.int .i64 0)], [], none⟩])
 (.seq (.seq (.reg [⟨some 6, .mv, [.c (.p (.v (.int .i64 0)))], none⟩])
 (.block 0
 (.loop
 (.seq (.seq (.reg [⟨some 17, .mv, [.t 6], none⟩,
  ⟨some 18, .mv, [.t 0], none⟩,
  ⟨some 19, .len 0, [.t 18], none⟩,
  ⟨some 20, .bin .lss, [.t 17, .t 19], none⟩,
  ⟨some 21, .mv, [.t 20], none⟩,
  ⟨some 22, .mv, [.t 6], some (21, true)⟩,
  ⟨some 23, .bin .lss, [.t 22, .c (.p (.v (.int .i64 100)))], some (21, true)⟩,
  ⟨some 24, .pick, [.t 21, .t 23, .c (.p (.v (.bool false)))], none⟩])
 (.cond (.t 24)
 .skip
 (.exit 0)))
 (.seq (.block 1
 (.seq (.regd [⟨some 28, .load 15 true, [.t 5], none⟩,
  ⟨some 29, .mv, [.t 0], none⟩,
  ⟨some 30, .mv, [.t 6], none⟩,
  ⟨some 31, .iad 2, [.t 29, .t 30], none⟩,
  ⟨some 32, .load 2 true, [.t 31], none⟩,
  ⟨some 33, .call 59, [.t 28, .t 32], none⟩,
  ⟨some 27, .mv, [.t 33], none⟩,
  ⟨some 34, .ext 0, [.t 27], none⟩,
  ⟨some 35, .ext 1, [.t 27], none⟩,
  ⟨some 7, .alloc [.sl [] [], .sl [] [], .sl [] [], .sl [] [], .sl [] [], .sl [] [], .sl [] [], .sl [] [], .sl [] [], .sl [] [], .sl [] [], .sl [] [], .sl [] [], .sl [] [], .v (.int .i64 0)], [], none⟩,
  ⟨none, .store 15, [.t 7, .t 34], none⟩,
  ⟨some 8, .mv, [.t 35], none⟩])
 (.seq (.reg [⟨some 36, .mv, [.t 8], none⟩,
  ⟨some 37, .bin .eql, [.t 36, .c (.p (.v (.int .i64 0)))], none⟩])
 (.cond (.t 37)
 (.reg [⟨some 38, .load 15 true, [.t 7], none⟩,
  ⟨none, .store 15, [.t 5, .t 38], none⟩])
 .skip))))
 (.reg [⟨some 25, .mv, [.t 6], none⟩,
  ⟨some 26, .bin .add, [.t 25, .c (.p (.v (.int .i64 1)))], none⟩,
  ⟨some 6, .mv, [.t 26], none⟩]))))))
 (.seq (.seq (.reg [⟨some 9, .mv, [.c (.p (.v (.int .i64 0)))], none⟩])
 (.block 2
 (.loop
 (.seq (.seq (.reg [⟨some 39, .mv, [.t 9], none⟩,
  ⟨some 40, .mv, [.t 1], none⟩,
  ⟨some 41, .len 0, [.t 40], none⟩,
  ⟨some 42, .bin .lss, [.t 39, .t 41], none⟩,
  ⟨some 43, .mv, [.t 42], none⟩,
  ⟨some 44, .mv, [.t 9], some (43, true)⟩,
  ⟨some 45, .bin .lss, [.t 44, .c (.p (.v (.int .i64 100)))], some (43, true)⟩,
  ⟨some 46, .pick, [.t 43, .t 45, .c (.p (.v (.bool false)))], none⟩])
 (.cond (.t 46)
 .skip
 (.exit 2)))
 (.seq (.block 3
 (.seq (.regd [⟨some 50, .load 15 true, [.t 5], none⟩,
  ⟨some 51, .mv, [.t 1], none⟩,
  ⟨some 52, .mv, [.t 9], none⟩,
  ⟨some 53, .iad 8, [.t 51, .t 52], none⟩,
  ⟨some 54, .load 8 true, [.t 53], none⟩,
  ⟨some 55, .call 61, [.t 50, .t 54], none⟩,
  ⟨some 49, .mv, [.t 55], none⟩,
  ⟨some 56, .ext 0, [.t 49], none⟩,
  ⟨some 57, .ext 1, [.t 49], none⟩,
  ⟨some 10, .alloc [.sl [] [], .sl [] [], .sl [] [], .sl [] [], .sl [] [], .sl [] [], .sl [] [], .sl [] [], .sl [] [], .sl [] [], .sl [] [], .sl [] [], .sl [] [], .sl [] [], .v (.int .i64 0)], [], none⟩,
  ⟨none, .store 15, [.t 10, .t 56], none⟩,
  ⟨some 11, .mv, [.t 57], none⟩])
 (.seq (.reg [⟨some 58, .mv, [.t 11], none⟩,
  ⟨some 59, .bin .eql, [.t 58, .c (.p (.v (.int .i64 0)))], none⟩])
 (.cond (.t 59)
 (.reg [⟨some 60, .load 15 true, [.t 10], none⟩,
  ⟨none, .store 15, [.t 5, .t 60], none⟩])
 .skip))))
 (.reg [⟨some 47, .mv, [.t 9], none⟩,
  ⟨some 48, .bin .add, [.t 47, .c (.p (.v (.int .i64 1)))], none⟩,
  ⟨some 9, .mv, [.t 48], none⟩]))))))
 (.seq (.seq (.reg [⟨some 61, .fad 2, [.t 5], none⟩,
  ⟨some 62, .load 1 false, [.t 61], none⟩,
  ⟨some 63, .len 0, [.t 62], none⟩,
  ⟨some 64, .bin .gtr, [.t 63, .c (.p (.v (.int .i64 16)))], none⟩,
  ⟨some 65, .mv, [.t 64], none⟩,
  ⟨some 66, .fad 3, [.t 5], some (65, false)⟩,
  ⟨some 67, .load 1 false, [.t 66], some (65, false)⟩,
  ⟨some 68, .len 0, [.t 67], some (65, false)⟩,
  ⟨some 69, .bin .gtr, [.t 68, .c (.p (.v (.int .i64 64)))], some (65, false)⟩,
  ⟨some 70, .pick, [.t 65, .c (.p (.v (.bool true))), .t 69], none⟩])
 (.cond (.t 70)
 (.seq (.reg [⟨some 4, .mv, [.c (.p (.v (.bool false)))], none⟩])
 .ret)
 .skip))
 (.seq (.seq (.reg [⟨some 12, .mv, [.c (.p (.v (.int .i64 0)))], none⟩])
 (.block 4
 (.loop
 (.seq (.seq (.reg [⟨some 71, .mv, [.t 12], none⟩,
  ⟨some 72, .fad 3, [.t 5], none⟩,
  ⟨some 73, .load 1 false, [.t 72], none⟩,
  ⟨some 74, .len 0, [.t 73], none⟩,
  ⟨some 75, .bin .lss, [.t 71, .t 74], none⟩])
 (.cond (.t 75)
 .skip
 (.exit 4)))
 (.seq (.block 5
 (.seq (.reg [⟨some 78, .fad 3, [.t 5], none⟩,
  ⟨some 79, .load 1 false, [.t 78], none⟩,
  ⟨some 80, .mv, [.t 12], none⟩,
  ⟨some 81, .iad 8, [.t 79, .t 80], none⟩,
  ⟨some 82, .load 8 true, [.t 81], none⟩,
  ⟨some 13, .alloc [.v (.string ⟨#[]⟩), .v (.string ⟨#[]⟩), .v (.int .i64 0), .v (.int .i64 0), .v (.int .i64 0), .v (.int .i64 0), .v (.int .i64 0), .v (.bool false)], [], none⟩,
  ⟨none, .store 8, [.t 13, .t 82], none⟩])
 (.seq (.reg [⟨some 84, .load 15 true, [.t 5], none⟩,
  ⟨some 85, .fad 1, [.t 13], none⟩,
  ⟨some 86, .load 1 false, [.t 85], none⟩,
  ⟨some 87, .call 69, [.t 84, .t 86], none⟩,
  ⟨some 83, .mv, [.t 87], none⟩,
  ⟨some 88, .ext 0, [.t 83], none⟩,
  ⟨some 89, .ext 1, [.t 83], none⟩,
  ⟨some 14, .alloc [.v (.string ⟨#[]⟩), .v (.string ⟨#[]⟩)], [], none⟩,
  ⟨none, .store 2, [.t 14, .t 88], none⟩,
  ⟨some 15, .mv, [.t 89], none⟩])
 (.seq (.regd [⟨some 90, .mv, [.t 15], none⟩,
  ⟨some 91, .un .not, [.t 90], none⟩,
  ⟨some 92, .mv, [.t 91], none⟩,
  ⟨some 93, .mv, [.t 12], some (92, false)⟩,
  ⟨some 94, .bin .gtr, [.t 93, .c (.p (.v (.int .i64 0)))], some (92, false)⟩,
  ⟨some 95, .mv, [.t 94], some (92, false)⟩,
  ⟨some 96, .fad 3, [.t 5], some (95, true)⟩,
  ⟨some 97, .load 1 false, [.t 96], some (95, true)⟩,
  ⟨some 98, .mv, [.t 12], some (95, true)⟩,
  ⟨some 99, .bin .sub, [.t 98, .c (.p (.v (.int .i64 1)))], some (95, true)⟩,
  ⟨some 100, .iad 8, [.t 97, .t 99], some (95, true)⟩,
  ⟨some 101, .fad 0, [.t 100], some (95, true)⟩,
  ⟨some 102, .load 1 false, [.t 101], some (95, true)⟩,
  ⟨some 103, .fad 0, [.t 13], some (95, true)⟩,
  ⟨some 104, .load 1 false, [.t 103], some (95, true)⟩,
  ⟨some 105, .bin .geq, [.t 102, .t 104], some (95, true)⟩,
  ⟨some 106, .pick, [.t 95, .t 105, .c (.p (.v (.bool false)))], some (92, false)⟩,
  ⟨some 107, .pick, [.t 92, .c (.p (.v (.bool true))), .t 106], none⟩,
  ⟨some 108, .mv, [.t 107], none⟩,
  ⟨some 109, .fad 7, [.t 13], some (108, false)⟩,
  ⟨some 110, .load 1 false, [.t 109], some (108, false)⟩,
  ⟨some 111, .pick, [.t 108, .c (.p (.v (.bool true))), .t 110], none⟩,
  ⟨some 112, .mv, [.t 111], none⟩,
  ⟨some 113, .fad 2, [.t 13], some (112, false)⟩,
  ⟨some 114, .load 1 false, [.t 113], some (112, false)⟩,
  ⟨some 115, .bin .lss, [.t 114, .c (.p (.v (.int .i64 1)))], some (112, false)⟩,
  ⟨some 116, .pick, [.t 112, .c (.p (.v (.bool true))), .t 115], none⟩,
  ⟨some 117, .mv, [.t 116], none⟩,
  ⟨some 118, .fad 2, [.t 13], some (117, false)⟩,
  ⟨some 119, .load 1 false, [.t 118], some (117, false)⟩,
  ⟨some 120, .bin .gtr, [.t 119, .c (.p (.v (.int .i64 4)))], some (117, false)⟩,
  ⟨some 121, .pick, [.t 117, .c (.p (.v (.bool true))), .t 120], none⟩,
  ⟨some 122, .mv, [.t 121], none⟩,
  ⟨some 123, .fad 5, [.t 13], some (122, false)⟩,
  ⟨some 124, .load 1 false, [.t 123], some (122, false)⟩,
  ⟨some 125, .bin .lss, [.t 124, .c (.p (.v (.int .i64 0)))], some (122, false)⟩,
  ⟨some 126, .pick, [.t 122, .c (.p (.v (.bool true))), .t 125], none⟩,
  ⟨some 127, .mv, [.t 126], none⟩,
  ⟨some 128, .fad 6, [.t 13], some (127, false)⟩,
  ⟨some 129, .load 1 false, [.t 128], some (127, false)⟩,
  ⟨some 130, .bin .lss, [.t 129, .c (.p (.v (.int .i64 0)))], some (127, false)⟩,
  ⟨some 131, .pick, [.t 127, .c (.p (.v (.bool true))), .t 130], none⟩])
 (.cond (.t 131)
 (.seq (.reg [⟨some 4, .mv, [.c (.p (.v (.bool false)))], none⟩])
 .ret)
 .skip)))))
 (.reg [⟨some 76, .mv, [.t 12], none⟩,
  ⟨some 77, .bin .add, [.t 76, .c (.p (.v (.int .i64 1)))], none⟩,
  ⟨some 12, .mv, [.t 77], none⟩]))))))
 (.seq (.seq (.reg [⟨some 16, .mv, [.c (.p (.v (.int .i64 1)))], none⟩])
 (.block 6
 (.loop
 (.seq (.seq (.reg [⟨some 132, .mv, [.t 16], none⟩,
  ⟨some 133, .fad 2, [.t 5], none⟩,
  ⟨some 134, .load 1 false, [.t 133], none⟩,
  ⟨some 135, .len 0, [.t 134], none⟩,
  ⟨some 136, .bin .lss, [.t 132, .t 135], none⟩])
 (.cond (.t 136)
 .skip
 (.exit 6)))
 (.seq (.block 7
 (.seq (.regd [⟨some 139, .fad 2, [.t 5], none⟩,
  ⟨some 140, .load 1 false, [.t 139], none⟩,
  ⟨some 141, .mv, [.t 16], none⟩,
  ⟨some 142, .bin .sub, [.t 141, .c (.p (.v (.int .i64 1)))], none⟩,
  ⟨some 143, .iad 2, [.t 140, .t 142], none⟩,
  ⟨some 144, .fad 0, [.t 143], none⟩,
  ⟨some 145, .load 1 false, [.t 144], none⟩,
  ⟨some 146, .fad 2, [.t 5], none⟩,
  ⟨some 147, .load 1 false, [.t 146], none⟩,
  ⟨some 148, .mv, [.t 16], none⟩,
  ⟨some 149, .iad 2, [.t 147, .t 148], none⟩,
  ⟨some 150, .fad 0, [.t 149], none⟩,
  ⟨some 151, .load 1 false, [.t 150], none⟩,
  ⟨some 152, .bin .geq, [.t 145, .t 151], none⟩])
 (.cond (.t 152)
 (.seq (.reg [⟨some 4, .mv, [.c (.p (.v (.bool false)))], none⟩])
 .ret)
 .skip)))
 (.reg [⟨some 137, .mv, [.t 16], none⟩,
  ⟨some 138, .bin .add, [.t 137, .c (.p (.v (.int .i64 1)))], none⟩,
  ⟨some 16, .mv, [.t 138], none⟩]))))))
 (.seq (.reg [⟨some 153, .call 58, [], none⟩,
  ⟨some 4, .mv, [.t 153], none⟩])
 .ret))))))))
theorem ret24 {ps : List PV} {p : PV} (hn : Nat.ble ps.length 154 = true) (h : (∀ q ∈ ps, q.bd) → Run Try.prog (fun e s' => (∀ id, e ≠ .exit id) ∧ ∃ ns, s'.out [.t 4] = some (p, ns)) [] c24 (S (initL 0 ps) [])) : Ret Try.prog 24 ps p :=
  ret_run Try.func24 rfl (by kernel_rfl) rfl (by kernel_rfl) (by kernel_rfl) (by kernel_rfl) (by kernel_rfl) (Nat.le_of_ble_eq_true hn) h

/-- stevedore/stevedorelaw10.LayoutZones -/
def c25 : C :=
  (.seq (.reg [⟨some 2, .box, [.t 0], none⟩,
  ⟨some 3, .box, [.t 1], none⟩,
  ⟨some 4, .mv, [.c (.p (.v (.bool false)))], none⟩])
 (.seq (.seq (.reg [⟨some 10, .load 15 true, [.t 2], none⟩,
  ⟨some 11, .call 28, [.t 10], none⟩,
  ⟨some 12, .un .not, [.t 11], none⟩])
 (.cond (.t 12)
 (.seq (.reg [⟨some 13, .call 58, [], none⟩,
  ⟨some 4, .mv, [.t 13], none⟩])
 .ret)
 .skip))
 (.seq (.reg [⟨some 14, .load 15 true, [.t 2], none⟩,
  ⟨some 15, .call 35, [.t 14], none⟩,
  ⟨some 5, .alloc [.sl [] [], .sl [] [], .sl [] [], .sl [] [], .sl [] [], .sl [] [], .sl [] [], .sl [] [], .sl [] [], .sl [] [], .sl [] [], .sl [] [], .sl [] [], .sl [] [], .v (.int .i64 0)], [], none⟩,
  ⟨none, .store 15, [.t 5, .t 15], none⟩])
 (.seq (.reg [⟨some 17, .load 15 true, [.t 5], none⟩,
  ⟨some 18, .load 2 true, [.t 3], none⟩,
  ⟨some 19, .call 59, [.t 17, .t 18], none⟩,
  ⟨some 16, .mv, [.t 19], none⟩,
  ⟨some 20, .ext 0, [.t 16], none⟩,
  ⟨some 21, .ext 1, [.t 16], none⟩,
  ⟨some 6, .alloc [.sl [] [], .sl [] [], .sl [] [], .sl [] [], .sl [] [], .sl [] [], .sl [] [], .sl [] [], .sl [] [], .sl [] [], .sl [] [], .sl [] [], .sl [] [], .sl [] [], .v (.int .i64 0)], [], none⟩,
  ⟨none, .store 15, [.t 6, .t 20], none⟩,
  ⟨some 7, .mv, [.t 21], none⟩])
 (.seq (.reg [⟨some 23, .load 15 true, [.t 2], none⟩,
  ⟨some 24, .load 2 true, [.t 3], none⟩,
  ⟨some 25, .call 60, [.t 23, .t 24], none⟩,
  ⟨some 22, .mv, [.t 25], none⟩,
  ⟨some 26, .ext 0, [.t 22], none⟩,
  ⟨some 27, .ext 1, [.t 22], none⟩,
  ⟨some 8, .alloc [.sl [] [], .sl [] [], .sl [] [], .sl [] [], .sl [] [], .sl [] [], .sl [] [], .sl [] [], .sl [] [], .sl [] [], .sl [] [], .sl [] [], .sl [] [], .sl [] [], .v (.int .i64 0)], [], none⟩,
  ⟨none, .store 15, [.t 8, .t 26], none⟩,
  ⟨some 9, .mv, [.t 27], none⟩])
 (.seq (.reg [⟨some 28, .mv, [.t 7], none⟩,
  ⟨some 29, .mv, [.t 9], none⟩,
  ⟨some 30, .bin .eql, [.t 28, .t 29], none⟩,
  ⟨some 31, .mv, [.t 30], none⟩,
  ⟨some 32, .load 15 true, [.t 6], some (31, true)⟩,
  ⟨some 33, .load 15 true, [.t 8], some (31, true)⟩,
  ⟨some 34, .call 40, [.t 32, .t 33], some (31, true)⟩,
  ⟨some 35, .pick, [.t 31, .t 34, .c (.p (.v (.bool false)))], none⟩,
  ⟨some 36, .mv, [.t 35], none⟩,
  ⟨some 37, .load 15 true, [.t 5], some (36, true)⟩,
  ⟨some 38, .load 15 true, [.t 2], some (36, true)⟩,
  ⟨some 39, .call 43, [.t 37, .t 38], some (36, true)⟩,
  ⟨some 40, .pick, [.t 36, .t 39, .c (.p (.v (.bool false)))], none⟩,
  ⟨some 41, .mv, [.t 40], none⟩,
  ⟨some 42, .call 58, [], some (41, true)⟩,
  ⟨some 43, .pick, [.t 41, .t 42, .c (.p (.v (.bool false)))], none⟩,
  ⟨some 4, .mv, [.t 43], none⟩])
 .ret))))))
theorem ret25 {ps : List PV} {p : PV} (hn : Nat.ble ps.length 44 = true) (h : (∀ q ∈ ps, q.bd) → Run Try.prog (fun e s' => (∀ id, e ≠ .exit id) ∧ ∃ ns, s'.out [.t 4] = some (p, ns)) [] c25 (S (initL 0 ps) [])) : Ret Try.prog 25 ps p :=
  ret_run Try.func25 rfl (by kernel_rfl) rfl (by kernel_rfl) (by kernel_rfl) (by kernel_rfl) (by kernel_rfl) (Nat.le_of_ble_eq_true hn) h

/-- stevedore/stevedorelaw10.LayoutFreeze -/
def c26 : C :=
  (.seq (.reg [⟨some 3, .box, [.t 0], none⟩,
  ⟨some 6, .mv, [.c (.p (.v (.bool false)))], none⟩])
 (.seq (.seq (.reg [⟨some 12, .load 15 true, [.t 3], none⟩,
  ⟨some 13, .call 28, [.t 12], none⟩,
  ⟨some 14, .un .not, [.t 13], none⟩])
 (.cond (.t 14)
 (.seq (.reg [⟨some 15, .call 58, [], none⟩,
  ⟨some 6, .mv, [.t 15], none⟩])
 .ret)
 .skip))
 (.seq (.reg [⟨some 16, .load 15 true, [.t 3], none⟩,
  ⟨some 17, .call 35, [.t 16], none⟩,
  ⟨some 7, .alloc [.sl [] [], .sl [] [], .sl [] [], .sl [] [], .sl [] [], .sl [] [], .sl [] [], .sl [] [], .sl [] [], .sl [] [], .sl [] [], .sl [] [], .sl [] [], .sl [] [], .v (.int .i64 0)], [], none⟩,
  ⟨none, .store 15, [.t 7, .t 17], none⟩])
 (.seq (.reg [⟨some 19, .load 15 true, [.t 7], none⟩,
  ⟨some 20, .mv, [.t 1], none⟩,
  ⟨some 21, .mv, [.t 2], none⟩,
  ⟨some 22, .call 65, [.t 19, .t 20, .t 21], none⟩,
  ⟨some 18, .mv, [.t 22], none⟩,
  ⟨some 23, .ext 0, [.t 18], none⟩,
  ⟨some 24, .ext 1, [.t 18], none⟩,
  ⟨some 8, .alloc [.sl [] [], .sl [] [], .sl [] [], .sl [] [], .sl [] [], .sl [] [], .sl [] [], .sl [] [], .sl [] [], .sl [] [], .sl [] [], .sl [] [], .sl [] [], .sl [] [], .v (.int .i64 0)], [], none⟩,
  ⟨none, .store 15, [.t 8, .t 23], none⟩,
  ⟨some 9, .mv, [.t 24], none⟩])
 (.seq (.reg [⟨some 26, .load 15 true, [.t 3], none⟩,
  ⟨some 27, .mv, [.t 1], none⟩,
  ⟨some 28, .mv, [.t 2], none⟩,
  ⟨some 29, .call 66, [.t 26, .t 27, .t 28], none⟩,
  ⟨some 25, .mv, [.t 29], none⟩,
  ⟨some 30, .ext 0, [.t 25], none⟩,
  ⟨some 31, .ext 1, [.t 25], none⟩,
  ⟨some 10, .alloc [.sl [] [], .sl [] [], .sl [] [], .sl [] [], .sl [] [], .sl [] [], .sl [] [], .sl [] [], .sl [] [], .sl [] [], .sl [] [], .sl [] [], .sl [] [], .sl [] [], .v (.int .i64 0)], [], none⟩,
  ⟨none, .store 15, [.t 10, .t 30], none⟩,
  ⟨some 11, .mv, [.t 31], none⟩])
 (.seq (.reg [⟨some 32, .mv, [.t 9], none⟩,
  ⟨some 33, .mv, [.t 11], none⟩,
  ⟨some 34, .bin .eql, [.t 32, .t 33], none⟩,
  ⟨some 35, .mv, [.t 34], none⟩,
  ⟨some 36, .load 15 true, [.t 8], some (35, true)⟩,
  ⟨some 37, .load 15 true, [.t 10], some (35, true)⟩,
  ⟨some 38, .call 40, [.t 36, .t 37], some (35, true)⟩,
  ⟨some 39, .pick, [.t 35, .t 38, .c (.p (.v (.bool false)))], none⟩,
  ⟨some 40, .mv, [.t 39], none⟩,
  ⟨some 41, .load 15 true, [.t 7], some (40, true)⟩,
  ⟨some 42, .load 15 true, [.t 3], some (40, true)⟩,
  ⟨some 43, .call 43, [.t 41, .t 42], some (40, true)⟩,
  ⟨some 44, .pick, [.t 40, .t 43, .c (.p (.v (.bool false)))], none⟩,
  ⟨some 45, .mv, [.t 44], none⟩,
  ⟨some 46, .call 58, [], some (45, true)⟩,
  ⟨some 47, .pick, [.t 45, .t 46, .c (.p (.v (.bool false)))], none⟩,
  ⟨some 6, .mv, [.t 47], none⟩])
 .ret))))))
theorem ret26 {ps : List PV} {p : PV} (hn : Nat.ble ps.length 48 = true) (h : (∀ q ∈ ps, q.bd) → Run Try.prog (fun e s' => (∀ id, e ≠ .exit id) ∧ ∃ ns, s'.out [.t 6] = some (p, ns)) [] c26 (S (initL 0 ps) [])) : Ret Try.prog 26 ps p :=
  ret_run Try.func26 rfl (by kernel_rfl) rfl (by kernel_rfl) (by kernel_rfl) (by kernel_rfl) (by kernel_rfl) (Nat.le_of_ble_eq_true hn) h

/-- stevedore/stevedorelaw10.LayoutSites -/
def c27 : C :=
  (.seq (.reg [⟨some 2, .box, [.t 0], none⟩,
  ⟨some 4, .mv, [.c (.p (.v (.bool false)))], none⟩])
 (.seq (.seq (.reg [⟨some 5, .load 15 true, [.t 2], none⟩,
  ⟨some 6, .call 28, [.t 5], none⟩,
  ⟨some 7, .un .not, [.t 6], none⟩])
 (.cond (.t 7)
 (.seq (.reg [⟨some 8, .call 58, [], none⟩,
  ⟨some 4, .mv, [.t 8], none⟩])
 .ret)
 .skip))
 (.seq (.regd [⟨some 9, .load 15 true, [.t 2], none⟩,
  ⟨some 10, .mv, [.t 1], none⟩,
  ⟨some 11, .call 67, [.t 9, .t 10], none⟩,
  ⟨some 12, .load 15 true, [.t 2], none⟩,
  ⟨some 13, .mv, [.t 1], none⟩,
  ⟨some 14, .call 68, [.t 12, .t 13], none⟩,
  ⟨some 15, .bin .eql, [.t 11, .t 14], none⟩,
  ⟨some 16, .mv, [.t 15], none⟩,
  ⟨some 17, .call 58, [], some (16, true)⟩,
  ⟨some 18, .pick, [.t 16, .t 17, .c (.p (.v (.bool false)))], none⟩,
  ⟨some 4, .mv, [.t 18], none⟩])
 .ret)))
theorem ret27 {ps : List PV} {p : PV} (hn : Nat.ble ps.length 19 = true) (h : (∀ q ∈ ps, q.bd) → Run Try.prog (fun e s' => (∀ id, e ≠ .exit id) ∧ ∃ ns, s'.out [.t 4] = some (p, ns)) [] c27 (S (initL 0 ps) [])) : Ret Try.prog 27 ps p :=
  ret_run Try.func27 rfl (by kernel_rfl) rfl (by kernel_rfl) (by kernel_rfl) (by kernel_rfl) (by kernel_rfl) (Nat.le_of_ble_eq_true hn) h

/-- stevedore/stevedorelaw11.RoomLoads -/
def c13 : C :=
  (.seq (.reg [⟨some 2, .box, [.t 0], none⟩,
  ⟨some 3, .box, [.t 1], none⟩,
  ⟨some 4, .mv, [.c (.p (.v (.bool false)))], none⟩])
 (.seq (.seq (.reg [⟨some 10, .load 15 true, [.t 2], none⟩,
  ⟨some 11, .call 28, [.t 10], none⟩,
  ⟨some 12, .un .not, [.t 11], none⟩])
 (.cond (.t 12)
 (.seq (.reg [⟨some 13, .call 46, [], none⟩,
  ⟨some 4, .mv, [.t 13], none⟩])
 .ret)
 .skip))
 (.seq (.reg [⟨some 14, .load 15 true, [.t 2], none⟩,
  ⟨some 15, .call 35, [.t 14], none⟩,
  ⟨some 5, .alloc [.sl [] [], .sl [] [], .sl [] [], .sl [] [], .sl [] [], .sl [] [], .sl [] [], .sl [] [], .sl [] [], .sl [] [], .sl [] [], .sl [] [], .sl [] [], .sl [] [], .v (.int .i64 0)], [], none⟩,
  ⟨none, .store 15, [.t 5, .t 15], none⟩])
 (.seq (.reg [⟨some 17, .load 15 true, [.t 5], none⟩,
  ⟨some 18, .fad 0, [.t 3], none⟩,
  ⟨some 19, .load 1 false, [.t 18], none⟩,
  ⟨some 20, .call 47, [.t 17, .t 19], none⟩,
  ⟨some 16, .mv, [.t 20], none⟩,
  ⟨some 21, .ext 0, [.t 16], none⟩,
  ⟨some 22, .ext 1, [.t 16], none⟩,
  ⟨some 6, .mv, [.t 21], none⟩,
  ⟨some 7, .mv, [.t 22], none⟩])
 (.seq (.reg [⟨some 24, .load 15 true, [.t 2], none⟩,
  ⟨some 25, .fad 0, [.t 3], none⟩,
  ⟨some 26, .load 1 false, [.t 25], none⟩,
  ⟨some 27, .call 48, [.t 24, .t 26], none⟩,
  ⟨some 23, .mv, [.t 27], none⟩,
  ⟨some 28, .ext 0, [.t 23], none⟩,
  ⟨some 29, .ext 1, [.t 23], none⟩,
  ⟨some 8, .mv, [.t 28], none⟩,
  ⟨some 9, .mv, [.t 29], none⟩])
 (.seq (.regd [⟨some 30, .mv, [.t 6], none⟩,
  ⟨some 31, .mv, [.t 8], none⟩,
  ⟨some 32, .bin .eql, [.t 30, .t 31], none⟩,
  ⟨some 33, .mv, [.t 32], none⟩,
  ⟨some 34, .mv, [.t 7], some (33, true)⟩,
  ⟨some 35, .mv, [.t 9], some (33, true)⟩,
  ⟨some 36, .bin .eql, [.t 34, .t 35], some (33, true)⟩,
  ⟨some 37, .pick, [.t 33, .t 36, .c (.p (.v (.bool false)))], none⟩,
  ⟨some 38, .mv, [.t 37], none⟩,
  ⟨some 39, .load 15 true, [.t 5], some (38, true)⟩,
  ⟨some 40, .fad 0, [.t 3], some (38, true)⟩,
  ⟨some 41, .load 1 false, [.t 40], some (38, true)⟩,
  ⟨some 42, .fad 1, [.t 3], some (38, true)⟩,
  ⟨some 43, .load 1 false, [.t 42], some (38, true)⟩,
  ⟨some 44, .fad 2, [.t 3], some (38, true)⟩,
  ⟨some 45, .load 1 false, [.t 44], some (38, true)⟩,
  ⟨some 46, .call 49, [.t 39, .t 41, .t 43, .t 45], some (38, true)⟩,
  ⟨some 47, .load 15 true, [.t 2], some (38, true)⟩,
  ⟨some 48, .fad 0, [.t 3], some (38, true)⟩,
  ⟨some 49, .load 1 false, [.t 48], some (38, true)⟩,
  ⟨some 50, .fad 1, [.t 3], some (38, true)⟩,
  ⟨some 51, .load 1 false, [.t 50], some (38, true)⟩,
  ⟨some 52, .fad 2, [.t 3], some (38, true)⟩,
  ⟨some 53, .load 1 false, [.t 52], some (38, true)⟩,
  ⟨some 54, .call 50, [.t 47, .t 49, .t 51, .t 53], some (38, true)⟩,
  ⟨some 55, .bin .eql, [.t 46, .t 54], some (38, true)⟩,
  ⟨some 56, .pick, [.t 38, .t 55, .c (.p (.v (.bool false)))], none⟩,
  ⟨some 57, .mv, [.t 56], none⟩,
  ⟨some 58, .load 15 true, [.t 5], some (57, true)⟩,
  ⟨some 59, .call 52, [.t 58], some (57, true)⟩,
  ⟨some 60, .load 15 true, [.t 2], some (57, true)⟩,
  ⟨some 61, .call 53, [.t 60], some (57, true)⟩,
  ⟨some 62, .call 51, [.t 59, .t 61], some (57, true)⟩,
  ⟨some 63, .pick, [.t 57, .t 62, .c (.p (.v (.bool false)))], none⟩,
  ⟨some 64, .mv, [.t 63], none⟩,
  ⟨some 65, .load 15 true, [.t 5], some (64, true)⟩,
  ⟨some 66, .load 15 true, [.t 2], some (64, true)⟩,
  ⟨some 67, .call 43, [.t 65, .t 66], some (64, true)⟩,
  ⟨some 68, .pick, [.t 64, .t 67, .c (.p (.v (.bool false)))], none⟩,
  ⟨some 69, .mv, [.t 68], none⟩,
  ⟨some 70, .call 46, [], some (69, true)⟩,
  ⟨some 71, .pick, [.t 69, .t 70, .c (.p (.v (.bool false)))], none⟩,
  ⟨some 4, .mv, [.t 71], none⟩])
 .ret))))))
theorem ret13 {ps : List PV} {p : PV} (hn : Nat.ble ps.length 72 = true) (h : (∀ q ∈ ps, q.bd) → Run Try.prog (fun e s' => (∀ id, e ≠ .exit id) ∧ ∃ ns, s'.out [.t 4] = some (p, ns)) [] c13 (S (initL 0 ps) [])) : Ret Try.prog 13 ps p :=
  ret_run Try.func13 rfl (by kernel_rfl) rfl (by kernel_rfl) (by kernel_rfl) (by kernel_rfl) (by kernel_rfl) (Nat.le_of_ble_eq_true hn) h

/-- stevedore/stevedorelaw11.RoomTurns -/
def c14 : C :=
  (.seq (.reg [⟨some 2, .box, [.t 0], none⟩,
  ⟨some 3, .box, [.t 1], none⟩,
  ⟨some 4, .mv, [.c (.p (.v (.bool false)))], none⟩])
 (.seq (.seq (.reg [⟨some 14, .load 15 true, [.t 2], none⟩,
  ⟨some 15, .call 28, [.t 14], none⟩,
  ⟨some 16, .un .not, [.t 15], none⟩])
 (.cond (.t 16)
 (.seq (.reg [⟨some 17, .call 46, [], none⟩,
  ⟨some 4, .mv, [.t 17], none⟩])
 .ret)
 .skip))
 (.seq (.reg [⟨some 18, .load 15 true, [.t 2], none⟩,
  ⟨some 19, .call 35, [.t 18], none⟩,
  ⟨some 5, .alloc [.sl [] [], .sl [] [], .sl [] [], .sl [] [], .sl [] [], .sl [] [], .sl [] [], .sl [] [], .sl [] [], .sl [] [], .sl [] [], .sl [] [], .sl [] [], .sl [] [], .v (.int .i64 0)], [], none⟩,
  ⟨none, .store 15, [.t 5, .t 19], none⟩])
 (.seq (.reg [⟨some 21, .load 15 true, [.t 5], none⟩,
  ⟨some 22, .fad 1, [.t 3], none⟩,
  ⟨some 23, .load 1 false, [.t 22], none⟩,
  ⟨some 24, .fad 3, [.t 3], none⟩,
  ⟨some 25, .load 1 false, [.t 24], none⟩,
  ⟨some 26, .fad 4, [.t 3], none⟩,
  ⟨some 27, .load 1 false, [.t 26], none⟩,
  ⟨some 28, .call 54, [.t 21, .t 23, .t 25, .t 27], none⟩,
  ⟨some 20, .mv, [.t 28], none⟩,
  ⟨some 29, .ext 0, [.t 20], none⟩,
  ⟨some 30, .ext 1, [.t 20], none⟩,
  ⟨some 6, .alloc [.sl [] [], .sl [] [], .sl [] [], .sl [] [], .sl [] [], .sl [] [], .sl [] [], .sl [] [], .sl [] [], .sl [] [], .sl [] [], .sl [] [], .sl [] [], .sl [] [], .v (.int .i64 0)], [], none⟩,
  ⟨none, .store 15, [.t 6, .t 29], none⟩,
  ⟨some 7, .mv, [.t 30], none⟩])
 (.seq (.reg [⟨some 32, .load 15 true, [.t 2], none⟩,
  ⟨some 33, .fad 1, [.t 3], none⟩,
  ⟨some 34, .load 1 false, [.t 33], none⟩,
  ⟨some 35, .fad 3, [.t 3], none⟩,
  ⟨some 36, .load 1 false, [.t 35], none⟩,
  ⟨some 37, .fad 4, [.t 3], none⟩,
  ⟨some 38, .load 1 false, [.t 37], none⟩,
  ⟨some 39, .call 55, [.t 32, .t 34, .t 36, .t 38], none⟩,
  ⟨some 31, .mv, [.t 39], none⟩,
  ⟨some 40, .ext 0, [.t 31], none⟩,
  ⟨some 41, .ext 1, [.t 31], none⟩,
  ⟨some 8, .alloc [.sl [] [], .sl [] [], .sl [] [], .sl [] [], .sl [] [], .sl [] [], .sl [] [], .sl [] [], .sl [] [], .sl [] [], .sl [] [], .sl [] [], .sl [] [], .sl [] [], .v (.int .i64 0)], [], none⟩,
  ⟨none, .store 15, [.t 8, .t 40], none⟩,
  ⟨some 9, .mv, [.t 41], none⟩])
 (.seq (.reg [⟨some 43, .load 15 true, [.t 5], none⟩,
  ⟨some 44, .fad 0, [.t 3], none⟩,
  ⟨some 45, .load 1 false, [.t 44], none⟩,
  ⟨some 46, .fad 3, [.t 3], none⟩,
  ⟨some 47, .load 1 false, [.t 46], none⟩,
  ⟨some 48, .fad 4, [.t 3], none⟩,
  ⟨some 49, .load 1 false, [.t 48], none⟩,
  ⟨some 50, .call 56, [.t 43, .t 45, .t 47, .t 49], none⟩,
  ⟨some 42, .mv, [.t 50], none⟩,
  ⟨some 51, .ext 0, [.t 42], none⟩,
  ⟨some 52, .ext 1, [.t 42], none⟩,
  ⟨some 10, .alloc [.sl [] [], .sl [] [], .sl [] [], .sl [] [], .sl [] [], .sl [] [], .sl [] [], .sl [] [], .sl [] [], .sl [] [], .sl [] [], .sl [] [], .sl [] [], .sl [] [], .v (.int .i64 0)], [], none⟩,
  ⟨none, .store 15, [.t 10, .t 51], none⟩,
  ⟨some 11, .mv, [.t 52], none⟩])
 (.seq (.reg [⟨some 54, .load 15 true, [.t 2], none⟩,
  ⟨some 55, .fad 0, [.t 3], none⟩,
  ⟨some 56, .load 1 false, [.t 55], none⟩,
  ⟨some 57, .fad 3, [.t 3], none⟩,
  ⟨some 58, .load 1 false, [.t 57], none⟩,
  ⟨some 59, .fad 4, [.t 3], none⟩,
  ⟨some 60, .load 1 false, [.t 59], none⟩,
  ⟨some 61, .call 57, [.t 54, .t 56, .t 58, .t 60], none⟩,
  ⟨some 53, .mv, [.t 61], none⟩,
  ⟨some 62, .ext 0, [.t 53], none⟩,
  ⟨some 63, .ext 1, [.t 53], none⟩,
  ⟨some 12, .alloc [.sl [] [], .sl [] [], .sl [] [], .sl [] [], .sl [] [], .sl [] [], .sl [] [], .sl [] [], .sl [] [], .sl [] [], .sl [] [], .sl [] [], .sl [] [], .sl [] [], .v (.int .i64 0)], [], none⟩,
  ⟨none, .store 15, [.t 12, .t 62], none⟩,
  ⟨some 13, .mv, [.t 63], none⟩])
 (.seq (.reg [⟨some 64, .mv, [.t 7], none⟩,
  ⟨some 65, .mv, [.t 9], none⟩,
  ⟨some 66, .bin .eql, [.t 64, .t 65], none⟩,
  ⟨some 67, .mv, [.t 66], none⟩,
  ⟨some 68, .mv, [.t 11], some (67, true)⟩,
  ⟨some 69, .mv, [.t 13], some (67, true)⟩,
  ⟨some 70, .bin .eql, [.t 68, .t 69], some (67, true)⟩,
  ⟨some 71, .pick, [.t 67, .t 70, .c (.p (.v (.bool false)))], none⟩,
  ⟨some 72, .mv, [.t 71], none⟩,
  ⟨some 73, .load 15 true, [.t 6], some (72, true)⟩,
  ⟨some 74, .load 15 true, [.t 8], some (72, true)⟩,
  ⟨some 75, .call 40, [.t 73, .t 74], some (72, true)⟩,
  ⟨some 76, .pick, [.t 72, .t 75, .c (.p (.v (.bool false)))], none⟩,
  ⟨some 77, .mv, [.t 76], none⟩,
  ⟨some 78, .load 15 true, [.t 10], some (77, true)⟩,
  ⟨some 79, .load 15 true, [.t 12], some (77, true)⟩,
  ⟨some 80, .call 40, [.t 78, .t 79], some (77, true)⟩,
  ⟨some 81, .pick, [.t 77, .t 80, .c (.p (.v (.bool false)))], none⟩,
  ⟨some 82, .mv, [.t 81], none⟩,
  ⟨some 83, .load 15 true, [.t 5], some (82, true)⟩,
  ⟨some 84, .load 15 true, [.t 2], some (82, true)⟩,
  ⟨some 85, .call 43, [.t 83, .t 84], some (82, true)⟩,
  ⟨some 86, .pick, [.t 82, .t 85, .c (.p (.v (.bool false)))], none⟩,
  ⟨some 87, .mv, [.t 86], none⟩,
  ⟨some 88, .call 46, [], some (87, true)⟩,
  ⟨some 89, .pick, [.t 87, .t 88, .c (.p (.v (.bool false)))], none⟩,
  ⟨some 4, .mv, [.t 89], none⟩])
 .ret))))))))
theorem ret14 {ps : List PV} {p : PV} (hn : Nat.ble ps.length 90 = true) (h : (∀ q ∈ ps, q.bd) → Run Try.prog (fun e s' => (∀ id, e ≠ .exit id) ∧ ∃ ns, s'.out [.t 4] = some (p, ns)) [] c14 (S (initL 0 ps) [])) : Ret Try.prog 14 ps p :=
  ret_run Try.func14 rfl (by kernel_rfl) rfl (by kernel_rfl) (by kernel_rfl) (by kernel_rfl) (by kernel_rfl) (Nat.le_of_ble_eq_true hn) h

/-- stevedore/stevedorelaw11.RoomHolds -/
def c15 : C :=
  (.seq (.reg [⟨some 2, .box, [.t 0], none⟩,
  ⟨some 4, .mv, [.c (.p (.v (.bool false)))], none⟩])
 (.seq (.seq (.reg [⟨some 8, .load 15 true, [.t 2], none⟩,
  ⟨some 9, .call 28, [.t 8], none⟩,
  ⟨some 10, .un .not, [.t 9], none⟩,
  ⟨some 11, .mv, [.t 10], none⟩,
  ⟨some 12, .load 15 true, [.t 2], some (11, false)⟩,
  ⟨some 13, .call 52, [.t 12], some (11, false)⟩,
  ⟨some 14, .len 0, [.t 13], some (11, false)⟩,
  ⟨some 15, .bin .gtr, [.t 14, .c (.p (.v (.int .i64 0)))], some (11, false)⟩,
  ⟨some 16, .pick, [.t 11, .c (.p (.v (.bool true))), .t 15], none⟩])
 (.cond (.t 16)
 (.seq (.reg [⟨some 17, .call 46, [], none⟩,
  ⟨some 4, .mv, [.t 17], none⟩])
 .ret)
 .skip))
 (.seq (.seq (.reg [⟨some 5, .mv, [.c (.p (.v (.int .i64 0)))], none⟩])
 (.block 0
 (.loop
 (.seq (.seq (.reg [⟨some 18, .mv, [.t 5], none⟩,
  ⟨some 19, .mv, [.t 1], none⟩,
  ⟨some 20, .len 0, [.t 19], none⟩,
  ⟨some 21, .bin .lss, [.t 18, .t 20], none⟩,
  ⟨some 22, .mv, [.t 21], none⟩,
  ⟨some 23, .mv, [.t 5], some (22, true)⟩,
  ⟨some 24, .bin .lss, [.t 23, .c (.p (.v (.int .i64 30)))], some (22, true)⟩,
  ⟨some 25, .pick, [.t 22, .t 24, .c (.p (.v (.bool false)))], none⟩])
 (.cond (.t 25)
 .skip
 (.exit 0)))
 (.seq (.block 1
 (.seq (.regd [⟨some 29, .load 15 true, [.t 2], none⟩,
  ⟨some 30, .mv, [.t 1], none⟩,
  ⟨some 31, .mv, [.t 5], none⟩,
  ⟨some 32, .iad 5, [.t 30, .t 31], none⟩,
  ⟨some 33, .fad 1, [.t 32], none⟩,
  ⟨some 34, .load 1 false, [.t 33], none⟩,
  ⟨some 35, .mv, [.t 1], none⟩,
  ⟨some 36, .mv, [.t 5], none⟩,
  ⟨some 37, .iad 5, [.t 35, .t 36], none⟩,
  ⟨some 38, .fad 3, [.t 37], none⟩,
  ⟨some 39, .load 1 false, [.t 38], none⟩,
  ⟨some 40, .mv, [.t 1], none⟩,
  ⟨some 41, .mv, [.t 5], none⟩,
  ⟨some 42, .iad 5, [.t 40, .t 41], none⟩,
  ⟨some 43, .fad 4, [.t 42], none⟩,
  ⟨some 44, .load 1 false, [.t 43], none⟩,
  ⟨some 45, .call 54, [.t 29, .t 34, .t 39, .t 44], none⟩,
  ⟨some 28, .mv, [.t 45], none⟩,
  ⟨some 46, .ext 0, [.t 28], none⟩,
  ⟨some 47, .ext 1, [.t 28], none⟩,
  ⟨some 6, .alloc [.sl [] [], .sl [] [], .sl [] [], .sl [] [], .sl [] [], .sl [] [], .sl [] [], .sl [] [], .sl [] [], .sl [] [], .sl [] [], .sl [] [], .sl [] [], .sl [] [], .v (.int .i64 0)], [], none⟩,
  ⟨none, .store 15, [.t 6, .t 46], none⟩,
  ⟨some 7, .mv, [.t 47], none⟩])
 (.seq (.seq (.reg [⟨some 48, .mv, [.t 7], none⟩,
  ⟨some 49, .bin .eql, [.t 48, .c (.p (.v (.int .i64 0)))], none⟩])
 (.cond (.t 49)
 (.seq (.seq (.reg [⟨some 50, .load 15 true, [.t 6], none⟩,
  ⟨some 51, .call 52, [.t 50], none⟩,
  ⟨some 52, .len 0, [.t 51], none⟩,
  ⟨some 53, .bin .gtr, [.t 52, .c (.p (.v (.int .i64 0)))], none⟩])
 (.cond (.t 53)
 (.seq (.reg [⟨some 4, .mv, [.c (.p (.v (.bool false)))], none⟩])
 .ret)
 .skip))
 (.reg [⟨some 54, .load 15 true, [.t 6], none⟩,
  ⟨none, .store 15, [.t 2, .t 54], none⟩]))
 .skip))
 (.seq (.regd [⟨some 56, .load 15 true, [.t 2], none⟩,
  ⟨some 57, .mv, [.t 1], none⟩,
  ⟨some 58, .mv, [.t 5], none⟩,
  ⟨some 59, .iad 5, [.t 57, .t 58], none⟩,
  ⟨some 60, .fad 0, [.t 59], none⟩,
  ⟨some 61, .load 1 false, [.t 60], none⟩,
  ⟨some 62, .mv, [.t 1], none⟩,
  ⟨some 63, .mv, [.t 5], none⟩,
  ⟨some 64, .iad 5, [.t 62, .t 63], none⟩,
  ⟨some 65, .fad 3, [.t 64], none⟩,
  ⟨some 66, .load 1 false, [.t 65], none⟩,
  ⟨some 67, .mv, [.t 1], none⟩,
  ⟨some 68, .mv, [.t 5], none⟩,
  ⟨some 69, .iad 5, [.t 67, .t 68], none⟩,
  ⟨some 70, .fad 4, [.t 69], none⟩,
  ⟨some 71, .load 1 false, [.t 70], none⟩,
  ⟨some 72, .call 56, [.t 56, .t 61, .t 66, .t 71], none⟩,
  ⟨some 55, .mv, [.t 72], none⟩,
  ⟨some 73, .ext 0, [.t 55], none⟩,
  ⟨some 74, .ext 1, [.t 55], none⟩,
  ⟨none, .store 15, [.t 6, .t 73], none⟩,
  ⟨some 7, .mv, [.t 74], none⟩])
 (.seq (.reg [⟨some 75, .mv, [.t 7], none⟩,
  ⟨some 76, .bin .eql, [.t 75, .c (.p (.v (.int .i64 0)))], none⟩])
 (.cond (.t 76)
 (.seq (.seq (.reg [⟨some 77, .load 15 true, [.t 6], none⟩,
  ⟨some 78, .call 52, [.t 77], none⟩,
  ⟨some 79, .len 0, [.t 78], none⟩,
  ⟨some 80, .bin .gtr, [.t 79, .c (.p (.v (.int .i64 0)))], none⟩])
 (.cond (.t 80)
 (.seq (.reg [⟨some 4, .mv, [.c (.p (.v (.bool false)))], none⟩])
 .ret)
 .skip))
 (.reg [⟨some 81, .load 15 true, [.t 6], none⟩,
  ⟨none, .store 15, [.t 2, .t 81], none⟩]))
 .skip))))))
 (.reg [⟨some 26, .mv, [.t 5], none⟩,
  ⟨some 27, .bin .add, [.t 26, .c (.p (.v (.int .i64 1)))], none⟩,
  ⟨some 5, .mv, [.t 27], none⟩]))))))
 (.seq (.reg [⟨some 82, .call 46, [], none⟩,
  ⟨some 4, .mv, [.t 82], none⟩])
 .ret))))
theorem ret15 {ps : List PV} {p : PV} (hn : Nat.ble ps.length 83 = true) (h : (∀ q ∈ ps, q.bd) → Run Try.prog (fun e s' => (∀ id, e ≠ .exit id) ∧ ∃ ns, s'.out [.t 4] = some (p, ns)) [] c15 (S (initL 0 ps) [])) : Ret Try.prog 15 ps p :=
  ret_run Try.func15 rfl (by kernel_rfl) rfl (by kernel_rfl) (by kernel_rfl) (by kernel_rfl) (by kernel_rfl) (Nat.le_of_ble_eq_true hn) h

/-- stevedore/stevedorelaw11.RoomResize -/
def c17 : C :=
  (.seq (.reg [⟨some 2, .box, [.t 0], none⟩,
  ⟨some 3, .box, [.t 1], none⟩,
  ⟨some 4, .mv, [.c (.p (.v (.bool false)))], none⟩])
 (.seq (.seq (.reg [⟨some 10, .load 15 true, [.t 2], none⟩,
  ⟨some 11, .call 28, [.t 10], none⟩,
  ⟨some 12, .un .not, [.t 11], none⟩])
 (.cond (.t 12)
 (.seq (.reg [⟨some 13, .call 46, [], none⟩,
  ⟨some 4, .mv, [.t 13], none⟩])
 .ret)
 .skip))
 (.seq (.reg [⟨some 14, .load 15 true, [.t 2], none⟩,
  ⟨some 15, .call 35, [.t 14], none⟩,
  ⟨some 5, .alloc [.sl [] [], .sl [] [], .sl [] [], .sl [] [], .sl [] [], .sl [] [], .sl [] [], .sl [] [], .sl [] [], .sl [] [], .sl [] [], .sl [] [], .sl [] [], .sl [] [], .v (.int .i64 0)], [], none⟩,
  ⟨none, .store 15, [.t 5, .t 15], none⟩])
 (.seq (.reg [⟨some 17, .load 15 true, [.t 5], none⟩,
  ⟨some 18, .fad 1, [.t 3], none⟩,
  ⟨some 19, .load 1 false, [.t 18], none⟩,
  ⟨some 20, .fad 3, [.t 3], none⟩,
  ⟨some 21, .load 1 false, [.t 20], none⟩,
  ⟨some 22, .fad 4, [.t 3], none⟩,
  ⟨some 23, .load 1 false, [.t 22], none⟩,
  ⟨some 24, .call 54, [.t 17, .t 19, .t 21, .t 23], none⟩,
  ⟨some 16, .mv, [.t 24], none⟩,
  ⟨some 25, .ext 0, [.t 16], none⟩,
  ⟨some 26, .ext 1, [.t 16], none⟩,
  ⟨some 6, .alloc [.sl [] [], .sl [] [], .sl [] [], .sl [] [], .sl [] [], .sl [] [], .sl [] [], .sl [] [], .sl [] [], .sl [] [], .sl [] [], .sl [] [], .sl [] [], .sl [] [], .v (.int .i64 0)], [], none⟩,
  ⟨none, .store 15, [.t 6, .t 25], none⟩,
  ⟨some 7, .mv, [.t 26], none⟩])
 (.seq (.reg [⟨some 28, .load 15 true, [.t 2], none⟩,
  ⟨some 29, .fad 1, [.t 3], none⟩,
  ⟨some 30, .load 1 false, [.t 29], none⟩,
  ⟨some 31, .fad 3, [.t 3], none⟩,
  ⟨some 32, .load 1 false, [.t 31], none⟩,
  ⟨some 33, .fad 4, [.t 3], none⟩,
  ⟨some 34, .load 1 false, [.t 33], none⟩,
  ⟨some 35, .call 55, [.t 28, .t 30, .t 32, .t 34], none⟩,
  ⟨some 27, .mv, [.t 35], none⟩,
  ⟨some 36, .ext 0, [.t 27], none⟩,
  ⟨some 37, .ext 1, [.t 27], none⟩,
  ⟨some 8, .alloc [.sl [] [], .sl [] [], .sl [] [], .sl [] [], .sl [] [], .sl [] [], .sl [] [], .sl [] [], .sl [] [], .sl [] [], .sl [] [], .sl [] [], .sl [] [], .sl [] [], .v (.int .i64 0)], [], none⟩,
  ⟨none, .store 15, [.t 8, .t 36], none⟩,
  ⟨some 9, .mv, [.t 37], none⟩])
 (.seq (.reg [⟨some 38, .mv, [.t 7], none⟩,
  ⟨some 39, .mv, [.t 9], none⟩,
  ⟨some 40, .bin .eql, [.t 38, .t 39], none⟩,
  ⟨some 41, .mv, [.t 40], none⟩,
  ⟨some 42, .load 15 true, [.t 6], some (41, true)⟩,
  ⟨some 43, .load 15 true, [.t 8], some (41, true)⟩,
  ⟨some 44, .call 40, [.t 42, .t 43], some (41, true)⟩,
  ⟨some 45, .pick, [.t 41, .t 44, .c (.p (.v (.bool false)))], none⟩,
  ⟨some 46, .mv, [.t 45], none⟩,
  ⟨some 47, .load 15 true, [.t 5], some (46, true)⟩,
  ⟨some 48, .load 15 true, [.t 2], some (46, true)⟩,
  ⟨some 49, .call 43, [.t 47, .t 48], some (46, true)⟩,
  ⟨some 50, .pick, [.t 46, .t 49, .c (.p (.v (.bool false)))], none⟩,
  ⟨some 51, .mv, [.t 50], none⟩,
  ⟨some 52, .call 46, [], some (51, true)⟩,
  ⟨some 53, .pick, [.t 51, .t 52, .c (.p (.v (.bool false)))], none⟩,
  ⟨some 4, .mv, [.t 53], none⟩])
 .ret))))))
theorem ret17 {ps : List PV} {p : PV} (hn : Nat.ble ps.length 54 = true) (h : (∀ q ∈ ps, q.bd) → Run Try.prog (fun e s' => (∀ id, e ≠ .exit id) ∧ ∃ ns, s'.out [.t 4] = some (p, ns)) [] c17 (S (initL 0 ps) [])) : Ret Try.prog 17 ps p :=
  ret_run Try.func17 rfl (by kernel_rfl) rfl (by kernel_rfl) (by kernel_rfl) (by kernel_rfl) (by kernel_rfl) (Nat.le_of_ble_eq_true hn) h

/-- stevedore/stevedorelaw11.RoomLimit -/
def c18 : C :=
  (.seq (.reg [⟨some 2, .box, [.t 0], none⟩,
  ⟨some 3, .box, [.t 1], none⟩,
  ⟨some 4, .mv, [.c (.p (.v (.bool false)))], none⟩])
 (.seq (.seq (.reg [⟨some 10, .load 15 true, [.t 2], none⟩,
  ⟨some 11, .call 28, [.t 10], none⟩,
  ⟨some 12, .un .not, [.t 11], none⟩])
 (.cond (.t 12)
 (.seq (.reg [⟨some 13, .call 46, [], none⟩,
  ⟨some 4, .mv, [.t 13], none⟩])
 .ret)
 .skip))
 (.seq (.reg [⟨some 14, .load 15 true, [.t 2], none⟩,
  ⟨some 15, .call 35, [.t 14], none⟩,
  ⟨some 5, .alloc [.sl [] [], .sl [] [], .sl [] [], .sl [] [], .sl [] [], .sl [] [], .sl [] [], .sl [] [], .sl [] [], .sl [] [], .sl [] [], .sl [] [], .sl [] [], .sl [] [], .v (.int .i64 0)], [], none⟩,
  ⟨none, .store 15, [.t 5, .t 15], none⟩])
 (.seq (.reg [⟨some 17, .load 15 true, [.t 5], none⟩,
  ⟨some 18, .fad 0, [.t 3], none⟩,
  ⟨some 19, .load 1 false, [.t 18], none⟩,
  ⟨some 20, .fad 3, [.t 3], none⟩,
  ⟨some 21, .load 1 false, [.t 20], none⟩,
  ⟨some 22, .fad 4, [.t 3], none⟩,
  ⟨some 23, .load 1 false, [.t 22], none⟩,
  ⟨some 24, .call 56, [.t 17, .t 19, .t 21, .t 23], none⟩,
  ⟨some 16, .mv, [.t 24], none⟩,
  ⟨some 25, .ext 0, [.t 16], none⟩,
  ⟨some 26, .ext 1, [.t 16], none⟩,
  ⟨some 6, .alloc [.sl [] [], .sl [] [], .sl [] [], .sl [] [], .sl [] [], .sl [] [], .sl [] [], .sl [] [], .sl [] [], .sl [] [], .sl [] [], .sl [] [], .sl [] [], .sl [] [], .v (.int .i64 0)], [], none⟩,
  ⟨none, .store 15, [.t 6, .t 25], none⟩,
  ⟨some 7, .mv, [.t 26], none⟩])
 (.seq (.reg [⟨some 28, .load 15 true, [.t 2], none⟩,
  ⟨some 29, .fad 0, [.t 3], none⟩,
  ⟨some 30, .load 1 false, [.t 29], none⟩,
  ⟨some 31, .fad 3, [.t 3], none⟩,
  ⟨some 32, .load 1 false, [.t 31], none⟩,
  ⟨some 33, .fad 4, [.t 3], none⟩,
  ⟨some 34, .load 1 false, [.t 33], none⟩,
  ⟨some 35, .call 57, [.t 28, .t 30, .t 32, .t 34], none⟩,
  ⟨some 27, .mv, [.t 35], none⟩,
  ⟨some 36, .ext 0, [.t 27], none⟩,
  ⟨some 37, .ext 1, [.t 27], none⟩,
  ⟨some 8, .alloc [.sl [] [], .sl [] [], .sl [] [], .sl [] [], .sl [] [], .sl [] [], .sl [] [], .sl [] [], .sl [] [], .sl [] [], .sl [] [], .sl [] [], .sl [] [], .sl [] [], .v (.int .i64 0)], [], none⟩,
  ⟨none, .store 15, [.t 8, .t 36], none⟩,
  ⟨some 9, .mv, [.t 37], none⟩])
 (.seq (.reg [⟨some 38, .mv, [.t 7], none⟩,
  ⟨some 39, .mv, [.t 9], none⟩,
  ⟨some 40, .bin .eql, [.t 38, .t 39], none⟩,
  ⟨some 41, .mv, [.t 40], none⟩,
  ⟨some 42, .load 15 true, [.t 6], some (41, true)⟩,
  ⟨some 43, .load 15 true, [.t 8], some (41, true)⟩,
  ⟨some 44, .call 40, [.t 42, .t 43], some (41, true)⟩,
  ⟨some 45, .pick, [.t 41, .t 44, .c (.p (.v (.bool false)))], none⟩,
  ⟨some 46, .mv, [.t 45], none⟩,
  ⟨some 47, .load 15 true, [.t 5], some (46, true)⟩,
  ⟨some 48, .load 15 true, [.t 2], some (46, true)⟩,
  ⟨some 49, .call 43, [.t 47, .t 48], some (46, true)⟩,
  ⟨some 50, .pick, [.t 46, .t 49, .c (.p (.v (.bool false)))], none⟩,
  ⟨some 51, .mv, [.t 50], none⟩,
  ⟨some 52, .call 46, [], some (51, true)⟩,
  ⟨some 53, .pick, [.t 51, .t 52, .c (.p (.v (.bool false)))], none⟩,
  ⟨some 4, .mv, [.t 53], none⟩])
 .ret))))))
theorem ret18 {ps : List PV} {p : PV} (hn : Nat.ble ps.length 54 = true) (h : (∀ q ∈ ps, q.bd) → Run Try.prog (fun e s' => (∀ id, e ≠ .exit id) ∧ ∃ ns, s'.out [.t 4] = some (p, ns)) [] c18 (S (initL 0 ps) [])) : Ret Try.prog 18 ps p :=
  ret_run Try.func18 rfl (by kernel_rfl) rfl (by kernel_rfl) (by kernel_rfl) (by kernel_rfl) (by kernel_rfl) (Nat.le_of_ble_eq_true hn) h

/-- stevedore/stevedorelaw11.RoomFits -/
def c19 : C :=
  (.seq (.reg [⟨some 2, .box, [.t 0], none⟩,
  ⟨some 3, .box, [.t 1], none⟩,
  ⟨some 4, .mv, [.c (.p (.v (.bool false)))], none⟩])
 (.seq (.seq (.reg [⟨some 5, .load 15 true, [.t 2], none⟩,
  ⟨some 6, .call 28, [.t 5], none⟩,
  ⟨some 7, .un .not, [.t 6], none⟩])
 (.cond (.t 7)
 (.seq (.reg [⟨some 8, .call 46, [], none⟩,
  ⟨some 4, .mv, [.t 8], none⟩])
 .ret)
 .skip))
 (.seq (.regd [⟨some 9, .load 15 true, [.t 2], none⟩,
  ⟨some 10, .fad 0, [.t 3], none⟩,
  ⟨some 11, .load 1 false, [.t 10], none⟩,
  ⟨some 12, .fad 1, [.t 3], none⟩,
  ⟨some 13, .load 1 false, [.t 12], none⟩,
  ⟨some 14, .fad 2, [.t 3], none⟩,
  ⟨some 15, .load 1 false, [.t 14], none⟩,
  ⟨some 16, .call 49, [.t 9, .t 11, .t 13, .t 15], none⟩,
  ⟨some 17, .load 15 true, [.t 2], none⟩,
  ⟨some 18, .fad 0, [.t 3], none⟩,
  ⟨some 19, .load 1 false, [.t 18], none⟩,
  ⟨some 20, .fad 1, [.t 3], none⟩,
  ⟨some 21, .load 1 false, [.t 20], none⟩,
  ⟨some 22, .fad 2, [.t 3], none⟩,
  ⟨some 23, .load 1 false, [.t 22], none⟩,
  ⟨some 24, .call 50, [.t 17, .t 19, .t 21, .t 23], none⟩,
  ⟨some 25, .bin .eql, [.t 16, .t 24], none⟩,
  ⟨some 26, .mv, [.t 25], none⟩,
  ⟨some 27, .call 46, [], some (26, true)⟩,
  ⟨some 28, .pick, [.t 26, .t 27, .c (.p (.v (.bool false)))], none⟩,
  ⟨some 4, .mv, [.t 28], none⟩])
 .ret)))
theorem ret19 {ps : List PV} {p : PV} (hn : Nat.ble ps.length 29 = true) (h : (∀ q ∈ ps, q.bd) → Run Try.prog (fun e s' => (∀ id, e ≠ .exit id) ∧ ∃ ns, s'.out [.t 4] = some (p, ns)) [] c19 (S (initL 0 ps) [])) : Ret Try.prog 19 ps p :=
  ret_run Try.func19 rfl (by kernel_rfl) rfl (by kernel_rfl) (by kernel_rfl) (by kernel_rfl) (by kernel_rfl) (Nat.le_of_ble_eq_true hn) h

/-- stevedore/stevedorelaw11.RoomOver -/
def c20 : C :=
  (.seq (.reg [⟨some 1, .box, [.t 0], none⟩,
  ⟨some 2, .mv, [.c (.p (.v (.bool false)))], none⟩])
 (.seq (.seq (.reg [⟨some 3, .load 15 true, [.t 1], none⟩,
  ⟨some 4, .call 28, [.t 3], none⟩,
  ⟨some 5, .un .not, [.t 4], none⟩])
 (.cond (.t 5)
 (.seq (.reg [⟨some 6, .call 46, [], none⟩,
  ⟨some 2, .mv, [.t 6], none⟩])
 .ret)
 .skip))
 (.seq (.regd [⟨some 7, .load 15 true, [.t 1], none⟩,
  ⟨some 8, .call 52, [.t 7], none⟩,
  ⟨some 9, .load 15 true, [.t 1], none⟩,
  ⟨some 10, .call 53, [.t 9], none⟩,
  ⟨some 11, .call 51, [.t 8, .t 10], none⟩,
  ⟨some 12, .mv, [.t 11], none⟩,
  ⟨some 13, .call 46, [], some (12, true)⟩,
  ⟨some 14, .pick, [.t 12, .t 13, .c (.p (.v (.bool false)))], none⟩,
  ⟨some 2, .mv, [.t 14], none⟩])
 .ret)))
theorem ret20 {ps : List PV} {p : PV} (hn : Nat.ble ps.length 15 = true) (h : (∀ q ∈ ps, q.bd) → Run Try.prog (fun e s' => (∀ id, e ≠ .exit id) ∧ ∃ ns, s'.out [.t 2] = some (p, ns)) [] c20 (S (initL 0 ps) [])) : Ret Try.prog 20 ps p :=
  ret_run Try.func20 rfl (by kernel_rfl) rfl (by kernel_rfl) (by kernel_rfl) (by kernel_rfl) (by kernel_rfl) (Nat.le_of_ble_eq_true hn) h

end Go.Fw
