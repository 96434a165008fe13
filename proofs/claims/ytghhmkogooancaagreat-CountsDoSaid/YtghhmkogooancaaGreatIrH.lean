/-
  The code of some functions, for the abstract machine. Printed by a program (wip/tools/mkir.py).
-/
import Derived.Test.YtghhmkogooancaaGreatFwU
import Derived.Test.YtghhmkogooancaaGreatProg
import Derived.KernelRfl
set_option linter.unusedVariables false
set_option maxRecDepth 100000
namespace Go.Fw
open Go.Proofs

/-- stevedore/stevedorelaw21.awake -/
def c10 : C :=
  (.seq (.reg [⟨some 0, .mv, [.c (.p (.v (.bool false)))], none⟩])
 (.seq (.reg [⟨some 18, .call 27, [], none⟩,
  ⟨some 19, .call 12, [.t 18, .c (.p (.v (.string ⟨#[98]⟩)))], none⟩,
  ⟨some 17, .mv, [.t 19], none⟩,
  ⟨some 20, .ext 0, [.t 17], none⟩,
  ⟨some 21, .ext 1, [.t 17], none⟩,
  ⟨some 1, .alloc [.sl [] [], .sl [] [], .sl [] [], .sl [] [], .sl [] [], .sl [] [], .sl [] [], .sl [] [], .sl [] [], .sl [] [], .sl [] [], .sl [] [], .sl [] [], .sl [] [], .v (.int .i64 0)], [], none⟩,
  ⟨none, .store 15, [.t 1, .t 20], none⟩,
  ⟨some 2, .mv, [.t 21], none⟩])
 (.seq (.regd [⟨some 23, .load 15 true, [.t 1], none⟩,
  ⟨some 24, .call 28, [], none⟩,
  ⟨some 25, .call 15, [.t 23, .t 24, .c (.p (.v (.int .i64 1)))], none⟩,
  ⟨some 22, .mv, [.t 25], none⟩,
  ⟨some 26, .ext 0, [.t 22], none⟩,
  ⟨some 27, .ext 1, [.t 22], none⟩,
  ⟨some 3, .alloc [.sl [] [], .sl [] [], .sl [] [], .sl [] [], .sl [] [], .sl [] [], .sl [] [], .sl [] [], .sl [] [], .sl [] [], .sl [] [], .sl [] [], .sl [] [], .sl [] [], .v (.int .i64 0)], [], none⟩,
  ⟨none, .store 15, [.t 3, .t 26], none⟩,
  ⟨some 4, .mv, [.t 27], none⟩])
 (.seq (.reg [⟨some 29, .load 15 true, [.t 3], none⟩,
  ⟨some 30, .call 17, [.t 29, .c (.p (.v (.string ⟨#[98]⟩))), .c (.p (.v (.string ⟨#[108, 111, 115, 116]⟩)))], none⟩,
  ⟨some 28, .mv, [.t 30], none⟩,
  ⟨some 31, .ext 0, [.t 28], none⟩,
  ⟨some 32, .ext 1, [.t 28], none⟩,
  ⟨some 5, .alloc [.sl [] [], .sl [] [], .sl [] [], .sl [] [], .sl [] [], .sl [] [], .sl [] [], .sl [] [], .sl [] [], .sl [] [], .sl [] [], .sl [] [], .sl [] [], .sl [] [], .v (.int .i64 0)], [], none⟩,
  ⟨none, .store 15, [.t 5, .t 31], none⟩,
  ⟨some 6, .mv, [.t 32], none⟩])
 (.seq (.regd [⟨some 34, .load 15 true, [.t 1], none⟩,
  ⟨some 35, .call 28, [], none⟩,
  ⟨some 36, .call 15, [.t 34, .t 35, .c (.p (.v (.int .i64 3)))], none⟩,
  ⟨some 33, .mv, [.t 36], none⟩,
  ⟨some 37, .ext 0, [.t 33], none⟩,
  ⟨some 38, .ext 1, [.t 33], none⟩,
  ⟨some 7, .alloc [.sl [] [], .sl [] [], .sl [] [], .sl [] [], .sl [] [], .sl [] [], .sl [] [], .sl [] [], .sl [] [], .sl [] [], .sl [] [], .sl [] [], .sl [] [], .sl [] [], .v (.int .i64 0)], [], none⟩,
  ⟨none, .store 15, [.t 7, .t 37], none⟩,
  ⟨some 8, .mv, [.t 38], none⟩])
 (.seq (.reg [⟨some 40, .load 15 true, [.t 7], none⟩,
  ⟨some 41, .call 17, [.t 40, .c (.p (.v (.string ⟨#[98]⟩))), .c (.p (.v (.string ⟨#[108, 111, 115, 116]⟩)))], none⟩,
  ⟨some 39, .mv, [.t 41], none⟩,
  ⟨some 42, .ext 0, [.t 39], none⟩,
  ⟨some 43, .ext 1, [.t 39], none⟩,
  ⟨some 9, .alloc [.sl [] [], .sl [] [], .sl [] [], .sl [] [], .sl [] [], .sl [] [], .sl [] [], .sl [] [], .sl [] [], .sl [] [], .sl [] [], .sl [] [], .sl [] [], .sl [] [], .v (.int .i64 0)], [], none⟩,
  ⟨none, .store 15, [.t 9, .t 42], none⟩,
  ⟨some 10, .mv, [.t 43], none⟩])
 (.seq (.regd [⟨some 45, .load 15 true, [.t 1], none⟩,
  ⟨some 46, .call 28, [], none⟩,
  ⟨some 47, .call 15, [.t 45, .t 46, .c (.p (.v (.int .i64 9)))], none⟩,
  ⟨some 44, .mv, [.t 47], none⟩,
  ⟨some 48, .ext 0, [.t 44], none⟩,
  ⟨some 49, .ext 1, [.t 44], none⟩,
  ⟨some 11, .alloc [.sl [] [], .sl [] [], .sl [] [], .sl [] [], .sl [] [], .sl [] [], .sl [] [], .sl [] [], .sl [] [], .sl [] [], .sl [] [], .sl [] [], .sl [] [], .sl [] [], .v (.int .i64 0)], [], none⟩,
  ⟨none, .store 15, [.t 11, .t 48], none⟩,
  ⟨some 12, .mv, [.t 49], none⟩])
 (.seq (.reg [⟨some 51, .load 15 true, [.t 11], none⟩,
  ⟨some 52, .call 17, [.t 51, .c (.p (.v (.string ⟨#[98]⟩))), .c (.p (.v (.string ⟨#[102, 111, 117, 110, 100]⟩)))], none⟩,
  ⟨some 50, .mv, [.t 52], none⟩,
  ⟨some 53, .ext 0, [.t 50], none⟩,
  ⟨some 54, .ext 1, [.t 50], none⟩,
  ⟨some 13, .alloc [.sl [] [], .sl [] [], .sl [] [], .sl [] [], .sl [] [], .sl [] [], .sl [] [], .sl [] [], .sl [] [], .sl [] [], .sl [] [], .sl [] [], .sl [] [], .sl [] [], .v (.int .i64 0)], [], none⟩,
  ⟨none, .store 15, [.t 13, .t 53], none⟩,
  ⟨some 14, .mv, [.t 54], none⟩])
 (.seq (.regd [⟨some 56, .load 15 true, [.t 9], none⟩,
  ⟨some 57, .call 28, [], none⟩,
  ⟨some 58, .call 25, [.t 56, .t 57], none⟩,
  ⟨some 55, .mv, [.t 58], none⟩,
  ⟨some 59, .ext 0, [.t 55], none⟩,
  ⟨some 60, .ext 1, [.t 55], none⟩,
  ⟨some 15, .alloc [.v (.string ⟨#[]⟩), .v (.string ⟨#[]⟩), .v (.string ⟨#[]⟩), .v (.int .i64 0), .v (.int .i64 0), .v (.int .i64 0)], [], none⟩,
  ⟨none, .store 6, [.t 15, .t 59], none⟩,
  ⟨some 16, .mv, [.t 60], none⟩])
 (.seq (.reg [⟨some 61, .mv, [.t 2], none⟩,
  ⟨some 62, .bin .eql, [.t 61, .c (.p (.v (.int .i64 0)))], none⟩,
  ⟨some 63, .mv, [.t 62], none⟩,
  ⟨some 64, .mv, [.t 4], some (63, true)⟩,
  ⟨some 65, .bin .eql, [.t 64, .c (.p (.v (.int .i64 0)))], some (63, true)⟩,
  ⟨some 66, .pick, [.t 63, .t 65, .c (.p (.v (.bool false)))], none⟩,
  ⟨some 67, .mv, [.t 66], none⟩,
  ⟨some 68, .mv, [.t 6], some (67, true)⟩,
  ⟨some 69, .bin .eql, [.t 68, .c (.p (.v (.int .i64 28)))], some (67, true)⟩,
  ⟨some 70, .pick, [.t 67, .t 69, .c (.p (.v (.bool false)))], none⟩,
  ⟨some 71, .mv, [.t 70], none⟩,
  ⟨some 72, .mv, [.t 8], some (71, true)⟩,
  ⟨some 73, .bin .eql, [.t 72, .c (.p (.v (.int .i64 0)))], some (71, true)⟩,
  ⟨some 74, .pick, [.t 71, .t 73, .c (.p (.v (.bool false)))], none⟩,
  ⟨some 75, .mv, [.t 74], none⟩,
  ⟨some 76, .mv, [.t 10], some (75, true)⟩,
  ⟨some 77, .bin .eql, [.t 76, .c (.p (.v (.int .i64 0)))], some (75, true)⟩,
  ⟨some 78, .pick, [.t 75, .t 77, .c (.p (.v (.bool false)))], none⟩,
  ⟨some 79, .mv, [.t 78], none⟩,
  ⟨some 80, .mv, [.t 12], some (79, true)⟩,
  ⟨some 81, .bin .eql, [.t 80, .c (.p (.v (.int .i64 0)))], some (79, true)⟩,
  ⟨some 82, .pick, [.t 79, .t 81, .c (.p (.v (.bool false)))], none⟩,
  ⟨some 83, .mv, [.t 82], none⟩,
  ⟨some 84, .mv, [.t 14], some (83, true)⟩,
  ⟨some 85, .bin .eql, [.t 84, .c (.p (.v (.int .i64 26)))], some (83, true)⟩,
  ⟨some 86, .pick, [.t 83, .t 85, .c (.p (.v (.bool false)))], none⟩,
  ⟨some 87, .mv, [.t 86], none⟩,
  ⟨some 88, .mv, [.t 16], some (87, true)⟩,
  ⟨some 89, .pick, [.t 87, .t 88, .c (.p (.v (.bool false)))], none⟩,
  ⟨some 90, .mv, [.t 89], none⟩,
  ⟨some 91, .fad 4, [.t 15], some (90, true)⟩,
  ⟨some 92, .load 1 false, [.t 91], some (90, true)⟩,
  ⟨some 93, .bin .eql, [.t 92, .c (.p (.v (.int .i64 3)))], some (90, true)⟩,
  ⟨some 94, .pick, [.t 90, .t 93, .c (.p (.v (.bool false)))], none⟩,
  ⟨some 95, .mv, [.t 94], none⟩,
  ⟨some 96, .fad 13, [.t 9], some (95, true)⟩,
  ⟨some 97, .load 1 false, [.t 96], some (95, true)⟩,
  ⟨some 98, .len 0, [.t 97], some (95, true)⟩,
  ⟨some 99, .bin .eql, [.t 98, .c (.p (.v (.int .i64 1)))], some (95, true)⟩,
  ⟨some 100, .pick, [.t 95, .t 99, .c (.p (.v (.bool false)))], none⟩,
  ⟨some 101, .mv, [.t 100], none⟩,
  ⟨some 102, .fad 13, [.t 9], some (101, true)⟩,
  ⟨some 103, .load 1 false, [.t 102], some (101, true)⟩,
  ⟨some 104, .iad 6, [.t 103, .c (.p (.v (.int .i64 0)))], some (101, true)⟩,
  ⟨some 105, .fad 5, [.t 104], some (101, true)⟩,
  ⟨some 106, .load 1 false, [.t 105], some (101, true)⟩,
  ⟨some 107, .bin .eql, [.t 106, .c (.p (.v (.int .i64 (-2))))], some (101, true)⟩,
  ⟨some 108, .pick, [.t 101, .t 107, .c (.p (.v (.bool false)))], none⟩,
  ⟨some 109, .mv, [.t 108], none⟩,
  ⟨some 110, .fad 3, [.t 9], some (109, true)⟩,
  ⟨some 111, .load 1 false, [.t 110], some (109, true)⟩,
  ⟨some 112, .len 0, [.t 111], some (109, true)⟩,
  ⟨some 113, .bin .eql, [.t 112, .c (.p (.v (.int .i64 1)))], some (109, true)⟩,
  ⟨some 114, .pick, [.t 109, .t 113, .c (.p (.v (.bool false)))], none⟩,
  ⟨some 115, .mv, [.t 114], none⟩,
  ⟨some 116, .fad 3, [.t 9], some (115, true)⟩,
  ⟨some 117, .load 1 false, [.t 116], some (115, true)⟩,
  ⟨some 118, .iad 8, [.t 117, .c (.p (.v (.int .i64 0)))], some (115, true)⟩,
  ⟨some 119, .fad 7, [.t 118], some (115, true)⟩,
  ⟨some 120, .load 1 false, [.t 119], some (115, true)⟩,
  ⟨some 121, .un .not, [.t 120], some (115, true)⟩,
  ⟨some 122, .pick, [.t 115, .t 121, .c (.p (.v (.bool false)))], none⟩,
  ⟨some 123, .mv, [.t 122], none⟩,
  ⟨some 124, .fad 12, [.t 9], some (123, true)⟩,
  ⟨some 125, .load 1 false, [.t 124], some (123, true)⟩,
  ⟨some 126, .len 0, [.t 125], some (123, true)⟩,
  ⟨some 127, .bin .eql, [.t 126, .c (.p (.v (.int .i64 0)))], some (123, true)⟩,
  ⟨some 128, .pick, [.t 123, .t 127, .c (.p (.v (.bool false)))], none⟩,
  ⟨some 0, .mv, [.t 128], none⟩])
 .ret))))))))))
theorem ret10 {ps : List PV} {p : PV} (hn : Nat.ble ps.length 129 = true) (h : (∀ q ∈ ps, q.bd) → Run Tryz.prog (fun e s' => (∀ id, e ≠ .exit id) ∧ ∃ ns, s'.out [.t 0] = some (p, ns)) [] c10 (S (initL 0 ps) [])) : Ret Tryz.prog 10 ps p :=
  ret_run Tryz.func10 rfl (by kernel_rfl) rfl (by kernel_rfl) (by kernel_rfl) (by kernel_rfl) (by kernel_rfl) (Nat.le_of_ble_eq_true hn) h

/-- stevedore/stevedorelaw21.small -/
def c27 : C :=
  (.seq (.reg [⟨some 0, .alloc [.sl [] [], .sl [] [], .sl [] [], .sl [] [], .sl [] [], .sl [] [], .sl [] [], .sl [] [], .sl [] [], .sl [] [], .sl [] [], .sl [] [], .sl [] [], .sl [] [], .v (.int .i64 0)], [], none⟩])
 (.seq (.reg [⟨some 2, .build [.v (.string ⟨#[]⟩), .v (.string ⟨#[]⟩), .v (.int .i64 0), .v (.string ⟨#[]⟩), .v (.int .i64 0), .v (.string ⟨#[]⟩), .v (.int .i64 0), .v (.string ⟨#[]⟩), .v (.int .i64 0), .v (.int .i64 0), .v (.int .i64 0), .v (.bool false), .v (.bool false), .v (.bool false)] [(0, 1), (9, 1)], [.c (.p (.v (.string ⟨#[110, 117, 116]⟩))), .c (.p (.v (.int .i64 1)))], none⟩,
  ⟨some 3, .bsl 75 14 1 [.v (.string ⟨#[]⟩), .v (.string ⟨#[]⟩), .v (.int .i64 0), .v (.string ⟨#[]⟩), .v (.int .i64 0), .v (.string ⟨#[]⟩), .v (.int .i64 0), .v (.string ⟨#[]⟩), .v (.int .i64 0), .v (.int .i64 0), .v (.int .i64 0), .v (.bool false), .v (.bool false), .v (.bool false)] [0], [.t 2], none⟩,
  ⟨some 4, .build [.v (.string ⟨#[]⟩), .v (.string ⟨#[]⟩), .v (.int .i64 0), .v (.int .i64 0), .v (.int .i64 0), .v (.int .i64 0), .v (.int .i64 0), .v (.bool false)] [(0, 1), (2, 1), (5, 1)], [.c (.p (.v (.string ⟨#[98]⟩))), .c (.p (.v (.int .i64 1))), .c (.p (.v (.int .i64 8)))], none⟩,
  ⟨some 5, .bsl 53 8 1 [.v (.string ⟨#[]⟩), .v (.string ⟨#[]⟩), .v (.int .i64 0), .v (.int .i64 0), .v (.int .i64 0), .v (.int .i64 0), .v (.int .i64 0), .v (.bool false)] [0], [.t 4], none⟩,
  ⟨some 6, .build [.sl [] [], .sl [] [], .sl [] [], .sl [] [], .sl [] [], .sl [] [], .sl [] [], .sl [] [], .sl [] [], .sl [] [], .sl [] [], .sl [] [], .sl [] [], .sl [] [], .v (.int .i64 0)] [(0, 1), (3, 1)], [.t 3, .t 5], none⟩,
  ⟨some 1, .alloc [.sl [] [], .sl [] [], .sl [] [], .sl [] [], .sl [] [], .sl [] [], .sl [] [], .sl [] [], .sl [] [], .sl [] [], .sl [] [], .sl [] [], .sl [] [], .sl [] [], .v (.int .i64 0)], [], none⟩,
  ⟨none, .store 15, [.t 1, .t 6], none⟩])
 (.seq (.reg [⟨some 7, .call 28, [], none⟩,
  ⟨some 8, .build [.v (.string ⟨#[]⟩), .v (.string ⟨#[]⟩), .v (.string ⟨#[]⟩), .v (.int .i64 0), .v (.int .i64 0), .v (.int .i64 0)] [(0, 4), (4, 1), (5, 1)], [.t 7, .c (.p (.v (.int .i64 5))), .c (.p (.v (.int .i64 2)))], none⟩,
  ⟨some 9, .bsl 59 6 1 [.v (.string ⟨#[]⟩), .v (.string ⟨#[]⟩), .v (.string ⟨#[]⟩), .v (.int .i64 0), .v (.int .i64 0), .v (.int .i64 0)] [0], [.t 8], none⟩,
  ⟨some 10, .fad 4, [.t 1], none⟩,
  ⟨none, .store 1, [.t 10, .t 9], none⟩])
 (.seq (.reg [⟨some 11, .load 15 true, [.t 1], none⟩,
  ⟨none, .store 15, [.t 0, .t 11], none⟩])
 .ret))))
theorem ret27 {ps : List PV} {p : PV} (hn : Nat.ble ps.length 12 = true) (h : (∀ q ∈ ps, q.bd) → Run Tryz.prog (fun e s' => (∀ id, e ≠ .exit id) ∧ ∃ ns, s'.out [.c 0 15 true] = some (p, ns)) [] c27 (S (initL 0 ps) [])) : Ret Tryz.prog 27 ps p :=
  ret_run Tryz.func27 rfl (by kernel_rfl) rfl (by kernel_rfl) (by kernel_rfl) (by kernel_rfl) (by kernel_rfl) (Nat.le_of_ble_eq_true hn) h

/-- stevedore/stevedorelaw21.nuts -/
def c28 : C :=
  (.seq (.reg [⟨some 0, .alloc [.v (.string ⟨#[]⟩), .v (.string ⟨#[]⟩), .v (.string ⟨#[]⟩), .v (.int .i64 0)], [], none⟩])
 (.seq (.reg [⟨some 1, .build [.v (.string ⟨#[]⟩), .v (.string ⟨#[]⟩), .v (.string ⟨#[]⟩), .v (.int .i64 0)] [(0, 1), (1, 1), (3, 1)], [.c (.p (.v (.string ⟨#[98]⟩))), .c (.p (.v (.string ⟨#[110, 117, 116]⟩))), .c (.p (.v (.int .i64 1)))], none⟩,
  ⟨none, .store 4, [.t 0, .t 1], none⟩])
 .ret))
theorem ret28 {ps : List PV} {p : PV} (hn : Nat.ble ps.length 2 = true) (h : (∀ q ∈ ps, q.bd) → Run Tryz.prog (fun e s' => (∀ id, e ≠ .exit id) ∧ ∃ ns, s'.out [.c 0 4 true] = some (p, ns)) [] c28 (S (initL 0 ps) [])) : Ret Tryz.prog 28 ps p :=
  ret_run Tryz.func28 rfl (by kernel_rfl) rfl (by kernel_rfl) (by kernel_rfl) (by kernel_rfl) (by kernel_rfl) (Nat.le_of_ble_eq_true hn) h

end Go.Fw
