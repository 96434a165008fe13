/-
  The code of some functions, for the abstract machine. Printed by a program (wip/tools/mkir.py).
-/
import Derived.Test.YtghhmkogooancaaGreatFwU
import Derived.Test.YtghhmkogooancaaGreatProg
import Derived.KernelRfl
set_option linter.unusedVariables false
set_option maxRecDepth 100000
namespace Go.Fw
open Go.Proofs

/-- stevedore/stevedorelaw21.CountsDo -/
def c3 : C :=
  (.seq (.reg [⟨some 3, .box, [.t 0], none⟩,
  ⟨some 4, .box, [.t 1], none⟩,
  ⟨some 6, .mv, [.c (.p (.v (.bool false)))], none⟩])
 (.seq (.seq (.reg [⟨some 12, .load 15 true, [.t 3], none⟩,
  ⟨some 13, .call 9, [.t 12], none⟩,
  ⟨some 14, .un .not, [.t 13], none⟩])
 (.cond (.t 14)
 (.seq (.reg [⟨some 15, .call 10, [], none⟩,
  ⟨some 6, .mv, [.t 15], none⟩])
 .ret)
 .skip))
 (.seq (.reg [⟨some 16, .load 15 true, [.t 3], none⟩,
  ⟨some 17, .call 11, [.t 16], none⟩,
  ⟨some 7, .alloc [.sl [] [], .sl [] [], .sl [] [], .sl [] [], .sl [] [], .sl [] [], .sl [] [], .sl [] [], .sl [] [], .sl [] [], .sl [] [], .sl [] [], .sl [] [], .sl [] [], .v (.int .i64 0)], [], none⟩,
  ⟨none, .store 15, [.t 7, .t 17], none⟩])
 (.seq (.reg [⟨some 19, .load 15 true, [.t 7], none⟩,
  ⟨some 20, .fad 0, [.t 4], none⟩,
  ⟨some 21, .fad 0, [.t 20], none⟩,
  ⟨some 22, .load 1 false, [.t 21], none⟩,
  ⟨some 23, .call 12, [.t 19, .t 22], none⟩,
  ⟨some 18, .mv, [.t 23], none⟩,
  ⟨some 24, .ext 0, [.t 18], none⟩,
  ⟨some 25, .ext 1, [.t 18], none⟩,
  ⟨some 8, .alloc [.sl [] [], .sl [] [], .sl [] [], .sl [] [], .sl [] [], .sl [] [], .sl [] [], .sl [] [], .sl [] [], .sl [] [], .sl [] [], .sl [] [], .sl [] [], .sl [] [], .v (.int .i64 0)], [], none⟩,
  ⟨none, .store 15, [.t 8, .t 24], none⟩,
  ⟨some 9, .mv, [.t 25], none⟩])
 (.seq (.reg [⟨some 27, .load 15 true, [.t 3], none⟩,
  ⟨some 28, .fad 0, [.t 4], none⟩,
  ⟨some 29, .fad 0, [.t 28], none⟩,
  ⟨some 30, .load 1 false, [.t 29], none⟩,
  ⟨some 31, .call 13, [.t 27, .t 30], none⟩,
  ⟨some 26, .mv, [.t 31], none⟩,
  ⟨some 32, .ext 0, [.t 26], none⟩,
  ⟨some 33, .ext 1, [.t 26], none⟩,
  ⟨some 10, .alloc [.sl [] [], .sl [] [], .sl [] [], .sl [] [], .sl [] [], .sl [] [], .sl [] [], .sl [] [], .sl [] [], .sl [] [], .sl [] [], .sl [] [], .sl [] [], .sl [] [], .v (.int .i64 0)], [], none⟩,
  ⟨none, .store 15, [.t 10, .t 32], none⟩,
  ⟨some 11, .mv, [.t 33], none⟩])
 (.seq (.seq (.reg [⟨some 34, .mv, [.t 9], none⟩,
  ⟨some 35, .mv, [.t 11], none⟩,
  ⟨some 36, .bin .neq, [.t 34, .t 35], none⟩,
  ⟨some 37, .mv, [.t 36], none⟩,
  ⟨some 38, .load 15 true, [.t 8], some (37, false)⟩,
  ⟨some 39, .load 15 true, [.t 10], some (37, false)⟩,
  ⟨some 40, .call 14, [.t 38, .t 39], some (37, false)⟩,
  ⟨some 41, .un .not, [.t 40], some (37, false)⟩,
  ⟨some 42, .pick, [.t 37, .c (.p (.v (.bool true))), .t 41], none⟩])
 (.cond (.t 42)
 (.seq (.reg [⟨some 6, .mv, [.c (.p (.v (.bool false)))], none⟩])
 .ret)
 .skip))
 (.seq (.reg [⟨some 44, .load 15 true, [.t 7], none⟩,
  ⟨some 45, .fad 0, [.t 4], none⟩,
  ⟨some 46, .load 4 true, [.t 45], none⟩,
  ⟨some 47, .fad 4, [.t 4], none⟩,
  ⟨some 48, .load 1 false, [.t 47], none⟩,
  ⟨some 49, .call 15, [.t 44, .t 46, .t 48], none⟩,
  ⟨some 43, .mv, [.t 49], none⟩,
  ⟨some 50, .ext 0, [.t 43], none⟩,
  ⟨some 51, .ext 1, [.t 43], none⟩,
  ⟨none, .store 15, [.t 8, .t 50], none⟩,
  ⟨some 9, .mv, [.t 51], none⟩])
 (.seq (.reg [⟨some 53, .load 15 true, [.t 3], none⟩,
  ⟨some 54, .fad 0, [.t 4], none⟩,
  ⟨some 55, .load 4 true, [.t 54], none⟩,
  ⟨some 56, .fad 4, [.t 4], none⟩,
  ⟨some 57, .load 1 false, [.t 56], none⟩,
  ⟨some 58, .call 16, [.t 53, .t 55, .t 57], none⟩,
  ⟨some 52, .mv, [.t 58], none⟩,
  ⟨some 59, .ext 0, [.t 52], none⟩,
  ⟨some 60, .ext 1, [.t 52], none⟩,
  ⟨none, .store 15, [.t 10, .t 59], none⟩,
  ⟨some 11, .mv, [.t 60], none⟩])
 (.seq (.seq (.reg [⟨some 61, .mv, [.t 9], none⟩,
  ⟨some 62, .mv, [.t 11], none⟩,
  ⟨some 63, .bin .neq, [.t 61, .t 62], none⟩,
  ⟨some 64, .mv, [.t 63], none⟩,
  ⟨some 65, .load 15 true, [.t 8], some (64, false)⟩,
  ⟨some 66, .load 15 true, [.t 10], some (64, false)⟩,
  ⟨some 67, .call 14, [.t 65, .t 66], some (64, false)⟩,
  ⟨some 68, .un .not, [.t 67], some (64, false)⟩,
  ⟨some 69, .pick, [.t 64, .c (.p (.v (.bool true))), .t 68], none⟩])
 (.cond (.t 69)
 (.seq (.reg [⟨some 6, .mv, [.c (.p (.v (.bool false)))], none⟩])
 .ret)
 .skip))
 (.seq (.reg [⟨some 71, .load 15 true, [.t 7], none⟩,
  ⟨some 72, .fad 0, [.t 4], none⟩,
  ⟨some 73, .fad 0, [.t 72], none⟩,
  ⟨some 74, .load 1 false, [.t 73], none⟩,
  ⟨some 75, .mv, [.t 2], none⟩,
  ⟨some 76, .call 17, [.t 71, .t 74, .t 75], none⟩,
  ⟨some 70, .mv, [.t 76], none⟩,
  ⟨some 77, .ext 0, [.t 70], none⟩,
  ⟨some 78, .ext 1, [.t 70], none⟩,
  ⟨none, .store 15, [.t 8, .t 77], none⟩,
  ⟨some 9, .mv, [.t 78], none⟩])
 (.seq (.reg [⟨some 80, .load 15 true, [.t 3], none⟩,
  ⟨some 81, .fad 0, [.t 4], none⟩,
  ⟨some 82, .fad 0, [.t 81], none⟩,
  ⟨some 83, .load 1 false, [.t 82], none⟩,
  ⟨some 84, .mv, [.t 2], none⟩,
  ⟨some 85, .call 18, [.t 80, .t 83, .t 84], none⟩,
  ⟨some 79, .mv, [.t 85], none⟩,
  ⟨some 86, .ext 0, [.t 79], none⟩,
  ⟨some 87, .ext 1, [.t 79], none⟩,
  ⟨none, .store 15, [.t 10, .t 86], none⟩,
  ⟨some 11, .mv, [.t 87], none⟩])
 (.seq (.seq (.reg [⟨some 88, .mv, [.t 9], none⟩,
  ⟨some 89, .mv, [.t 11], none⟩,
  ⟨some 90, .bin .neq, [.t 88, .t 89], none⟩,
  ⟨some 91, .mv, [.t 90], none⟩,
  ⟨some 92, .load 15 true, [.t 8], some (91, false)⟩,
  ⟨some 93, .load 15 true, [.t 10], some (91, false)⟩,
  ⟨some 94, .call 14, [.t 92, .t 93], some (91, false)⟩,
  ⟨some 95, .un .not, [.t 94], some (91, false)⟩,
  ⟨some 96, .pick, [.t 91, .c (.p (.v (.bool true))), .t 95], none⟩])
 (.cond (.t 96)
 (.seq (.reg [⟨some 6, .mv, [.c (.p (.v (.bool false)))], none⟩])
 .ret)
 .skip))
 (.seq (.reg [⟨some 98, .load 15 true, [.t 7], none⟩,
  ⟨some 99, .fad 0, [.t 4], none⟩,
  ⟨some 100, .fad 0, [.t 99], none⟩,
  ⟨some 101, .load 1 false, [.t 100], none⟩,
  ⟨some 102, .call 19, [.t 98, .t 101], none⟩,
  ⟨some 97, .mv, [.t 102], none⟩,
  ⟨some 103, .ext 0, [.t 97], none⟩,
  ⟨some 104, .ext 1, [.t 97], none⟩,
  ⟨none, .store 15, [.t 8, .t 103], none⟩,
  ⟨some 9, .mv, [.t 104], none⟩])
 (.seq (.reg [⟨some 106, .load 15 true, [.t 3], none⟩,
  ⟨some 107, .fad 0, [.t 4], none⟩,
  ⟨some 108, .fad 0, [.t 107], none⟩,
  ⟨some 109, .load 1 false, [.t 108], none⟩,
  ⟨some 110, .call 20, [.t 106, .t 109], none⟩,
  ⟨some 105, .mv, [.t 110], none⟩,
  ⟨some 111, .ext 0, [.t 105], none⟩,
  ⟨some 112, .ext 1, [.t 105], none⟩,
  ⟨none, .store 15, [.t 10, .t 111], none⟩,
  ⟨some 11, .mv, [.t 112], none⟩])
 (.seq (.reg [⟨some 113, .mv, [.t 9], none⟩,
  ⟨some 114, .mv, [.t 11], none⟩,
  ⟨some 115, .bin .eql, [.t 113, .t 114], none⟩,
  ⟨some 116, .mv, [.t 115], none⟩,
  ⟨some 117, .load 15 true, [.t 8], some (116, true)⟩,
  ⟨some 118, .load 15 true, [.t 10], some (116, true)⟩,
  ⟨some 119, .call 14, [.t 117, .t 118], some (116, true)⟩,
  ⟨some 120, .pick, [.t 116, .t 119, .c (.p (.v (.bool false)))], none⟩,
  ⟨some 121, .mv, [.t 120], none⟩,
  ⟨some 122, .load 15 true, [.t 7], some (121, true)⟩,
  ⟨some 123, .load 15 true, [.t 3], some (121, true)⟩,
  ⟨some 124, .call 21, [.t 122, .t 123], some (121, true)⟩,
  ⟨some 125, .pick, [.t 121, .t 124, .c (.p (.v (.bool false)))], none⟩,
  ⟨some 126, .mv, [.t 125], none⟩,
  ⟨some 127, .call 10, [], some (126, true)⟩,
  ⟨some 128, .pick, [.t 126, .t 127, .c (.p (.v (.bool false)))], none⟩,
  ⟨some 6, .mv, [.t 128], none⟩])
 .ret)))))))))))))))
theorem ret3 {ps : List PV} {p : PV} (hn : Nat.ble ps.length 129 = true) (h : (∀ q ∈ ps, q.bd) → Run Tryz.prog (fun e s' => (∀ id, e ≠ .exit id) ∧ ∃ ns, s'.out [.t 6] = some (p, ns)) [] c3 (S (initL 0 ps) [])) : Ret Tryz.prog 3 ps p :=
  ret_run Tryz.func3 rfl (by kernel_rfl) rfl (by kernel_rfl) (by kernel_rfl) (by kernel_rfl) (by kernel_rfl) (Nat.le_of_ble_eq_true hn) h

/-- stevedore/stevedorelaw21.CountsCloses -/
def c8 : C :=
  (.seq (.reg [⟨some 3, .box, [.t 0], none⟩,
  ⟨some 6, .mv, [.c (.p (.v (.bool false)))], none⟩])
 (.seq (.seq (.reg [⟨some 12, .load 15 true, [.t 3], none⟩,
  ⟨some 13, .call 9, [.t 12], none⟩,
  ⟨some 14, .un .not, [.t 13], none⟩])
 (.cond (.t 14)
 (.seq (.reg [⟨some 15, .call 10, [], none⟩,
  ⟨some 6, .mv, [.t 15], none⟩])
 .ret)
 .skip))
 (.seq (.reg [⟨some 16, .load 15 true, [.t 3], none⟩,
  ⟨some 17, .call 11, [.t 16], none⟩,
  ⟨some 7, .alloc [.sl [] [], .sl [] [], .sl [] [], .sl [] [], .sl [] [], .sl [] [], .sl [] [], .sl [] [], .sl [] [], .sl [] [], .sl [] [], .sl [] [], .sl [] [], .sl [] [], .v (.int .i64 0)], [], none⟩,
  ⟨none, .store 15, [.t 7, .t 17], none⟩])
 (.seq (.reg [⟨some 19, .load 15 true, [.t 7], none⟩,
  ⟨some 20, .mv, [.t 1], none⟩,
  ⟨some 21, .mv, [.t 2], none⟩,
  ⟨some 22, .call 17, [.t 19, .t 20, .t 21], none⟩,
  ⟨some 18, .mv, [.t 22], none⟩,
  ⟨some 23, .ext 0, [.t 18], none⟩,
  ⟨some 24, .ext 1, [.t 18], none⟩,
  ⟨some 8, .alloc [.sl [] [], .sl [] [], .sl [] [], .sl [] [], .sl [] [], .sl [] [], .sl [] [], .sl [] [], .sl [] [], .sl [] [], .sl [] [], .sl [] [], .sl [] [], .sl [] [], .v (.int .i64 0)], [], none⟩,
  ⟨none, .store 15, [.t 8, .t 23], none⟩,
  ⟨some 9, .mv, [.t 24], none⟩])
 (.seq (.reg [⟨some 26, .load 15 true, [.t 3], none⟩,
  ⟨some 27, .mv, [.t 1], none⟩,
  ⟨some 28, .mv, [.t 2], none⟩,
  ⟨some 29, .call 18, [.t 26, .t 27, .t 28], none⟩,
  ⟨some 25, .mv, [.t 29], none⟩,
  ⟨some 30, .ext 0, [.t 25], none⟩,
  ⟨some 31, .ext 1, [.t 25], none⟩,
  ⟨some 10, .alloc [.sl [] [], .sl [] [], .sl [] [], .sl [] [], .sl [] [], .sl [] [], .sl [] [], .sl [] [], .sl [] [], .sl [] [], .sl [] [], .sl [] [], .sl [] [], .sl [] [], .v (.int .i64 0)], [], none⟩,
  ⟨none, .store 15, [.t 10, .t 30], none⟩,
  ⟨some 11, .mv, [.t 31], none⟩])
 (.seq (.reg [⟨some 32, .mv, [.t 9], none⟩,
  ⟨some 33, .mv, [.t 11], none⟩,
  ⟨some 34, .bin .eql, [.t 32, .t 33], none⟩,
  ⟨some 35, .mv, [.t 34], none⟩,
  ⟨some 36, .load 15 true, [.t 8], some (35, true)⟩,
  ⟨some 37, .load 15 true, [.t 10], some (35, true)⟩,
  ⟨some 38, .call 14, [.t 36, .t 37], some (35, true)⟩,
  ⟨some 39, .pick, [.t 35, .t 38, .c (.p (.v (.bool false)))], none⟩,
  ⟨some 40, .mv, [.t 39], none⟩,
  ⟨some 41, .load 15 true, [.t 7], some (40, true)⟩,
  ⟨some 42, .load 15 true, [.t 3], some (40, true)⟩,
  ⟨some 43, .call 21, [.t 41, .t 42], some (40, true)⟩,
  ⟨some 44, .pick, [.t 40, .t 43, .c (.p (.v (.bool false)))], none⟩,
  ⟨some 45, .mv, [.t 44], none⟩,
  ⟨some 46, .call 10, [], some (45, true)⟩,
  ⟨some 47, .pick, [.t 45, .t 46, .c (.p (.v (.bool false)))], none⟩,
  ⟨some 6, .mv, [.t 47], none⟩])
 .ret))))))
theorem ret8 {ps : List PV} {p : PV} (hn : Nat.ble ps.length 48 = true) (h : (∀ q ∈ ps, q.bd) → Run Tryz.prog (fun e s' => (∀ id, e ≠ .exit id) ∧ ∃ ns, s'.out [.t 6] = some (p, ns)) [] c8 (S (initL 0 ps) [])) : Ret Tryz.prog 8 ps p :=
  ret_run Tryz.func8 rfl (by kernel_rfl) rfl (by kernel_rfl) (by kernel_rfl) (by kernel_rfl) (by kernel_rfl) (Nat.le_of_ble_eq_true hn) h

end Go.Fw
