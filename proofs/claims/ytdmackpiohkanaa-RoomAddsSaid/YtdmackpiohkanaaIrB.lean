/-
  The code of some functions, for the abstract machine. Printed by a program (wip/tools/mkir.py).
-/
import Derived.Test.YtdmackpiohkanaaFwU
import Derived.Test.YtdmackpiohkanaaProg
import Derived.KernelRfl
set_option linter.unusedVariables false
set_option maxRecDepth 100000
namespace Go.Fw
open Go.Proofs

/-- stevedore/stevedorelaw09.LotsSerial -/
def c3 : C :=
  (.seq (.reg [⟨some 3, .box, [.t 0], none⟩,
  ⟨some 6, .mv, [.c (.p (.v (.bool false)))], none⟩])
 (.seq (.seq (.reg [⟨some 12, .load 15 true, [.t 3], none⟩,
  ⟨some 13, .call 28, [.t 12], none⟩,
  ⟨some 14, .un .not, [.t 13], none⟩])
 (.cond (.t 14)
 (.seq (.reg [⟨some 15, .call 29, [], none⟩,
  ⟨some 6, .mv, [.t 15], none⟩])
 .ret)
 .skip))
 (.seq (.reg [⟨some 16, .load 15 true, [.t 3], none⟩,
  ⟨some 17, .mv, [.t 1], none⟩,
  ⟨some 18, .mv, [.t 2], none⟩,
  ⟨some 19, .call 30, [.t 16, .t 17, .t 18, .c (.p (.v (.int .i64 2)))], none⟩,
  ⟨some 7, .mv, [.t 19], none⟩])
 (.seq (.seq (.reg [⟨some 8, .mv, [.c (.p (.v (.int .i64 0)))], none⟩])
 (.block 0
 (.loop
 (.seq (.seq (.reg [⟨some 20, .mv, [.t 8], none⟩,
  ⟨some 21, .fad 0, [.t 3], none⟩,
  ⟨some 22, .load 1 false, [.t 21], none⟩,
  ⟨some 23, .len 0, [.t 22], none⟩,
  ⟨some 24, .bin .lss, [.t 20, .t 23], none⟩])
 (.cond (.t 24)
 .skip
 (.exit 0)))
 (.seq (.block 1
 (.seq (.seq (.reg [⟨some 27, .fad 0, [.t 3], none⟩,
  ⟨some 28, .load 1 false, [.t 27], none⟩,
  ⟨some 29, .mv, [.t 8], none⟩,
  ⟨some 30, .iad 14, [.t 28, .t 29], none⟩,
  ⟨some 31, .fad 0, [.t 30], none⟩,
  ⟨some 32, .load 1 false, [.t 31], none⟩,
  ⟨some 33, .mv, [.t 1], none⟩,
  ⟨some 34, .bin .neq, [.t 32, .t 33], none⟩])
 (.cond (.t 34)
 (.exit 1)
 .skip))
 (.seq (.seq (.reg [⟨some 9, .mv, [.c (.p (.v (.int .i64 0)))], none⟩])
 (.block 2
 (.loop
 (.seq (.seq (.reg [⟨some 35, .mv, [.t 9], none⟩,
  ⟨some 36, .fad 4, [.t 3], none⟩,
  ⟨some 37, .load 1 false, [.t 36], none⟩,
  ⟨some 38, .len 0, [.t 37], none⟩,
  ⟨some 39, .bin .lss, [.t 35, .t 38], none⟩])
 (.cond (.t 39)
 .skip
 (.exit 2)))
 (.seq (.block 3
 (.seq (.reg [⟨some 42, .fad 4, [.t 3], none⟩,
  ⟨some 43, .load 1 false, [.t 42], none⟩,
  ⟨some 44, .mv, [.t 9], none⟩,
  ⟨some 45, .iad 6, [.t 43, .t 44], none⟩,
  ⟨some 46, .fad 4, [.t 45], none⟩,
  ⟨some 47, .load 1 false, [.t 46], none⟩,
  ⟨some 48, .bin .lss, [.t 47, .c (.p (.v (.int .i64 0)))], none⟩])
 (.cond (.t 48)
 (.seq (.reg [⟨some 49, .call 29, [], none⟩,
  ⟨some 6, .mv, [.t 49], none⟩])
 .ret)
 .skip)))
 (.reg [⟨some 40, .mv, [.t 9], none⟩,
  ⟨some 41, .bin .add, [.t 40, .c (.p (.v (.int .i64 1)))], none⟩,
  ⟨some 9, .mv, [.t 41], none⟩]))))))
 (.seq (.seq (.reg [⟨some 50, .fad 0, [.t 3], none⟩,
  ⟨some 51, .load 1 false, [.t 50], none⟩,
  ⟨some 52, .mv, [.t 8], none⟩,
  ⟨some 53, .iad 14, [.t 51, .t 52], none⟩,
  ⟨some 54, .fad 12, [.t 53], none⟩,
  ⟨some 55, .load 1 false, [.t 54], none⟩,
  ⟨some 56, .mv, [.t 55], none⟩,
  ⟨some 57, .mv, [.t 7], some (56, true)⟩,
  ⟨some 58, .bin .eql, [.t 57, .c (.p (.v (.int .i64 0)))], some (56, true)⟩,
  ⟨some 59, .pick, [.t 56, .t 58, .c (.p (.v (.bool false)))], none⟩])
 (.cond (.t 59)
 (.seq (.reg [⟨some 10, .mv, [.c (.p (.v (.int .i64 2)))], none⟩])
 (.seq (.seq (.reg [⟨some 11, .mv, [.c (.p (.v (.int .i64 0)))], none⟩])
 (.block 4
 (.loop
 (.seq (.seq (.reg [⟨some 60, .mv, [.t 11], none⟩,
  ⟨some 61, .fad 4, [.t 3], none⟩,
  ⟨some 62, .load 1 false, [.t 61], none⟩,
  ⟨some 63, .len 0, [.t 62], none⟩,
  ⟨some 64, .bin .lss, [.t 60, .t 63], none⟩])
 (.cond (.t 64)
 .skip
 (.exit 4)))
 (.seq (.block 5
 (.seq (.reg [⟨some 67, .fad 4, [.t 3], none⟩,
  ⟨some 68, .load 1 false, [.t 67], none⟩,
  ⟨some 69, .mv, [.t 11], none⟩,
  ⟨some 70, .iad 6, [.t 68, .t 69], none⟩,
  ⟨some 71, .fad 0, [.t 70], none⟩,
  ⟨some 72, .fad 1, [.t 71], none⟩,
  ⟨some 73, .load 1 false, [.t 72], none⟩,
  ⟨some 74, .mv, [.t 1], none⟩,
  ⟨some 75, .bin .eql, [.t 73, .t 74], none⟩,
  ⟨some 76, .mv, [.t 75], none⟩,
  ⟨some 77, .fad 4, [.t 3], some (76, true)⟩,
  ⟨some 78, .load 1 false, [.t 77], some (76, true)⟩,
  ⟨some 79, .mv, [.t 11], some (76, true)⟩,
  ⟨some 80, .iad 6, [.t 78, .t 79], some (76, true)⟩,
  ⟨some 81, .fad 0, [.t 80], some (76, true)⟩,
  ⟨some 82, .fad 2, [.t 81], some (76, true)⟩,
  ⟨some 83, .load 1 false, [.t 82], some (76, true)⟩,
  ⟨some 84, .mv, [.t 2], some (76, true)⟩,
  ⟨some 85, .bin .eql, [.t 83, .t 84], some (76, true)⟩,
  ⟨some 86, .pick, [.t 76, .t 85, .c (.p (.v (.bool false)))], none⟩])
 (.cond (.t 86)
 (.reg [⟨some 87, .mv, [.t 10], none⟩,
  ⟨some 88, .fad 4, [.t 3], none⟩,
  ⟨some 89, .load 1 false, [.t 88], none⟩,
  ⟨some 90, .mv, [.t 11], none⟩,
  ⟨some 91, .iad 6, [.t 89, .t 90], none⟩,
  ⟨some 92, .fad 4, [.t 91], none⟩,
  ⟨some 93, .load 1 false, [.t 92], none⟩,
  ⟨some 94, .bin .add, [.t 87, .t 93], none⟩,
  ⟨some 10, .mv, [.t 94], none⟩])
 .skip)))
 (.reg [⟨some 65, .mv, [.t 11], none⟩,
  ⟨some 66, .bin .add, [.t 65, .c (.p (.v (.int .i64 1)))], none⟩,
  ⟨some 11, .mv, [.t 66], none⟩]))))))
 (.seq (.reg [⟨some 95, .mv, [.t 10], none⟩,
  ⟨some 96, .bin .lss, [.t 95, .c (.p (.v (.int .i64 2)))], none⟩,
  ⟨some 97, .mv, [.t 96], none⟩,
  ⟨some 98, .call 29, [], some (97, true)⟩,
  ⟨some 99, .pick, [.t 97, .t 98, .c (.p (.v (.bool false)))], none⟩,
  ⟨some 6, .mv, [.t 99], none⟩])
 .ret)))
 .skip))
 (.seq (.reg [⟨some 100, .mv, [.t 7], none⟩,
  ⟨some 101, .bin .eql, [.t 100, .c (.p (.v (.int .i64 0)))], none⟩,
  ⟨some 102, .mv, [.t 101], none⟩,
  ⟨some 103, .mv, [.t 7], some (102, false)⟩,
  ⟨some 104, .bin .eql, [.t 103, .c (.p (.v (.int .i64 21)))], some (102, false)⟩,
  ⟨some 105, .pick, [.t 102, .c (.p (.v (.bool true))), .t 104], none⟩,
  ⟨some 106, .mv, [.t 105], none⟩,
  ⟨some 107, .mv, [.t 7], some (106, false)⟩,
  ⟨some 108, .bin .eql, [.t 107, .c (.p (.v (.int .i64 22)))], some (106, false)⟩,
  ⟨some 109, .mv, [.t 108], some (106, false)⟩,
  ⟨some 110, .fad 0, [.t 3], some (109, true)⟩,
  ⟨some 111, .load 1 false, [.t 110], some (109, true)⟩,
  ⟨some 112, .mv, [.t 8], some (109, true)⟩,
  ⟨some 113, .iad 14, [.t 111, .t 112], some (109, true)⟩,
  ⟨some 114, .fad 12, [.t 113], some (109, true)⟩,
  ⟨some 115, .load 1 false, [.t 114], some (109, true)⟩,
  ⟨some 116, .pick, [.t 109, .t 115, .c (.p (.v (.bool false)))], some (106, false)⟩,
  ⟨some 117, .pick, [.t 106, .c (.p (.v (.bool true))), .t 116], none⟩,
  ⟨some 118, .mv, [.t 117], none⟩,
  ⟨some 119, .call 29, [], some (118, true)⟩,
  ⟨some 120, .pick, [.t 118, .t 119, .c (.p (.v (.bool false)))], none⟩,
  ⟨some 6, .mv, [.t 120], none⟩])
 .ret)))))
 (.reg [⟨some 25, .mv, [.t 8], none⟩,
  ⟨some 26, .bin .add, [.t 25, .c (.p (.v (.int .i64 1)))], none⟩,
  ⟨some 8, .mv, [.t 26], none⟩]))))))
 (.seq (.reg [⟨some 121, .mv, [.t 7], none⟩,
  ⟨some 122, .bin .eql, [.t 121, .c (.p (.v (.int .i64 12)))], none⟩,
  ⟨some 123, .mv, [.t 122], none⟩,
  ⟨some 124, .call 29, [], some (123, true)⟩,
  ⟨some 125, .pick, [.t 123, .t 124, .c (.p (.v (.bool false)))], none⟩,
  ⟨some 6, .mv, [.t 125], none⟩])
 .ret)))))
theorem ret3 {ps : List PV} {p : PV} (hn : Nat.ble ps.length 126 = true) (h : (∀ q ∈ ps, q.bd) → Run Try.prog (fun e s' => (∀ id, e ≠ .exit id) ∧ ∃ ns, s'.out [.t 6] = some (p, ns)) [] c3 (S (initL 0 ps) [])) : Ret Try.prog 3 ps p :=
  ret_run Try.func3 rfl (by kernel_rfl) rfl (by kernel_rfl) (by kernel_rfl) (by kernel_rfl) (by kernel_rfl) (Nat.le_of_ble_eq_true hn) h

/-- stevedore/stevedorelaw09.LotsDays -/
def c4 : C :=
  (.seq (.reg [⟨some 3, .box, [.t 0], none⟩,
  ⟨some 6, .mv, [.c (.p (.v (.bool false)))], none⟩])
 (.seq (.seq (.reg [⟨some 7, .load 15 true, [.t 3], none⟩,
  ⟨some 8, .call 28, [.t 7], none⟩,
  ⟨some 9, .un .not, [.t 8], none⟩])
 (.cond (.t 9)
 (.seq (.reg [⟨some 10, .call 29, [], none⟩,
  ⟨some 6, .mv, [.t 10], none⟩])
 .ret)
 .skip))
 (.seq (.regd [⟨some 11, .load 15 true, [.t 3], none⟩,
  ⟨some 12, .mv, [.t 1], none⟩,
  ⟨some 13, .mv, [.t 2], none⟩,
  ⟨some 14, .call 31, [.t 11, .t 12, .t 13], none⟩,
  ⟨some 15, .load 15 true, [.t 3], none⟩,
  ⟨some 16, .mv, [.t 1], none⟩,
  ⟨some 17, .mv, [.t 2], none⟩,
  ⟨some 18, .call 32, [.t 15, .t 16, .t 17], none⟩,
  ⟨some 19, .bin .eql, [.t 14, .t 18], none⟩,
  ⟨some 20, .mv, [.t 19], none⟩,
  ⟨some 21, .call 29, [], some (20, true)⟩,
  ⟨some 22, .pick, [.t 20, .t 21, .c (.p (.v (.bool false)))], none⟩,
  ⟨some 6, .mv, [.t 22], none⟩])
 .ret)))
theorem ret4 {ps : List PV} {p : PV} (hn : Nat.ble ps.length 23 = true) (h : (∀ q ∈ ps, q.bd) → Run Try.prog (fun e s' => (∀ id, e ≠ .exit id) ∧ ∃ ns, s'.out [.t 6] = some (p, ns)) [] c4 (S (initL 0 ps) [])) : Ret Try.prog 4 ps p :=
  ret_run Try.func4 rfl (by kernel_rfl) rfl (by kernel_rfl) (by kernel_rfl) (by kernel_rfl) (by kernel_rfl) (Nat.le_of_ble_eq_true hn) h

/-- stevedore/stevedorelaw09.LotsMay -/
def c5 : C :=
  (.seq (.reg [⟨some 3, .box, [.t 0], none⟩,
  ⟨some 4, .box, [.t 1], none⟩,
  ⟨some 6, .mv, [.c (.p (.v (.bool false)))], none⟩])
 (.seq (.seq (.reg [⟨some 7, .load 15 true, [.t 3], none⟩,
  ⟨some 8, .call 28, [.t 7], none⟩,
  ⟨some 9, .un .not, [.t 8], none⟩])
 (.cond (.t 9)
 (.seq (.reg [⟨some 10, .call 29, [], none⟩,
  ⟨some 6, .mv, [.t 10], none⟩])
 .ret)
 .skip))
 (.seq (.regd [⟨some 11, .load 15 true, [.t 3], none⟩,
  ⟨some 12, .fad 0, [.t 4], none⟩,
  ⟨some 13, .load 1 false, [.t 12], none⟩,
  ⟨some 14, .fad 1, [.t 4], none⟩,
  ⟨some 15, .load 1 false, [.t 14], none⟩,
  ⟨some 16, .mv, [.t 2], none⟩,
  ⟨some 17, .call 30, [.t 11, .t 13, .t 15, .t 16], none⟩,
  ⟨some 18, .load 15 true, [.t 3], none⟩,
  ⟨some 19, .fad 0, [.t 4], none⟩,
  ⟨some 20, .load 1 false, [.t 19], none⟩,
  ⟨some 21, .fad 1, [.t 4], none⟩,
  ⟨some 22, .load 1 false, [.t 21], none⟩,
  ⟨some 23, .mv, [.t 2], none⟩,
  ⟨some 24, .call 33, [.t 18, .t 20, .t 22, .t 23], none⟩,
  ⟨some 25, .bin .eql, [.t 17, .t 24], none⟩,
  ⟨some 26, .mv, [.t 25], none⟩,
  ⟨some 27, .call 29, [], some (26, true)⟩,
  ⟨some 28, .pick, [.t 26, .t 27, .c (.p (.v (.bool false)))], none⟩,
  ⟨some 6, .mv, [.t 28], none⟩])
 .ret)))
theorem ret5 {ps : List PV} {p : PV} (hn : Nat.ble ps.length 29 = true) (h : (∀ q ∈ ps, q.bd) → Run Try.prog (fun e s' => (∀ id, e ≠ .exit id) ∧ ∃ ns, s'.out [.t 6] = some (p, ns)) [] c5 (S (initL 0 ps) [])) : Ret Try.prog 5 ps p :=
  ret_run Try.func5 rfl (by kernel_rfl) rfl (by kernel_rfl) (by kernel_rfl) (by kernel_rfl) (by kernel_rfl) (Nat.le_of_ble_eq_true hn) h

end Go.Fw
