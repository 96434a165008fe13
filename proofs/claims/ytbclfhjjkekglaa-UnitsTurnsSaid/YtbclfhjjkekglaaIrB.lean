/-
  The code of some functions, for the abstract machine. Printed by a program (wip/tools/mkir.py).
-/
import Derived.Test.YtbclfhjjkekglaaFwU
import Derived.Test.YtbclfhjjkekglaaProg
import Derived.KernelRfl
set_option linter.unusedVariables false
set_option maxRecDepth 100000
namespace Go.Fw
open Go.Proofs

/-- stevedore/stevedorelaw08.UnitsTurns -/
def c3 : C :=
  (.seq (.reg [⟨some 3, .box, [.t 0], none⟩,
   ⟨some 6, .mv, [.c (.p (.v (.bool false)))], none⟩])
  (.seq (.reg [⟨some 12, .load 14 true, [.t 3], none⟩,
   ⟨some 13, .mv, [.t 1], none⟩,
   ⟨some 14, .mv, [.t 2], none⟩,
   ⟨some 15, .call 8, [.t 12, .t 13, .t 14], none⟩,
   ⟨some 11, .mv, [.t 15], none⟩,
   ⟨some 16, .ext 0, [.t 11], none⟩,
   ⟨some 17, .ext 1, [.t 11], none⟩,
   ⟨some 7, .mv, [.t 16], none⟩,
   ⟨some 8, .mv, [.t 17], none⟩])
  (.seq (.reg [⟨some 19, .load 14 true, [.t 3], none⟩,
   ⟨some 20, .mv, [.t 1], none⟩,
   ⟨some 21, .mv, [.t 2], none⟩,
   ⟨some 22, .call 9, [.t 19, .t 20, .t 21], none⟩,
   ⟨some 18, .mv, [.t 22], none⟩,
   ⟨some 23, .ext 0, [.t 18], none⟩,
   ⟨some 24, .ext 1, [.t 18], none⟩,
   ⟨some 9, .mv, [.t 23], none⟩,
   ⟨some 10, .mv, [.t 24], none⟩])
  (.seq (.regd [⟨some 25, .mv, [.t 7], none⟩,
   ⟨some 26, .mv, [.t 9], none⟩,
   ⟨some 27, .bin .eql, [.t 25, .t 26], none⟩,
   ⟨some 28, .mv, [.t 27], none⟩,
   ⟨some 29, .mv, [.t 8], some (28, true)⟩,
   ⟨some 30, .mv, [.t 10], some (28, true)⟩,
   ⟨some 31, .bin .eql, [.t 29, .t 30], some (28, true)⟩,
   ⟨some 32, .pick, [.t 28, .t 31, .c (.p (.v (.bool false)))], none⟩,
   ⟨some 33, .mv, [.t 32], none⟩,
   ⟨some 34, .load 14 true, [.t 3], some (33, true)⟩,
   ⟨some 35, .mv, [.t 2], some (33, true)⟩,
   ⟨some 36, .call 11, [.t 34, .t 35], some (33, true)⟩,
   ⟨some 37, .load 14 true, [.t 3], some (33, true)⟩,
   ⟨some 38, .mv, [.t 2], some (33, true)⟩,
   ⟨some 39, .call 12, [.t 37, .t 38], some (33, true)⟩,
   ⟨some 40, .call 10, [.t 36, .t 39], some (33, true)⟩,
   ⟨some 41, .pick, [.t 33, .t 40, .c (.p (.v (.bool false)))], none⟩,
   ⟨some 42, .mv, [.t 41], none⟩,
   ⟨some 43, .call 13, [], some (42, true)⟩,
   ⟨some 44, .pick, [.t 42, .t 43, .c (.p (.v (.bool false)))], none⟩,
   ⟨some 6, .mv, [.t 44], none⟩])
  .ret))))
theorem ret3 {ps : List PV} {p : PV} (hn : Nat.ble ps.length 45 = true) (h : (∀ q ∈ ps, q.bd) → Run Try.prog (fun e s' => (∀ id, e ≠ .exit id) ∧ ∃ ns, s'.out [.t 6] = some (p, ns)) [] c3 (S (initL 0 ps) [])) : Ret Try.prog 3 ps p :=
  ret_run Try.func3 rfl (by kernel_rfl) rfl (by kernel_rfl) (by kernel_rfl) (by kernel_rfl) (by kernel_rfl) (Nat.le_of_ble_eq_true hn) h

/-- stevedore/stevedorelaw08.UnitsBack -/
def c4 : C :=
  (.seq (.reg [⟨some 2, .box, [.t 0], none⟩,
   ⟨some 4, .mv, [.c (.p (.v (.bool false)))], none⟩])
  (.seq (.seq (.reg [⟨some 10, .mv, [.t 1], none⟩,
   ⟨some 11, .bin .lss, [.t 10, .c (.p (.v (.int .i64 1)))], none⟩,
   ⟨some 12, .mv, [.t 11], none⟩,
   ⟨some 13, .mv, [.t 1], some (12, false)⟩,
   ⟨some 14, .bin .gtr, [.t 13, .c (.p (.v (.int .i64 1000000000)))], some (12, false)⟩,
   ⟨some 15, .pick, [.t 12, .c (.p (.v (.bool true))), .t 14], none⟩])
  (.cond (.t 15)
  (.seq (.reg [⟨some 16, .mv, [.t 1], none⟩,
     ⟨some 17, .bin .gtr, [.t 16, .c (.p (.v (.int .i64 0)))], none⟩,
     ⟨some 18, .mv, [.t 17], none⟩,
     ⟨some 19, .load 14 true, [.t 2], some (18, false)⟩,
     ⟨some 20, .mv, [.t 1], some (18, false)⟩,
     ⟨some 21, .call 11, [.t 19, .t 20], some (18, false)⟩,
     ⟨some 22, .len 0, [.t 21], some (18, false)⟩,
     ⟨some 23, .bin .eql, [.t 22, .c (.p (.v (.int .i64 0)))], some (18, false)⟩,
     ⟨some 24, .pick, [.t 18, .c (.p (.v (.bool true))), .t 23], none⟩,
     ⟨some 25, .mv, [.t 24], none⟩,
     ⟨some 26, .call 13, [], some (25, true)⟩,
     ⟨some 27, .pick, [.t 25, .t 26, .c (.p (.v (.bool false)))], none⟩,
     ⟨some 4, .mv, [.t 27], none⟩])
    .ret)
  .skip))
  (.seq (.reg [⟨some 28, .load 14 true, [.t 2], none⟩,
   ⟨some 29, .mv, [.t 1], none⟩,
   ⟨some 30, .call 11, [.t 28, .t 29], none⟩,
   ⟨some 5, .mv, [.t 30], none⟩])
  (.seq (.reg [⟨some 6, .mv, [.c (.p (.v (.int .i64 0)))], none⟩])
  (.seq (.seq (.reg [⟨some 7, .mv, [.c (.p (.v (.int .i64 0)))], none⟩])
  (.block 0
  (.loop
  (.seq (.seq (.reg [⟨some 31, .mv, [.t 7], none⟩,
   ⟨some 32, .mv, [.t 5], none⟩,
   ⟨some 33, .len 0, [.t 32], none⟩,
   ⟨some 34, .bin .lss, [.t 31, .t 33], none⟩])
  (.cond (.t 34)
  .skip
  (.exit 0)))
  (.seq (.block 1
  (.seq (.regd [⟨some 38, .load 14 true, [.t 2], none⟩,
   ⟨some 39, .mv, [.t 5], none⟩,
   ⟨some 40, .mv, [.t 7], none⟩,
   ⟨some 41, .iad 2, [.t 39, .t 40], none⟩,
   ⟨some 42, .fad 0, [.t 41], none⟩,
   ⟨some 43, .load 1 false, [.t 42], none⟩,
   ⟨some 44, .mv, [.t 5], none⟩,
   ⟨some 45, .mv, [.t 7], none⟩,
   ⟨some 46, .iad 2, [.t 44, .t 45], none⟩,
   ⟨some 47, .fad 1, [.t 46], none⟩,
   ⟨some 48, .load 1 false, [.t 47], none⟩,
   ⟨some 49, .call 8, [.t 38, .t 43, .t 48], none⟩,
   ⟨some 37, .mv, [.t 49], none⟩,
   ⟨some 50, .ext 0, [.t 37], none⟩,
   ⟨some 51, .ext 1, [.t 37], none⟩,
   ⟨some 8, .mv, [.t 50], none⟩,
   ⟨some 9, .mv, [.t 51], none⟩])
  (.seq (.seq (.reg [⟨some 52, .mv, [.t 9], none⟩,
   ⟨some 53, .bin .neq, [.t 52, .c (.p (.v (.int .i64 0)))], none⟩,
   ⟨some 54, .mv, [.t 53], none⟩,
   ⟨some 55, .mv, [.t 8], some (54, false)⟩,
   ⟨some 56, .bin .lss, [.t 55, .c (.p (.v (.int .i64 1)))], some (54, false)⟩,
   ⟨some 57, .pick, [.t 54, .c (.p (.v (.bool true))), .t 56], none⟩])
  (.cond (.t 57)
  (.seq (.reg [⟨some 4, .mv, [.c (.p (.v (.bool false)))], none⟩])
    .ret)
  .skip))
  (.reg [⟨some 58, .mv, [.t 6], none⟩,
   ⟨some 59, .mv, [.t 8], none⟩,
   ⟨some 60, .bin .add, [.t 58, .t 59], none⟩,
   ⟨some 6, .mv, [.t 60], none⟩]))))
  (.reg [⟨some 35, .mv, [.t 7], none⟩,
   ⟨some 36, .bin .add, [.t 35, .c (.p (.v (.int .i64 1)))], none⟩,
   ⟨some 7, .mv, [.t 36], none⟩]))))))
  (.seq (.reg [⟨some 61, .mv, [.t 6], none⟩,
   ⟨some 62, .mv, [.t 1], none⟩,
   ⟨some 63, .bin .eql, [.t 61, .t 62], none⟩,
   ⟨some 64, .mv, [.t 63], none⟩,
   ⟨some 65, .mv, [.t 5], some (64, true)⟩,
   ⟨some 66, .len 0, [.t 65], some (64, true)⟩,
   ⟨some 67, .bin .gtr, [.t 66, .c (.p (.v (.int .i64 0)))], some (64, true)⟩,
   ⟨some 68, .pick, [.t 64, .t 67, .c (.p (.v (.bool false)))], none⟩,
   ⟨some 69, .mv, [.t 68], none⟩,
   ⟨some 70, .call 13, [], some (69, true)⟩,
   ⟨some 71, .pick, [.t 69, .t 70, .c (.p (.v (.bool false)))], none⟩,
   ⟨some 4, .mv, [.t 71], none⟩])
  .ret))))))
theorem ret4 {ps : List PV} {p : PV} (hn : Nat.ble ps.length 72 = true) (h : (∀ q ∈ ps, q.bd) → Run Try.prog (fun e s' => (∀ id, e ≠ .exit id) ∧ ∃ ns, s'.out [.t 4] = some (p, ns)) [] c4 (S (initL 0 ps) [])) : Ret Try.prog 4 ps p :=
  ret_run Try.func4 rfl (by kernel_rfl) rfl (by kernel_rfl) (by kernel_rfl) (by kernel_rfl) (by kernel_rfl) (Nat.le_of_ble_eq_true hn) h

/-- stevedore/stevedorelaw08.UnitsAdds -/
def c5 : C :=
  (.seq (.reg [⟨some 3, .box, [.t 0], none⟩,
   ⟨some 5, .box, [.t 2], none⟩,
   ⟨some 6, .mv, [.c (.p (.v (.bool false)))], none⟩])
  (.seq (.reg [⟨some 14, .load 14 true, [.t 3], none⟩,
   ⟨some 15, .mv, [.t 1], none⟩,
   ⟨some 16, .aad 1 2, [.t 5, .c (.p (.v (.int .i64 0)))], none⟩,
   ⟨some 17, .load 1 false, [.t 16], none⟩,
   ⟨some 18, .call 8, [.t 14, .t 15, .t 17], none⟩,
   ⟨some 13, .mv, [.t 18], none⟩,
   ⟨some 19, .ext 0, [.t 13], none⟩,
   ⟨some 20, .ext 1, [.t 13], none⟩,
   ⟨some 7, .mv, [.t 19], none⟩,
   ⟨some 8, .mv, [.t 20], none⟩])
  (.seq (.reg [⟨some 22, .load 14 true, [.t 3], none⟩,
   ⟨some 23, .mv, [.t 1], none⟩,
   ⟨some 24, .aad 1 2, [.t 5, .c (.p (.v (.int .i64 1)))], none⟩,
   ⟨some 25, .load 1 false, [.t 24], none⟩,
   ⟨some 26, .call 8, [.t 22, .t 23, .t 25], none⟩,
   ⟨some 21, .mv, [.t 26], none⟩,
   ⟨some 27, .ext 0, [.t 21], none⟩,
   ⟨some 28, .ext 1, [.t 21], none⟩,
   ⟨some 9, .mv, [.t 27], none⟩,
   ⟨some 10, .mv, [.t 28], none⟩])
  (.seq (.seq (.reg [⟨some 29, .mv, [.t 8], none⟩,
   ⟨some 30, .bin .neq, [.t 29, .c (.p (.v (.int .i64 0)))], none⟩,
   ⟨some 31, .mv, [.t 30], none⟩,
   ⟨some 32, .mv, [.t 10], some (31, false)⟩,
   ⟨some 33, .bin .neq, [.t 32, .c (.p (.v (.int .i64 0)))], some (31, false)⟩,
   ⟨some 34, .pick, [.t 31, .c (.p (.v (.bool true))), .t 33], none⟩])
  (.cond (.t 34)
  (.seq (.reg [⟨some 35, .call 13, [], none⟩,
     ⟨some 6, .mv, [.t 35], none⟩])
    .ret)
  .skip))
  (.seq (.reg [⟨some 37, .load 14 true, [.t 3], none⟩,
   ⟨some 38, .mv, [.t 1], none⟩,
   ⟨some 39, .aad 1 2, [.t 5, .c (.p (.v (.int .i64 0)))], none⟩,
   ⟨some 40, .load 1 false, [.t 39], none⟩,
   ⟨some 41, .aad 1 2, [.t 5, .c (.p (.v (.int .i64 1)))], none⟩,
   ⟨some 42, .load 1 false, [.t 41], none⟩,
   ⟨some 43, .bin .add, [.t 40, .t 42], none⟩,
   ⟨some 44, .call 8, [.t 37, .t 38, .t 43], none⟩,
   ⟨some 36, .mv, [.t 44], none⟩,
   ⟨some 45, .ext 0, [.t 36], none⟩,
   ⟨some 46, .ext 1, [.t 36], none⟩,
   ⟨some 11, .mv, [.t 45], none⟩,
   ⟨some 12, .mv, [.t 46], none⟩])
  (.seq (.seq (.reg [⟨some 47, .mv, [.t 7], none⟩,
   ⟨some 48, .mv, [.t 9], none⟩,
   ⟨some 49, .bin .add, [.t 47, .t 48], none⟩,
   ⟨some 50, .bin .gtr, [.t 49, .c (.p (.v (.int .i64 1000000000)))], none⟩])
  (.cond (.t 50)
  (.seq (.reg [⟨some 51, .mv, [.t 12], none⟩,
     ⟨some 52, .bin .eql, [.t 51, .c (.p (.v (.int .i64 10)))], none⟩,
     ⟨some 53, .mv, [.t 52], none⟩,
     ⟨some 54, .call 13, [], some (53, true)⟩,
     ⟨some 55, .pick, [.t 53, .t 54, .c (.p (.v (.bool false)))], none⟩,
     ⟨some 6, .mv, [.t 55], none⟩])
    .ret)
  .skip))
  (.seq (.reg [⟨some 56, .mv, [.t 12], none⟩,
   ⟨some 57, .bin .eql, [.t 56, .c (.p (.v (.int .i64 0)))], none⟩,
   ⟨some 58, .mv, [.t 57], none⟩,
   ⟨some 59, .mv, [.t 11], some (58, true)⟩,
   ⟨some 60, .mv, [.t 7], some (58, true)⟩,
   ⟨some 61, .mv, [.t 9], some (58, true)⟩,
   ⟨some 62, .bin .add, [.t 60, .t 61], some (58, true)⟩,
   ⟨some 63, .bin .eql, [.t 59, .t 62], some (58, true)⟩,
   ⟨some 64, .pick, [.t 58, .t 63, .c (.p (.v (.bool false)))], none⟩,
   ⟨some 65, .mv, [.t 64], none⟩,
   ⟨some 66, .mv, [.t 7], some (65, true)⟩,
   ⟨some 67, .aad 1 2, [.t 5, .c (.p (.v (.int .i64 0)))], some (65, true)⟩,
   ⟨some 68, .load 1 false, [.t 67], some (65, true)⟩,
   ⟨some 69, .bin .geq, [.t 66, .t 68], some (65, true)⟩,
   ⟨some 70, .pick, [.t 65, .t 69, .c (.p (.v (.bool false)))], none⟩,
   ⟨some 71, .mv, [.t 70], none⟩,
   ⟨some 72, .call 13, [], some (71, true)⟩,
   ⟨some 73, .pick, [.t 71, .t 72, .c (.p (.v (.bool false)))], none⟩,
   ⟨some 6, .mv, [.t 73], none⟩])
  .ret)))))))
theorem ret5 {ps : List PV} {p : PV} (hn : Nat.ble ps.length 74 = true) (h : (∀ q ∈ ps, q.bd) → Run Try.prog (fun e s' => (∀ id, e ≠ .exit id) ∧ ∃ ns, s'.out [.t 6] = some (p, ns)) [] c5 (S (initL 0 ps) [])) : Ret Try.prog 5 ps p :=
  ret_run Try.func5 rfl (by kernel_rfl) rfl (by kernel_rfl) (by kernel_rfl) (by kernel_rfl) (by kernel_rfl) (Nat.le_of_ble_eq_true hn) h

/-- stevedore/stevedorelaw08.UnitsBases -/
def c6 : C :=
  (.seq (.reg [⟨some 3, .box, [.t 0], none⟩,
   ⟨some 6, .mv, [.c (.p (.v (.bool false)))], none⟩])
  (.seq (.reg [⟨some 12, .load 14 true, [.t 3], none⟩,
   ⟨some 13, .mv, [.t 1], none⟩,
   ⟨some 14, .mv, [.t 2], none⟩,
   ⟨some 15, .call 8, [.t 12, .t 13, .t 14], none⟩,
   ⟨some 11, .mv, [.t 15], none⟩,
   ⟨some 16, .ext 0, [.t 11], none⟩,
   ⟨some 17, .ext 1, [.t 11], none⟩,
   ⟨some 7, .mv, [.t 16], none⟩,
   ⟨some 8, .mv, [.t 17], none⟩])
  (.seq (.reg [⟨some 19, .load 14 true, [.t 3], none⟩,
   ⟨some 20, .mv, [.t 1], none⟩,
   ⟨some 21, .mv, [.t 2], none⟩,
   ⟨some 22, .call 9, [.t 19, .t 20, .t 21], none⟩,
   ⟨some 18, .mv, [.t 22], none⟩,
   ⟨some 23, .ext 0, [.t 18], none⟩,
   ⟨some 24, .ext 1, [.t 18], none⟩,
   ⟨some 9, .mv, [.t 23], none⟩,
   ⟨some 10, .mv, [.t 24], none⟩])
  (.seq (.reg [⟨some 25, .mv, [.t 7], none⟩,
   ⟨some 26, .mv, [.t 9], none⟩,
   ⟨some 27, .bin .eql, [.t 25, .t 26], none⟩,
   ⟨some 28, .mv, [.t 27], none⟩,
   ⟨some 29, .mv, [.t 8], some (28, true)⟩,
   ⟨some 30, .mv, [.t 10], some (28, true)⟩,
   ⟨some 31, .bin .eql, [.t 29, .t 30], some (28, true)⟩,
   ⟨some 32, .pick, [.t 28, .t 31, .c (.p (.v (.bool false)))], none⟩,
   ⟨some 33, .mv, [.t 32], none⟩,
   ⟨some 34, .call 13, [], some (33, true)⟩,
   ⟨some 35, .pick, [.t 33, .t 34, .c (.p (.v (.bool false)))], none⟩,
   ⟨some 6, .mv, [.t 35], none⟩])
  .ret))))
theorem ret6 {ps : List PV} {p : PV} (hn : Nat.ble ps.length 36 = true) (h : (∀ q ∈ ps, q.bd) → Run Try.prog (fun e s' => (∀ id, e ≠ .exit id) ∧ ∃ ns, s'.out [.t 6] = some (p, ns)) [] c6 (S (initL 0 ps) [])) : Ret Try.prog 6 ps p :=
  ret_run Try.func6 rfl (by kernel_rfl) rfl (by kernel_rfl) (by kernel_rfl) (by kernel_rfl) (by kernel_rfl) (Nat.le_of_ble_eq_true hn) h

/-- stevedore/stevedorelaw08.UnitsSplits -/
def c7 : C :=
  (.seq (.reg [⟨some 2, .box, [.t 0], none⟩,
   ⟨some 4, .mv, [.c (.p (.v (.bool false)))], none⟩])
  (.seq (.regd [⟨some 5, .load 14 true, [.t 2], none⟩,
   ⟨some 6, .mv, [.t 1], none⟩,
   ⟨some 7, .call 11, [.t 5, .t 6], none⟩,
   ⟨some 8, .load 14 true, [.t 2], none⟩,
   ⟨some 9, .mv, [.t 1], none⟩,
   ⟨some 10, .call 12, [.t 8, .t 9], none⟩,
   ⟨some 11, .call 10, [.t 7, .t 10], none⟩,
   ⟨some 12, .mv, [.t 11], none⟩,
   ⟨some 13, .call 13, [], some (12, true)⟩,
   ⟨some 14, .pick, [.t 12, .t 13, .c (.p (.v (.bool false)))], none⟩,
   ⟨some 4, .mv, [.t 14], none⟩])
  .ret))
theorem ret7 {ps : List PV} {p : PV} (hn : Nat.ble ps.length 15 = true) (h : (∀ q ∈ ps, q.bd) → Run Try.prog (fun e s' => (∀ id, e ≠ .exit id) ∧ ∃ ns, s'.out [.t 4] = some (p, ns)) [] c7 (S (initL 0 ps) [])) : Ret Try.prog 7 ps p :=
  ret_run Try.func7 rfl (by kernel_rfl) rfl (by kernel_rfl) (by kernel_rfl) (by kernel_rfl) (by kernel_rfl) (Nat.le_of_ble_eq_true hn) h

/-- stevedore/stevedorelaw08.awake -/
def c13 : C :=
  (.seq (.reg [⟨some 0, .mv, [.c (.p (.v (.bool false)))], none⟩])
  (.seq (.reg [⟨some 10, .call 20, [], none⟩,
   ⟨some 11, .call 8, [.t 10, .c (.p (.v (.string ⟨#[99, 97, 115, 101]⟩))), .c (.p (.v (.int .i64 2)))], none⟩,
   ⟨some 9, .mv, [.t 11], none⟩,
   ⟨some 12, .ext 0, [.t 9], none⟩,
   ⟨some 13, .ext 1, [.t 9], none⟩,
   ⟨some 1, .mv, [.t 12], none⟩,
   ⟨some 2, .mv, [.t 13], none⟩])
  (.seq (.reg [⟨some 15, .call 20, [], none⟩,
   ⟨some 16, .call 8, [.t 15, .c (.p (.v (.string ⟨#[101, 97, 99, 104]⟩))), .c (.p (.v (.int .i64 5)))], none⟩,
   ⟨some 14, .mv, [.t 16], none⟩,
   ⟨some 17, .ext 0, [.t 14], none⟩,
   ⟨some 18, .ext 1, [.t 14], none⟩,
   ⟨some 3, .mv, [.t 17], none⟩,
   ⟨some 4, .mv, [.t 18], none⟩])
  (.seq (.reg [⟨some 20, .call 20, [], none⟩,
   ⟨some 21, .call 8, [.t 20, .c (.p (.v (.string ⟨#[98, 97, 103]⟩))), .c (.p (.v (.int .i64 1)))], none⟩,
   ⟨some 19, .mv, [.t 21], none⟩,
   ⟨some 22, .ext 0, [.t 19], none⟩,
   ⟨some 23, .ext 1, [.t 19], none⟩,
   ⟨some 5, .mv, [.t 22], none⟩,
   ⟨some 6, .mv, [.t 23], none⟩])
  (.seq (.reg [⟨some 25, .call 20, [], none⟩,
   ⟨some 26, .call 8, [.t 25, .c (.p (.v (.string ⟨#[99, 97, 115, 101]⟩))), .c (.p (.v (.int .i64 5000000)))], none⟩,
   ⟨some 24, .mv, [.t 26], none⟩,
   ⟨some 27, .ext 0, [.t 24], none⟩,
   ⟨some 28, .ext 1, [.t 24], none⟩,
   ⟨some 7, .mv, [.t 27], none⟩,
   ⟨some 8, .mv, [.t 28], none⟩])
  (.seq (.reg [⟨some 29, .mv, [.t 1], none⟩,
   ⟨some 30, .bin .eql, [.t 29, .c (.p (.v (.int .i64 480)))], none⟩,
   ⟨some 31, .mv, [.t 30], none⟩,
   ⟨some 32, .mv, [.t 3], some (31, true)⟩,
   ⟨some 33, .bin .eql, [.t 32, .c (.p (.v (.int .i64 5)))], some (31, true)⟩,
   ⟨some 34, .pick, [.t 31, .t 33, .c (.p (.v (.bool false)))], none⟩,
   ⟨some 35, .mv, [.t 34], none⟩,
   ⟨some 36, .mv, [.t 2], some (35, true)⟩,
   ⟨some 37, .bin .eql, [.t 36, .c (.p (.v (.int .i64 0)))], some (35, true)⟩,
   ⟨some 38, .pick, [.t 35, .t 37, .c (.p (.v (.bool false)))], none⟩,
   ⟨some 39, .mv, [.t 38], none⟩,
   ⟨some 40, .mv, [.t 4], some (39, true)⟩,
   ⟨some 41, .bin .eql, [.t 40, .c (.p (.v (.int .i64 0)))], some (39, true)⟩,
   ⟨some 42, .pick, [.t 39, .t 41, .c (.p (.v (.bool false)))], none⟩,
   ⟨some 43, .mv, [.t 42], none⟩,
   ⟨some 44, .mv, [.t 6], some (43, true)⟩,
   ⟨some 45, .bin .eql, [.t 44, .c (.p (.v (.int .i64 20)))], some (43, true)⟩,
   ⟨some 46, .pick, [.t 43, .t 45, .c (.p (.v (.bool false)))], none⟩,
   ⟨some 47, .mv, [.t 46], none⟩,
   ⟨some 48, .mv, [.t 8], some (47, true)⟩,
   ⟨some 49, .bin .eql, [.t 48, .c (.p (.v (.int .i64 10)))], some (47, true)⟩,
   ⟨some 50, .pick, [.t 47, .t 49, .c (.p (.v (.bool false)))], none⟩,
   ⟨some 51, .mv, [.t 50], none⟩,
   ⟨some 52, .call 20, [], some (51, true)⟩,
   ⟨some 53, .call 11, [.t 52, .c (.p (.v (.int .i64 500)))], some (51, true)⟩,
   ⟨some 54, .build [.v (.string ⟨#[]⟩), .v (.int .i64 0)] [(0, 1), (1, 1)], [.c (.p (.v (.string ⟨#[99, 97, 115, 101]⟩))), .c (.p (.v (.int .i64 2)))], some (51, true)⟩,
   ⟨some 55, .build [.v (.string ⟨#[]⟩), .v (.int .i64 0)] [(0, 1), (1, 1)], [.c (.p (.v (.string ⟨#[98, 111, 120]⟩))), .c (.p (.v (.int .i64 1)))], some (51, true)⟩,
   ⟨some 56, .build [.v (.string ⟨#[]⟩), .v (.int .i64 0)] [(0, 1), (1, 1)], [.c (.p (.v (.string ⟨#[101, 97, 99, 104]⟩))), .c (.p (.v (.int .i64 8)))], some (51, true)⟩,
   ⟨some 57, .bsl 36 2 3 [.v (.string ⟨#[]⟩), .v (.int .i64 0)] [0, 1, 2], [.t 54, .t 55, .t 56], some (51, true)⟩,
   ⟨some 58, .call 10, [.t 53, .t 57], some (51, true)⟩,
   ⟨some 59, .pick, [.t 51, .t 58, .c (.p (.v (.bool false)))], none⟩,
   ⟨some 0, .mv, [.t 59], none⟩])
  .ret))))))
theorem ret13 {ps : List PV} {p : PV} (hn : Nat.ble ps.length 60 = true) (h : (∀ q ∈ ps, q.bd) → Run Try.prog (fun e s' => (∀ id, e ≠ .exit id) ∧ ∃ ns, s'.out [.t 0] = some (p, ns)) [] c13 (S (initL 0 ps) [])) : Ret Try.prog 13 ps p :=
  ret_run Try.func13 rfl (by kernel_rfl) rfl (by kernel_rfl) (by kernel_rfl) (by kernel_rfl) (by kernel_rfl) (Nat.le_of_ble_eq_true hn) h

end Go.Fw
