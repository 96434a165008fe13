/-
  The code of some functions, for the abstract machine. Printed by a program (wip/tools/mkir.py).
-/
import Derived.Test.YtikgpjnfifnilaaFwU
import Derived.Test.YtikgpjnfifnilaaProg
import Derived.KernelRfl
set_option linter.unusedVariables false
set_option maxRecDepth 100000
namespace Go.Fw
open Go.Proofs

/-- stevedore/stevedorelaw02.TableRises -/
def c4 : C :=
  (.seq (.reg [⟨some 2, .mv, [.c (.p (.v (.bool false)))], none⟩])
  (.seq (.reg [⟨some 3, .mv, [.c .nil], none⟩])
  (.seq (.reg [⟨some 11, .mkmap 9 3, [], none⟩,
   ⟨some 4, .mv, [.t 11], none⟩])
  (.seq (.seq (.reg [⟨some 5, .mv, [.c (.p (.v (.int .i64 0)))], none⟩])
  (.block 0
  (.loop
  (.seq (.seq (.reg [⟨some 12, .mv, [.t 5], none⟩,
   ⟨some 13, .mv, [.t 0], none⟩,
   ⟨some 14, .len 0, [.t 13], none⟩,
   ⟨some 15, .bin .lss, [.t 12, .t 14], none⟩,
   ⟨some 16, .mv, [.t 15], none⟩,
   ⟨some 17, .mv, [.t 5], some (16, true)⟩,
   ⟨some 18, .bin .lss, [.t 17, .c (.p (.v (.int .i64 200)))], some (16, true)⟩,
   ⟨some 19, .pick, [.t 16, .t 18, .c (.p (.v (.bool false)))], none⟩])
  (.cond (.t 19)
  .skip
  (.exit 0)))
  (.seq (.block 1
  (.seq (.seq (.reg [⟨some 22, .mv, [.t 0], none⟩,
   ⟨some 23, .mv, [.t 5], none⟩,
   ⟨some 24, .iad 2, [.t 22, .t 23], none⟩,
   ⟨some 25, .fad 1, [.t 24], none⟩,
   ⟨some 26, .load 1 false, [.t 25], none⟩,
   ⟨some 27, .bin .lss, [.t 26, .c (.p (.v (.int .i64 0)))], none⟩])
  (.cond (.t 27)
  (.seq (.regd [⟨some 28, .call 9, [], none⟩,
     ⟨some 29, .mv, [.t 3], none⟩,
     ⟨some 30, .mv, [.t 0], none⟩,
     ⟨some 31, .mv, [.t 5], none⟩,
     ⟨some 32, .iad 2, [.t 30, .t 31], none⟩,
     ⟨some 33, .load 2 true, [.t 32], none⟩,
     ⟨some 34, .call 14, [.t 28, .t 29, .t 33], none⟩,
     ⟨some 3, .mv, [.t 34], none⟩])
    (.reg [⟨some 35, .mv, [.t 4], none⟩,
     ⟨some 36, .mv, [.t 0], none⟩,
     ⟨some 37, .mv, [.t 5], none⟩,
     ⟨some 38, .iad 2, [.t 36, .t 37], none⟩,
     ⟨some 39, .fad 0, [.t 38], none⟩,
     ⟨some 40, .load 1 false, [.t 39], none⟩,
     ⟨none, .mdel 9, [.t 35, .t 40], none⟩]))
  (.seq (.regd [⟨some 41, .call 9, [], none⟩,
     ⟨some 42, .mv, [.t 3], none⟩,
     ⟨some 43, .mv, [.t 0], none⟩,
     ⟨some 44, .mv, [.t 5], none⟩,
     ⟨some 45, .iad 2, [.t 43, .t 44], none⟩,
     ⟨some 46, .load 2 true, [.t 45], none⟩,
     ⟨some 47, .call 12, [.t 41, .t 42, .t 46], none⟩,
     ⟨some 3, .mv, [.t 47], none⟩])
    (.regd [⟨some 48, .mv, [.t 4], none⟩,
     ⟨some 49, .mv, [.t 0], none⟩,
     ⟨some 50, .mv, [.t 5], none⟩,
     ⟨some 51, .iad 2, [.t 49, .t 50], none⟩,
     ⟨some 52, .fad 0, [.t 51], none⟩,
     ⟨some 53, .load 1 false, [.t 52], none⟩,
     ⟨some 54, .mv, [.t 0], none⟩,
     ⟨some 55, .mv, [.t 5], none⟩,
     ⟨some 56, .iad 2, [.t 54, .t 55], none⟩,
     ⟨some 57, .fad 1, [.t 56], none⟩,
     ⟨some 58, .load 1 false, [.t 57], none⟩,
     ⟨none, .mset 9 3, [.t 48, .t 53, .t 58], none⟩]))))
  (.seq (.seq (.reg [⟨some 59, .call 9, [], none⟩,
   ⟨some 60, .mv, [.t 3], none⟩,
   ⟨some 61, .call 19, [.t 59, .t 60], none⟩,
   ⟨some 62, .un .not, [.t 61], none⟩,
   ⟨some 63, .mv, [.t 62], none⟩,
   ⟨some 64, .mv, [.t 3], some (63, false)⟩,
   ⟨some 65, .len 0, [.t 64], some (63, false)⟩,
   ⟨some 66, .mv, [.t 4], some (63, false)⟩,
   ⟨some 67, .len 2, [.t 66], some (63, false)⟩,
   ⟨some 68, .bin .neq, [.t 65, .t 67], some (63, false)⟩,
   ⟨some 69, .pick, [.t 63, .c (.p (.v (.bool true))), .t 68], none⟩])
  (.cond (.t 69)
  (.seq (.reg [⟨some 2, .mv, [.c (.p (.v (.bool false)))], none⟩])
    .ret)
  .skip))
  (.seq (.regd [⟨some 71, .call 9, [], none⟩,
   ⟨some 72, .mv, [.t 3], none⟩,
   ⟨some 73, .mv, [.t 0], none⟩,
   ⟨some 74, .mv, [.t 5], none⟩,
   ⟨some 75, .iad 2, [.t 73, .t 74], none⟩,
   ⟨some 76, .load 2 true, [.t 75], none⟩,
   ⟨some 77, .call 10, [.t 71, .t 72, .t 76], none⟩,
   ⟨some 70, .mv, [.t 77], none⟩,
   ⟨some 78, .ext 0, [.t 70], none⟩,
   ⟨some 79, .ext 1, [.t 70], none⟩,
   ⟨some 6, .mv, [.t 78], none⟩,
   ⟨some 7, .mv, [.t 79], none⟩])
  (.seq (.regd [⟨some 80, .mv, [.t 7], none⟩,
   ⟨some 81, .mv, [.t 0], none⟩,
   ⟨some 82, .mv, [.t 5], none⟩,
   ⟨some 83, .iad 2, [.t 81, .t 82], none⟩,
   ⟨some 84, .fad 1, [.t 83], none⟩,
   ⟨some 85, .load 1 false, [.t 84], none⟩,
   ⟨some 86, .bin .geq, [.t 85, .c (.p (.v (.int .i64 0)))], none⟩,
   ⟨some 87, .beq true, [.t 80, .t 86], none⟩,
   ⟨some 88, .mv, [.t 87], none⟩,
   ⟨some 89, .mv, [.t 7], some (88, false)⟩,
   ⟨some 90, .mv, [.t 89], some (88, false)⟩,
   ⟨some 91, .mv, [.t 6], some (90, true)⟩,
   ⟨some 92, .bin .lss, [.t 91, .c (.p (.v (.int .i64 0)))], some (90, true)⟩,
   ⟨some 93, .mv, [.t 92], some (90, true)⟩,
   ⟨some 94, .mv, [.t 6], some (93, false)⟩,
   ⟨some 95, .mv, [.t 3], some (93, false)⟩,
   ⟨some 96, .len 0, [.t 95], some (93, false)⟩,
   ⟨some 97, .bin .geq, [.t 94, .t 96], some (93, false)⟩,
   ⟨some 98, .pick, [.t 93, .c (.p (.v (.bool true))), .t 97], some (90, true)⟩,
   ⟨some 99, .mv, [.t 98], some (90, true)⟩,
   ⟨some 100, .mv, [.t 3], some (99, false)⟩,
   ⟨some 101, .mv, [.t 6], some (99, false)⟩,
   ⟨some 102, .iad 2, [.t 100, .t 101], some (99, false)⟩,
   ⟨some 103, .load 2 true, [.t 102], some (99, false)⟩,
   ⟨some 104, .mv, [.t 0], some (99, false)⟩,
   ⟨some 105, .mv, [.t 5], some (99, false)⟩,
   ⟨some 106, .iad 2, [.t 104, .t 105], some (99, false)⟩,
   ⟨some 107, .load 2 true, [.t 106], some (99, false)⟩,
   ⟨some 108, .eqs true [.s, .i .i64], [.t 103, .t 107], some (99, false)⟩,
   ⟨some 109, .pick, [.t 99, .c (.p (.v (.bool true))), .t 108], some (90, true)⟩,
   ⟨some 110, .pick, [.t 90, .t 109, .c (.p (.v (.bool false)))], some (88, false)⟩,
   ⟨some 111, .pick, [.t 88, .c (.p (.v (.bool true))), .t 110], none⟩])
  (.cond (.t 111)
  (.seq (.reg [⟨some 2, .mv, [.c (.p (.v (.bool false)))], none⟩])
    .ret)
  .skip))))))
  (.reg [⟨some 20, .mv, [.t 5], none⟩,
   ⟨some 21, .bin .add, [.t 20, .c (.p (.v (.int .i64 1)))], none⟩,
   ⟨some 5, .mv, [.t 21], none⟩]))))))
  (.seq (.seq (.reg [⟨some 8, .mv, [.c (.p (.v (.int .i64 0)))], none⟩])
  (.block 2
  (.loop
  (.seq (.seq (.reg [⟨some 112, .mv, [.t 8], none⟩,
   ⟨some 113, .mv, [.t 3], none⟩,
   ⟨some 114, .len 0, [.t 113], none⟩,
   ⟨some 115, .bin .lss, [.t 112, .t 114], none⟩])
  (.cond (.t 115)
  .skip
  (.exit 2)))
  (.seq (.block 3
  (.seq (.reg [⟨some 119, .mv, [.t 4], none⟩,
   ⟨some 120, .mv, [.t 3], none⟩,
   ⟨some 121, .mv, [.t 8], none⟩,
   ⟨some 122, .iad 2, [.t 120, .t 121], none⟩,
   ⟨some 123, .fad 0, [.t 122], none⟩,
   ⟨some 124, .load 1 false, [.t 123], none⟩,
   ⟨some 125, .look 9 (.v (.int .i64 0)) true, [.t 119, .t 124], none⟩,
   ⟨some 118, .mv, [.t 125], none⟩,
   ⟨some 126, .ext 0, [.t 118], none⟩,
   ⟨some 127, .ext 1, [.t 118], none⟩,
   ⟨some 9, .mv, [.t 126], none⟩,
   ⟨some 10, .mv, [.t 127], none⟩])
  (.seq (.reg [⟨some 128, .mv, [.t 10], none⟩,
   ⟨some 129, .un .not, [.t 128], none⟩,
   ⟨some 130, .mv, [.t 129], none⟩,
   ⟨some 131, .mv, [.t 9], some (130, false)⟩,
   ⟨some 132, .mv, [.t 3], some (130, false)⟩,
   ⟨some 133, .mv, [.t 8], some (130, false)⟩,
   ⟨some 134, .iad 2, [.t 132, .t 133], some (130, false)⟩,
   ⟨some 135, .fad 1, [.t 134], some (130, false)⟩,
   ⟨some 136, .load 1 false, [.t 135], some (130, false)⟩,
   ⟨some 137, .bin .neq, [.t 131, .t 136], some (130, false)⟩,
   ⟨some 138, .pick, [.t 130, .c (.p (.v (.bool true))), .t 137], none⟩])
  (.cond (.t 138)
  (.seq (.reg [⟨some 2, .mv, [.c (.p (.v (.bool false)))], none⟩])
    .ret)
  .skip))))
  (.reg [⟨some 116, .mv, [.t 8], none⟩,
   ⟨some 117, .bin .add, [.t 116, .c (.p (.v (.int .i64 1)))], none⟩,
   ⟨some 8, .mv, [.t 117], none⟩]))))))
  (.seq (.reg [⟨some 139, .call 21, [], none⟩,
   ⟨some 2, .mv, [.t 139], none⟩])
  .ret))))))
theorem ret4 {ps : List PV} {p : PV} (hn : Nat.ble ps.length 140 = true) (h : (∀ q ∈ ps, q.bd) → Run Try.prog (fun e s' => (∀ id, e ≠ .exit id) ∧ ∃ ns, s'.out [.t 2] = some (p, ns)) [] c4 (S (initL 0 ps) [])) : Ret Try.prog 4 ps p :=
  ret_run Try.func4 rfl (by kernel_rfl) rfl (by kernel_rfl) (by kernel_rfl) (Nat.le_of_ble_eq_true hn) h

/-- stevedore/stevedorelaw02.TableSorts -/
def c5 : C :=
  (.seq (.reg [⟨some 4, .mv, [.c (.p (.v (.bool false)))], none⟩])
  (.seq (.seq (.reg [⟨some 15, .mv, [.t 0], none⟩,
   ⟨some 16, .len 0, [.t 15], none⟩,
   ⟨some 17, .bin .gtr, [.t 16, .c (.p (.v (.int .i64 100)))], none⟩])
  (.cond (.t 17)
  (.seq (.reg [⟨some 18, .call 21, [], none⟩,
     ⟨some 4, .mv, [.t 18], none⟩])
    .ret)
  .skip))
  (.seq (.seq (.reg [⟨some 5, .mv, [.c (.p (.v (.int .i64 0)))], none⟩])
  (.block 0
  (.loop
  (.seq (.seq (.reg [⟨some 19, .mv, [.t 5], none⟩,
   ⟨some 20, .mv, [.t 0], none⟩,
   ⟨some 21, .len 0, [.t 20], none⟩,
   ⟨some 22, .bin .lss, [.t 19, .t 21], none⟩])
  (.cond (.t 22)
  .skip
  (.exit 0)))
  (.seq (.block 1
  (.seq (.reg [⟨some 6, .mv, [.c (.p (.v (.int .i64 0)))], none⟩])
  (.block 2
  (.loop
  (.seq (.seq (.reg [⟨some 25, .mv, [.t 6], none⟩,
   ⟨some 26, .mv, [.t 5], none⟩,
   ⟨some 27, .bin .lss, [.t 25, .t 26], none⟩])
  (.cond (.t 27)
  .skip
  (.exit 2)))
  (.seq (.block 3
  (.seq (.regd [⟨some 30, .mv, [.t 0], none⟩,
   ⟨some 31, .mv, [.t 6], none⟩,
   ⟨some 32, .iad 2, [.t 30, .t 31], none⟩,
   ⟨some 33, .fad 0, [.t 32], none⟩,
   ⟨some 34, .load 1 false, [.t 33], none⟩,
   ⟨some 35, .mv, [.t 0], none⟩,
   ⟨some 36, .mv, [.t 5], none⟩,
   ⟨some 37, .iad 2, [.t 35, .t 36], none⟩,
   ⟨some 38, .fad 0, [.t 37], none⟩,
   ⟨some 39, .load 1 false, [.t 38], none⟩,
   ⟨some 40, .bin .eql, [.t 34, .t 39], none⟩])
  (.cond (.t 40)
  (.seq (.reg [⟨some 41, .call 21, [], none⟩,
     ⟨some 4, .mv, [.t 41], none⟩])
    .ret)
  .skip)))
  (.reg [⟨some 28, .mv, [.t 6], none⟩,
   ⟨some 29, .bin .add, [.t 28, .c (.p (.v (.int .i64 1)))], none⟩,
   ⟨some 6, .mv, [.t 29], none⟩])))))))
  (.reg [⟨some 23, .mv, [.t 5], none⟩,
   ⟨some 24, .bin .add, [.t 23, .c (.p (.v (.int .i64 1)))], none⟩,
   ⟨some 5, .mv, [.t 24], none⟩]))))))
  (.seq (.reg [⟨some 42, .bsl 24 2 0 [.v (.string ⟨#[]⟩), .v (.int .i64 0)] [], [], none⟩,
   ⟨some 43, .mv, [.t 0], none⟩,
   ⟨some 44, .app 24 2 24, [.t 42, .t 43], none⟩,
   ⟨some 7, .mv, [.t 44], none⟩])
  (.seq (.seq (.reg [⟨some 8, .mv, [.c (.p (.v (.int .i64 0)))], none⟩])
  (.block 4
  (.loop
  (.seq (.seq (.reg [⟨some 45, .mv, [.t 8], none⟩,
   ⟨some 46, .mv, [.t 1], none⟩,
   ⟨some 47, .len 0, [.t 46], none⟩,
   ⟨some 48, .bin .lss, [.t 45, .t 47], none⟩,
   ⟨some 49, .mv, [.t 48], none⟩,
   ⟨some 50, .mv, [.t 7], some (49, true)⟩,
   ⟨some 51, .len 0, [.t 50], some (49, true)⟩,
   ⟨some 52, .bin .gtr, [.t 51, .c (.p (.v (.int .i64 0)))], some (49, true)⟩,
   ⟨some 53, .pick, [.t 49, .t 52, .c (.p (.v (.bool false)))], none⟩])
  (.cond (.t 53)
  .skip
  (.exit 4)))
  (.seq (.block 5
  (.seq (.reg [⟨some 56, .mv, [.t 8], none⟩,
   ⟨some 57, .mv, [.t 7], none⟩,
   ⟨some 58, .len 0, [.t 57], none⟩,
   ⟨some 59, .bin .rem, [.t 56, .t 58], none⟩,
   ⟨some 9, .mv, [.t 59], none⟩])
  (.seq (.reg [⟨some 60, .mv, [.t 1], none⟩,
   ⟨some 61, .mv, [.t 8], none⟩,
   ⟨some 62, .iad 1, [.t 60, .t 61], none⟩,
   ⟨some 63, .load 1 false, [.t 62], none⟩,
   ⟨some 64, .mv, [.t 7], none⟩,
   ⟨some 65, .len 0, [.t 64], none⟩,
   ⟨some 66, .bin .rem, [.t 63, .t 65], none⟩,
   ⟨some 67, .mv, [.t 7], none⟩,
   ⟨some 68, .len 0, [.t 67], none⟩,
   ⟨some 69, .bin .add, [.t 66, .t 68], none⟩,
   ⟨some 70, .mv, [.t 7], none⟩,
   ⟨some 71, .len 0, [.t 70], none⟩,
   ⟨some 72, .bin .rem, [.t 69, .t 71], none⟩,
   ⟨some 10, .mv, [.t 72], none⟩])
  (.seq (.reg [⟨some 73, .mv, [.t 7], none⟩,
   ⟨some 74, .mv, [.t 9], none⟩,
   ⟨some 75, .iad 2, [.t 73, .t 74], none⟩,
   ⟨some 76, .load 2 true, [.t 75], none⟩,
   ⟨some 11, .alloc [.v (.string ⟨#[]⟩), .v (.int .i64 0)], [], none⟩,
   ⟨none, .store 2, [.t 11, .t 76], none⟩])
  (.seq (.reg [⟨some 77, .mv, [.t 7], none⟩,
   ⟨some 78, .mv, [.t 9], none⟩,
   ⟨some 79, .mv, [.t 7], none⟩,
   ⟨some 80, .mv, [.t 10], none⟩,
   ⟨some 81, .iad 2, [.t 79, .t 80], none⟩,
   ⟨some 82, .load 2 true, [.t 81], none⟩,
   ⟨some 83, .iad 2, [.t 77, .t 78], none⟩,
   ⟨none, .store 2, [.t 83, .t 82], none⟩])
  (.reg [⟨some 84, .mv, [.t 7], none⟩,
   ⟨some 85, .mv, [.t 10], none⟩,
   ⟨some 86, .load 2 true, [.t 11], none⟩,
   ⟨some 87, .iad 2, [.t 84, .t 85], none⟩,
   ⟨none, .store 2, [.t 87, .t 86], none⟩]))))))
  (.reg [⟨some 54, .mv, [.t 8], none⟩,
   ⟨some 55, .bin .add, [.t 54, .c (.p (.v (.int .i64 1)))], none⟩,
   ⟨some 8, .mv, [.t 55], none⟩]))))))
  (.seq (.reg [⟨some 12, .mv, [.c .nil], none⟩])
  (.seq (.reg [⟨some 13, .mv, [.c .nil], none⟩])
  (.seq (.seq (.reg [⟨some 14, .mv, [.c (.p (.v (.int .i64 0)))], none⟩])
  (.block 6
  (.loop
  (.seq (.seq (.reg [⟨some 88, .mv, [.t 14], none⟩,
   ⟨some 89, .mv, [.t 0], none⟩,
   ⟨some 90, .len 0, [.t 89], none⟩,
   ⟨some 91, .bin .lss, [.t 88, .t 90], none⟩])
  (.cond (.t 91)
  .skip
  (.exit 6)))
  (.seq (.block 7
  (.seq (.regd [⟨some 94, .call 9, [], none⟩,
   ⟨some 95, .mv, [.t 12], none⟩,
   ⟨some 96, .mv, [.t 0], none⟩,
   ⟨some 97, .mv, [.t 14], none⟩,
   ⟨some 98, .iad 2, [.t 96, .t 97], none⟩,
   ⟨some 99, .load 2 true, [.t 98], none⟩,
   ⟨some 100, .call 12, [.t 94, .t 95, .t 99], none⟩,
   ⟨some 12, .mv, [.t 100], none⟩])
  (.regd [⟨some 101, .call 9, [], none⟩,
   ⟨some 102, .mv, [.t 13], none⟩,
   ⟨some 103, .mv, [.t 7], none⟩,
   ⟨some 104, .mv, [.t 14], none⟩,
   ⟨some 105, .iad 2, [.t 103, .t 104], none⟩,
   ⟨some 106, .load 2 true, [.t 105], none⟩,
   ⟨some 107, .call 12, [.t 101, .t 102, .t 106], none⟩,
   ⟨some 13, .mv, [.t 107], none⟩])))
  (.reg [⟨some 92, .mv, [.t 14], none⟩,
   ⟨some 93, .bin .add, [.t 92, .c (.p (.v (.int .i64 1)))], none⟩,
   ⟨some 14, .mv, [.t 93], none⟩]))))))
  (.seq (.reg [⟨some 108, .mv, [.t 12], none⟩,
   ⟨some 109, .mv, [.t 13], none⟩,
   ⟨some 110, .call 17, [.t 108, .t 109], none⟩,
   ⟨some 111, .mv, [.t 110], none⟩,
   ⟨some 112, .mv, [.t 12], some (111, true)⟩,
   ⟨some 113, .len 0, [.t 112], some (111, true)⟩,
   ⟨some 114, .mv, [.t 0], some (111, true)⟩,
   ⟨some 115, .len 0, [.t 114], some (111, true)⟩,
   ⟨some 116, .bin .eql, [.t 113, .t 115], some (111, true)⟩,
   ⟨some 117, .pick, [.t 111, .t 116, .c (.p (.v (.bool false)))], none⟩,
   ⟨some 118, .mv, [.t 117], none⟩,
   ⟨some 119, .call 21, [], some (118, true)⟩,
   ⟨some 120, .pick, [.t 118, .t 119, .c (.p (.v (.bool false)))], none⟩,
   ⟨some 4, .mv, [.t 120], none⟩])
  .ret)))))))))
theorem ret5 {ps : List PV} {p : PV} (hn : Nat.ble ps.length 121 = true) (h : (∀ q ∈ ps, q.bd) → Run Try.prog (fun e s' => (∀ id, e ≠ .exit id) ∧ ∃ ns, s'.out [.t 4] = some (p, ns)) [] c5 (S (initL 0 ps) [])) : Ret Try.prog 5 ps p :=
  ret_run Try.func5 rfl (by kernel_rfl) rfl (by kernel_rfl) (by kernel_rfl) (Nat.le_of_ble_eq_true hn) h

end Go.Fw
