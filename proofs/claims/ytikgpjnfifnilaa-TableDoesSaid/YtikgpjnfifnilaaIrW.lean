/-
  The code of some functions, for the abstract machine. Printed by a program (wip/tools/mkir.py).
-/
import Derived.Test.YtikgpjnfifnilaaFwU
import Derived.Test.YtikgpjnfifnilaaProg
import Derived.KernelRfl
import Derived.Test.YtikgpjnfifnilaaIrT
set_option linter.unusedVariables false
set_option maxRecDepth 100000
namespace Go.Fw
open Go.Proofs

/-- stevedore/stevedorelaw02.TableDoes , both rows lent -/
def c3A : C :=
  (.seq (.reg [⟨some 3, .box, [.t 1], none⟩,
   ⟨some 4, .mv, [.c (.p (.v (.bool false)))], none⟩])
  (.seq (.reg [⟨some 20, .bsl 24 2 0 [.v (.string ⟨#[]⟩), .v (.int .i64 0)] [], [], none⟩,
   ⟨some 21, .mv, [.t 0], none⟩,
   ⟨some 22, .app 24 2 24, [.t 20, .t 21], none⟩,
   ⟨some 5, .mv, [.t 22], none⟩])
  (.seq (.reg [⟨some 23, .mv, [.t 5], none⟩,
   ⟨some 24, .build [.v (.string ⟨#[]⟩), .v (.int .i64 0)] [(0, 1)], [.c (.p (.v (.string ⟨#[98, 101, 104, 105, 110, 100]⟩)))], none⟩,
   ⟨some 25, .bsl 24 2 1 [.v (.string ⟨#[]⟩), .v (.int .i64 0)] [0], [.t 24], none⟩,
   ⟨some 26, .app 24 2 24, [.t 23, .t 25], none⟩,
   ⟨some 5, .mv, [.t 26], none⟩])
  (.seq (.reg [⟨some 27, .mv, [.t 5], none⟩,
   ⟨some 28, .mv, [.t 0], none⟩,
   ⟨some 29, .len 0, [.t 28], none⟩,
   ⟨some 30, .slc 2 false true, [.t 27, .t 29], none⟩,
   ⟨some 5, .mv, [.t 30], none⟩])
  (.seq (.regd [⟨some 32, .call 9, [], none⟩,
   ⟨some 33, .mv, [.t 5], none⟩,
   ⟨some 34, .load 2 true, [.t 3], none⟩,
   ⟨some 35, .call 10, [.t 32, .t 33, .t 34], none⟩,
   ⟨some 31, .mv, [.t 35], none⟩,
   ⟨some 36, .ext 0, [.t 31], none⟩,
   ⟨some 37, .ext 1, [.t 31], none⟩,
   ⟨some 6, .mv, [.t 36], none⟩,
   ⟨some 7, .mv, [.t 37], none⟩])
  (.seq (.reg [⟨some 39, .mv, [.t 0], none⟩,
   ⟨some 40, .load 2 true, [.t 3], none⟩,
   ⟨some 41, .call 11, [.t 39, .t 40], none⟩,
   ⟨some 38, .mv, [.t 41], none⟩,
   ⟨some 42, .ext 0, [.t 38], none⟩,
   ⟨some 43, .ext 1, [.t 38], none⟩,
   ⟨some 8, .mv, [.t 42], none⟩,
   ⟨some 9, .mv, [.t 43], none⟩])
  (.seq (.regd [⟨some 44, .call 9, [], none⟩,
   ⟨some 45, .mv, [.t 5], none⟩,
   ⟨some 46, .load 2 true, [.t 3], none⟩,
   ⟨some 47, .calln 12, [.t 44, .t 45, .t 46], none⟩,
   ⟨some 10, .mv, [.t 47], none⟩])
  (.seq (.reg [⟨some 48, .mv, [.t 0], none⟩,
   ⟨some 49, .load 2 true, [.t 3], none⟩,
   ⟨some 50, .call 13, [.t 48, .t 49], none⟩,
   ⟨some 11, .mv, [.t 50], none⟩])
  (.seq (.regd [⟨some 51, .call 9, [], none⟩,
   ⟨some 52, .mv, [.t 5], none⟩,
   ⟨some 53, .load 2 true, [.t 3], none⟩,
   ⟨some 54, .calln 14, [.t 51, .t 52, .t 53], none⟩,
   ⟨some 12, .mv, [.t 54], none⟩])
  (.seq (.reg [⟨some 55, .mv, [.t 5], none⟩,
   ⟨some 56, .mkf 16, [.t 3], none⟩,
   ⟨some 57, .calln 15, [.t 55, .t 56], none⟩,
   ⟨some 13, .mv, [.t 57], none⟩])
  (.seq (.reg [⟨some 14, .mv, [.c (.p (.v (.int .i64 0)))], none⟩])
  (.seq (.seq (.reg [⟨some 15, .mv, [.c (.p (.v (.int .i64 0)))], none⟩])
  (.block 0
  (.loop
  (.seq (.seq (.reg [⟨some 58, .mv, [.t 15], none⟩,
   ⟨some 59, .mv, [.t 0], none⟩,
   ⟨some 60, .len 0, [.t 59], none⟩,
   ⟨some 61, .bin .lss, [.t 58, .t 60], none⟩])
  (.cond (.t 61)
  .skip
  (.exit 0)))
  (.seq (.block 1
  (.seq (.regd [⟨some 64, .mv, [.t 0], none⟩,
   ⟨some 65, .mv, [.t 15], none⟩,
   ⟨some 66, .iad 2, [.t 64, .t 65], none⟩,
   ⟨some 67, .fad 1, [.t 66], none⟩,
   ⟨some 68, .load 1 false, [.t 67], none⟩,
   ⟨some 69, .fad 1, [.t 3], none⟩,
   ⟨some 70, .load 1 false, [.t 69], none⟩,
   ⟨some 71, .bin .geq, [.t 68, .t 70], none⟩])
  (.cond (.t 71)
  (.seq (.seq (.regd [⟨some 72, .mv, [.t 14], none⟩,
     ⟨some 73, .mv, [.t 13], none⟩,
     ⟨some 74, .len 0, [.t 73], none⟩,
     ⟨some 75, .bin .geq, [.t 72, .t 74], none⟩,
     ⟨some 76, .mv, [.t 75], none⟩,
     ⟨some 77, .mv, [.t 13], some (76, false)⟩,
     ⟨some 78, .mv, [.t 14], some (76, false)⟩,
     ⟨some 79, .iad 2, [.t 77, .t 78], some (76, false)⟩,
     ⟨some 80, .load 2 true, [.t 79], some (76, false)⟩,
     ⟨some 81, .mv, [.t 0], some (76, false)⟩,
     ⟨some 82, .mv, [.t 15], some (76, false)⟩,
     ⟨some 83, .iad 2, [.t 81, .t 82], some (76, false)⟩,
     ⟨some 84, .load 2 true, [.t 83], some (76, false)⟩,
     ⟨some 85, .eqs true [.s, .i .i64], [.t 80, .t 84], some (76, false)⟩,
     ⟨some 86, .pick, [.t 76, .c (.p (.v (.bool true))), .t 85], none⟩])
    (.cond (.t 86)
    (.seq (.reg [⟨some 4, .mv, [.c (.p (.v (.bool false)))], none⟩])
      .ret)
    .skip))
    (.reg [⟨some 87, .mv, [.t 14], none⟩,
     ⟨some 88, .bin .add, [.t 87, .c (.p (.v (.int .i64 1)))], none⟩,
     ⟨some 14, .mv, [.t 88], none⟩]))
  .skip)))
  (.reg [⟨some 62, .mv, [.t 15], none⟩,
   ⟨some 63, .bin .add, [.t 62, .c (.p (.v (.int .i64 1)))], none⟩,
   ⟨some 15, .mv, [.t 63], none⟩]))))))
  (.seq (.reg [⟨some 89, .mv, [.t 6], none⟩,
   ⟨some 90, .mv, [.t 8], none⟩,
   ⟨some 91, .bin .eql, [.t 89, .t 90], none⟩,
   ⟨some 92, .mv, [.t 91], none⟩,
   ⟨some 93, .mv, [.t 7], some (92, true)⟩,
   ⟨some 94, .mv, [.t 9], some (92, true)⟩,
   ⟨some 95, .beq false, [.t 93, .t 94], some (92, true)⟩,
   ⟨some 96, .pick, [.t 92, .t 95, .c (.p (.v (.bool false)))], none⟩,
   ⟨some 97, .mv, [.t 96], none⟩,
   ⟨some 98, .mv, [.t 10], some (97, true)⟩,
   ⟨some 99, .mv, [.t 11], some (97, true)⟩,
   ⟨some 100, .callu 17, [.t 98, .t 99], some (97, true)⟩,
   ⟨some 101, .pick, [.t 97, .t 100, .c (.p (.v (.bool false)))], none⟩,
   ⟨some 102, .mv, [.t 101], none⟩,
   ⟨some 103, .mv, [.t 12], some (102, true)⟩,
   ⟨some 104, .mv, [.t 0], some (102, true)⟩,
   ⟨some 105, .load 2 true, [.t 3], some (102, true)⟩,
   ⟨some 106, .call 18, [.t 104, .t 105], some (102, true)⟩,
   ⟨some 107, .callu 17, [.t 103, .t 106], some (102, true)⟩,
   ⟨some 108, .pick, [.t 102, .t 107, .c (.p (.v (.bool false)))], none⟩,
   ⟨some 109, .mv, [.t 108], none⟩,
   ⟨some 110, .mv, [.t 14], some (109, true)⟩,
   ⟨some 111, .mv, [.t 13], some (109, true)⟩,
   ⟨some 112, .len 0, [.t 111], some (109, true)⟩,
   ⟨some 113, .bin .eql, [.t 110, .t 112], some (109, true)⟩,
   ⟨some 114, .pick, [.t 109, .t 113, .c (.p (.v (.bool false)))], none⟩,
   ⟨some 115, .mv, [.t 114], none⟩,
   ⟨some 116, .call 9, [], some (115, true)⟩,
   ⟨some 117, .mv, [.t 5], some (115, true)⟩,
   ⟨some 118, .call 19, [.t 116, .t 117], some (115, true)⟩,
   ⟨some 119, .mv, [.t 0], some (115, true)⟩,
   ⟨some 120, .call 20, [.t 119], some (115, true)⟩,
   ⟨some 121, .beq false, [.t 118, .t 120], some (115, true)⟩,
   ⟨some 122, .pick, [.t 115, .t 121, .c (.p (.v (.bool false)))], none⟩,
   ⟨some 123, .mv, [.t 122], none⟩,
   ⟨some 124, .mv, [.t 5], some (123, true)⟩,
   ⟨some 125, .mv, [.t 0], some (123, true)⟩,
   ⟨some 126, .call 17, [.t 124, .t 125], some (123, true)⟩,
   ⟨some 127, .pick, [.t 123, .t 126, .c (.p (.v (.bool false)))], none⟩,
   ⟨some 16, .mv, [.t 127], none⟩])
  (.seq (.seq (.reg [⟨some 17, .mv, [.c (.p (.v (.int .i64 0)))], none⟩])
  (.block 2
  (.loop
  (.seq (.seq (.reg [⟨some 128, .mv, [.t 17], none⟩,
   ⟨some 129, .mv, [.t 10], none⟩,
   ⟨some 130, .len 0, [.t 129], none⟩,
   ⟨some 131, .bin .lss, [.t 128, .t 130], none⟩])
  (.cond (.t 131)
  .skip
  (.exit 2)))
  (.seq (.block 3
  (.reg [⟨some 134, .mv, [.t 10], none⟩,
   ⟨some 135, .mv, [.t 17], none⟩,
   ⟨some 136, .build [.v (.string ⟨#[]⟩), .v (.int .i64 0)] [(0, 1)], [.c (.p (.v (.string ⟨#[119, 114, 105, 116, 116, 101, 110]⟩)))], none⟩,
   ⟨some 137, .iad 2, [.t 134, .t 135], none⟩,
   ⟨none, .store 2, [.t 137, .t 136], none⟩]))
  (.reg [⟨some 132, .mv, [.t 17], none⟩,
   ⟨some 133, .bin .add, [.t 132, .c (.p (.v (.int .i64 1)))], none⟩,
   ⟨some 17, .mv, [.t 133], none⟩]))))))
  (.seq (.seq (.reg [⟨some 18, .mv, [.c (.p (.v (.int .i64 0)))], none⟩])
  (.block 4
  (.loop
  (.seq (.seq (.reg [⟨some 138, .mv, [.t 18], none⟩,
   ⟨some 139, .mv, [.t 12], none⟩,
   ⟨some 140, .len 0, [.t 139], none⟩,
   ⟨some 141, .bin .lss, [.t 138, .t 140], none⟩])
  (.cond (.t 141)
  .skip
  (.exit 4)))
  (.seq (.block 5
  (.reg [⟨some 144, .mv, [.t 12], none⟩,
   ⟨some 145, .mv, [.t 18], none⟩,
   ⟨some 146, .build [.v (.string ⟨#[]⟩), .v (.int .i64 0)] [(0, 1)], [.c (.p (.v (.string ⟨#[119, 114, 105, 116, 116, 101, 110]⟩)))], none⟩,
   ⟨some 147, .iad 2, [.t 144, .t 145], none⟩,
   ⟨none, .store 2, [.t 147, .t 146], none⟩]))
  (.reg [⟨some 142, .mv, [.t 18], none⟩,
   ⟨some 143, .bin .add, [.t 142, .c (.p (.v (.int .i64 1)))], none⟩,
   ⟨some 18, .mv, [.t 143], none⟩]))))))
  (.seq (.seq (.reg [⟨some 19, .mv, [.c (.p (.v (.int .i64 0)))], none⟩])
  (.block 6
  (.loop
  (.seq (.seq (.reg [⟨some 148, .mv, [.t 19], none⟩,
   ⟨some 149, .mv, [.t 13], none⟩,
   ⟨some 150, .len 0, [.t 149], none⟩,
   ⟨some 151, .bin .lss, [.t 148, .t 150], none⟩])
  (.cond (.t 151)
  .skip
  (.exit 6)))
  (.seq (.block 7
  (.reg [⟨some 154, .mv, [.t 13], none⟩,
   ⟨some 155, .mv, [.t 19], none⟩,
   ⟨some 156, .build [.v (.string ⟨#[]⟩), .v (.int .i64 0)] [(0, 1)], [.c (.p (.v (.string ⟨#[119, 114, 105, 116, 116, 101, 110]⟩)))], none⟩,
   ⟨some 157, .iad 2, [.t 154, .t 155], none⟩,
   ⟨none, .store 2, [.t 157, .t 156], none⟩]))
  (.reg [⟨some 152, .mv, [.t 19], none⟩,
   ⟨some 153, .bin .add, [.t 152, .c (.p (.v (.int .i64 1)))], none⟩,
   ⟨some 19, .mv, [.t 153], none⟩]))))))
  (.seq (.reg [⟨some 158, .mv, [.t 16], none⟩,
   ⟨some 159, .mv, [.t 158], none⟩,
   ⟨some 160, .mv, [.t 5], some (159, true)⟩,
   ⟨some 161, .mv, [.t 0], some (159, true)⟩,
   ⟨some 162, .call 17, [.t 160, .t 161], some (159, true)⟩,
   ⟨some 163, .pick, [.t 159, .t 162, .c (.p (.v (.bool false)))], none⟩,
   ⟨some 164, .mv, [.t 163], none⟩,
   ⟨some 165, .mv, [.t 5], some (164, true)⟩,
   ⟨some 166, .mv, [.t 0], some (164, true)⟩,
   ⟨some 167, .len 0, [.t 166], some (164, true)⟩,
   ⟨some 168, .bin .add, [.t 167, .c (.p (.v (.int .i64 1)))], some (164, true)⟩,
   ⟨some 169, .slc 2 false true, [.t 165, .t 168], some (164, true)⟩,
   ⟨some 170, .mv, [.t 0], some (164, true)⟩,
   ⟨some 171, .len 0, [.t 170], some (164, true)⟩,
   ⟨some 172, .iad 2, [.t 169, .t 171], some (164, true)⟩,
   ⟨some 173, .fad 0, [.t 172], some (164, true)⟩,
   ⟨some 174, .load 1 false, [.t 173], some (164, true)⟩,
   ⟨some 175, .bin .eql, [.t 174, .c (.p (.v (.string ⟨#[98, 101, 104, 105, 110, 100]⟩)))], some (164, true)⟩,
   ⟨some 176, .pick, [.t 164, .t 175, .c (.p (.v (.bool false)))], none⟩,
   ⟨some 177, .mv, [.t 176], none⟩,
   ⟨some 178, .call 21, [], some (177, true)⟩,
   ⟨some 179, .pick, [.t 177, .t 178, .c (.p (.v (.bool false)))], none⟩,
   ⟨some 4, .mv, [.t 179], none⟩])
  .ret)))))))))))))))))
theorem ret3A {ps : List PV} {p : PV} (hn : Nat.ble ps.length 180 = true) (h : (∀ q ∈ ps, q.bd) → Run Try.prog (fun e s' => (∀ id, e ≠ .exit id) ∧ ∃ ns, s'.out [.t 4] = some (p, ns)) [] c3A (S (initL 0 ps) [])) : Ret Try.prog 3 ps p :=
  ret_run Try.func3 rfl (by kernel_rfl) rfl (by kernel_rfl) (by kernel_rfl) (by kernel_rfl) (by kernel_rfl) (Nat.le_of_ble_eq_true hn) h

/-- stevedore/stevedorelaw02.TableDoes , one row lent -/
def c3B : C :=
  (.seq (.reg [⟨some 3, .box, [.t 1], none⟩,
   ⟨some 4, .mv, [.c (.p (.v (.bool false)))], none⟩])
  (.seq (.reg [⟨some 20, .bsl 24 2 0 [.v (.string ⟨#[]⟩), .v (.int .i64 0)] [], [], none⟩,
   ⟨some 21, .mv, [.t 0], none⟩,
   ⟨some 22, .app 24 2 24, [.t 20, .t 21], none⟩,
   ⟨some 5, .mv, [.t 22], none⟩])
  (.seq (.reg [⟨some 23, .mv, [.t 5], none⟩,
   ⟨some 24, .build [.v (.string ⟨#[]⟩), .v (.int .i64 0)] [(0, 1)], [.c (.p (.v (.string ⟨#[98, 101, 104, 105, 110, 100]⟩)))], none⟩,
   ⟨some 25, .bsl 24 2 1 [.v (.string ⟨#[]⟩), .v (.int .i64 0)] [0], [.t 24], none⟩,
   ⟨some 26, .app 24 2 24, [.t 23, .t 25], none⟩,
   ⟨some 5, .mv, [.t 26], none⟩])
  (.seq (.reg [⟨some 27, .mv, [.t 5], none⟩,
   ⟨some 28, .mv, [.t 0], none⟩,
   ⟨some 29, .len 0, [.t 28], none⟩,
   ⟨some 30, .slc 2 false true, [.t 27, .t 29], none⟩,
   ⟨some 5, .mv, [.t 30], none⟩])
  (.seq (.regd [⟨some 32, .call 9, [], none⟩,
   ⟨some 33, .mv, [.t 5], none⟩,
   ⟨some 34, .load 2 true, [.t 3], none⟩,
   ⟨some 35, .call 10, [.t 32, .t 33, .t 34], none⟩,
   ⟨some 31, .mv, [.t 35], none⟩,
   ⟨some 36, .ext 0, [.t 31], none⟩,
   ⟨some 37, .ext 1, [.t 31], none⟩,
   ⟨some 6, .mv, [.t 36], none⟩,
   ⟨some 7, .mv, [.t 37], none⟩])
  (.seq (.reg [⟨some 39, .mv, [.t 0], none⟩,
   ⟨some 40, .load 2 true, [.t 3], none⟩,
   ⟨some 41, .call 11, [.t 39, .t 40], none⟩,
   ⟨some 38, .mv, [.t 41], none⟩,
   ⟨some 42, .ext 0, [.t 38], none⟩,
   ⟨some 43, .ext 1, [.t 38], none⟩,
   ⟨some 8, .mv, [.t 42], none⟩,
   ⟨some 9, .mv, [.t 43], none⟩])
  (.seq (.regd [⟨some 44, .call 9, [], none⟩,
   ⟨some 45, .mv, [.t 5], none⟩,
   ⟨some 46, .load 2 true, [.t 3], none⟩,
   ⟨some 47, .calln 12, [.t 44, .t 45, .t 46], none⟩,
   ⟨some 10, .mv, [.t 47], none⟩])
  (.seq (.reg [⟨some 48, .mv, [.t 0], none⟩,
   ⟨some 49, .load 2 true, [.t 3], none⟩,
   ⟨some 50, .call 13, [.t 48, .t 49], none⟩,
   ⟨some 11, .mv, [.t 50], none⟩])
  (.seq (.regd [⟨some 51, .call 9, [], none⟩,
   ⟨some 52, .mv, [.t 5], none⟩,
   ⟨some 53, .load 2 true, [.t 3], none⟩,
   ⟨some 54, .calln 14, [.t 51, .t 52, .t 53], none⟩,
   ⟨some 12, .mv, [.t 54], none⟩])
  (.seq (.reg [⟨some 55, .mv, [.t 5], none⟩,
   ⟨some 56, .mkf 16, [.t 3], none⟩,
   ⟨some 57, .calln 15, [.t 55, .t 56], none⟩,
   ⟨some 13, .mv, [.t 57], none⟩])
  (.seq (.reg [⟨some 14, .mv, [.c (.p (.v (.int .i64 0)))], none⟩])
  (.seq (.seq (.reg [⟨some 15, .mv, [.c (.p (.v (.int .i64 0)))], none⟩])
  (.block 0
  (.loop
  (.seq (.seq (.reg [⟨some 58, .mv, [.t 15], none⟩,
   ⟨some 59, .mv, [.t 0], none⟩,
   ⟨some 60, .len 0, [.t 59], none⟩,
   ⟨some 61, .bin .lss, [.t 58, .t 60], none⟩])
  (.cond (.t 61)
  .skip
  (.exit 0)))
  (.seq (.block 1
  (.seq (.regd [⟨some 64, .mv, [.t 0], none⟩,
   ⟨some 65, .mv, [.t 15], none⟩,
   ⟨some 66, .iad 2, [.t 64, .t 65], none⟩,
   ⟨some 67, .fad 1, [.t 66], none⟩,
   ⟨some 68, .load 1 false, [.t 67], none⟩,
   ⟨some 69, .fad 1, [.t 3], none⟩,
   ⟨some 70, .load 1 false, [.t 69], none⟩,
   ⟨some 71, .bin .geq, [.t 68, .t 70], none⟩])
  (.cond (.t 71)
  (.seq (.seq (.regd [⟨some 72, .mv, [.t 14], none⟩,
     ⟨some 73, .mv, [.t 13], none⟩,
     ⟨some 74, .len 0, [.t 73], none⟩,
     ⟨some 75, .bin .geq, [.t 72, .t 74], none⟩,
     ⟨some 76, .mv, [.t 75], none⟩,
     ⟨some 77, .mv, [.t 13], some (76, false)⟩,
     ⟨some 78, .mv, [.t 14], some (76, false)⟩,
     ⟨some 79, .iad 2, [.t 77, .t 78], some (76, false)⟩,
     ⟨some 80, .load 2 true, [.t 79], some (76, false)⟩,
     ⟨some 81, .mv, [.t 0], some (76, false)⟩,
     ⟨some 82, .mv, [.t 15], some (76, false)⟩,
     ⟨some 83, .iad 2, [.t 81, .t 82], some (76, false)⟩,
     ⟨some 84, .load 2 true, [.t 83], some (76, false)⟩,
     ⟨some 85, .eqs true [.s, .i .i64], [.t 80, .t 84], some (76, false)⟩,
     ⟨some 86, .pick, [.t 76, .c (.p (.v (.bool true))), .t 85], none⟩])
    (.cond (.t 86)
    (.seq (.reg [⟨some 4, .mv, [.c (.p (.v (.bool false)))], none⟩])
      .ret)
    .skip))
    (.reg [⟨some 87, .mv, [.t 14], none⟩,
     ⟨some 88, .bin .add, [.t 87, .c (.p (.v (.int .i64 1)))], none⟩,
     ⟨some 14, .mv, [.t 88], none⟩]))
  .skip)))
  (.reg [⟨some 62, .mv, [.t 15], none⟩,
   ⟨some 63, .bin .add, [.t 62, .c (.p (.v (.int .i64 1)))], none⟩,
   ⟨some 15, .mv, [.t 63], none⟩]))))))
  (.seq (.reg [⟨some 89, .mv, [.t 6], none⟩,
   ⟨some 90, .mv, [.t 8], none⟩,
   ⟨some 91, .bin .eql, [.t 89, .t 90], none⟩,
   ⟨some 92, .mv, [.t 91], none⟩,
   ⟨some 93, .mv, [.t 7], some (92, true)⟩,
   ⟨some 94, .mv, [.t 9], some (92, true)⟩,
   ⟨some 95, .beq false, [.t 93, .t 94], some (92, true)⟩,
   ⟨some 96, .pick, [.t 92, .t 95, .c (.p (.v (.bool false)))], none⟩,
   ⟨some 97, .mv, [.t 96], none⟩,
   ⟨some 98, .mv, [.t 10], some (97, true)⟩,
   ⟨some 99, .mv, [.t 11], some (97, true)⟩,
   ⟨some 100, .callu 17, [.t 98, .t 99], some (97, true)⟩,
   ⟨some 101, .pick, [.t 97, .t 100, .c (.p (.v (.bool false)))], none⟩,
   ⟨some 102, .mv, [.t 101], none⟩,
   ⟨some 103, .mv, [.t 12], some (102, true)⟩,
   ⟨some 104, .mv, [.t 0], some (102, true)⟩,
   ⟨some 105, .load 2 true, [.t 3], some (102, true)⟩,
   ⟨some 106, .call 18, [.t 104, .t 105], some (102, true)⟩,
   ⟨some 107, .call 17, [.t 103, .t 106], some (102, true)⟩,
   ⟨some 108, .pick, [.t 102, .t 107, .c (.p (.v (.bool false)))], none⟩,
   ⟨some 109, .mv, [.t 108], none⟩,
   ⟨some 110, .mv, [.t 14], some (109, true)⟩,
   ⟨some 111, .mv, [.t 13], some (109, true)⟩,
   ⟨some 112, .len 0, [.t 111], some (109, true)⟩,
   ⟨some 113, .bin .eql, [.t 110, .t 112], some (109, true)⟩,
   ⟨some 114, .pick, [.t 109, .t 113, .c (.p (.v (.bool false)))], none⟩,
   ⟨some 115, .mv, [.t 114], none⟩,
   ⟨some 116, .call 9, [], some (115, true)⟩,
   ⟨some 117, .mv, [.t 5], some (115, true)⟩,
   ⟨some 118, .call 19, [.t 116, .t 117], some (115, true)⟩,
   ⟨some 119, .mv, [.t 0], some (115, true)⟩,
   ⟨some 120, .call 20, [.t 119], some (115, true)⟩,
   ⟨some 121, .beq false, [.t 118, .t 120], some (115, true)⟩,
   ⟨some 122, .pick, [.t 115, .t 121, .c (.p (.v (.bool false)))], none⟩,
   ⟨some 123, .mv, [.t 122], none⟩,
   ⟨some 124, .mv, [.t 5], some (123, true)⟩,
   ⟨some 125, .mv, [.t 0], some (123, true)⟩,
   ⟨some 126, .call 17, [.t 124, .t 125], some (123, true)⟩,
   ⟨some 127, .pick, [.t 123, .t 126, .c (.p (.v (.bool false)))], none⟩,
   ⟨some 16, .mv, [.t 127], none⟩])
  (.seq (.seq (.reg [⟨some 17, .mv, [.c (.p (.v (.int .i64 0)))], none⟩])
  (.block 2
  (.loop
  (.seq (.seq (.reg [⟨some 128, .mv, [.t 17], none⟩,
   ⟨some 129, .mv, [.t 10], none⟩,
   ⟨some 130, .len 0, [.t 129], none⟩,
   ⟨some 131, .bin .lss, [.t 128, .t 130], none⟩])
  (.cond (.t 131)
  .skip
  (.exit 2)))
  (.seq (.block 3
  (.reg [⟨some 134, .mv, [.t 10], none⟩,
   ⟨some 135, .mv, [.t 17], none⟩,
   ⟨some 136, .build [.v (.string ⟨#[]⟩), .v (.int .i64 0)] [(0, 1)], [.c (.p (.v (.string ⟨#[119, 114, 105, 116, 116, 101, 110]⟩)))], none⟩,
   ⟨some 137, .iad 2, [.t 134, .t 135], none⟩,
   ⟨none, .store 2, [.t 137, .t 136], none⟩]))
  (.reg [⟨some 132, .mv, [.t 17], none⟩,
   ⟨some 133, .bin .add, [.t 132, .c (.p (.v (.int .i64 1)))], none⟩,
   ⟨some 17, .mv, [.t 133], none⟩]))))))
  (.seq (.seq (.reg [⟨some 18, .mv, [.c (.p (.v (.int .i64 0)))], none⟩])
  (.block 4
  (.loop
  (.seq (.seq (.reg [⟨some 138, .mv, [.t 18], none⟩,
   ⟨some 139, .mv, [.t 12], none⟩,
   ⟨some 140, .len 0, [.t 139], none⟩,
   ⟨some 141, .bin .lss, [.t 138, .t 140], none⟩])
  (.cond (.t 141)
  .skip
  (.exit 4)))
  (.seq (.block 5
  (.reg [⟨some 144, .mv, [.t 12], none⟩,
   ⟨some 145, .mv, [.t 18], none⟩,
   ⟨some 146, .build [.v (.string ⟨#[]⟩), .v (.int .i64 0)] [(0, 1)], [.c (.p (.v (.string ⟨#[119, 114, 105, 116, 116, 101, 110]⟩)))], none⟩,
   ⟨some 147, .iad 2, [.t 144, .t 145], none⟩,
   ⟨none, .store 2, [.t 147, .t 146], none⟩]))
  (.reg [⟨some 142, .mv, [.t 18], none⟩,
   ⟨some 143, .bin .add, [.t 142, .c (.p (.v (.int .i64 1)))], none⟩,
   ⟨some 18, .mv, [.t 143], none⟩]))))))
  (.seq (.seq (.reg [⟨some 19, .mv, [.c (.p (.v (.int .i64 0)))], none⟩])
  (.block 6
  (.loop
  (.seq (.seq (.reg [⟨some 148, .mv, [.t 19], none⟩,
   ⟨some 149, .mv, [.t 13], none⟩,
   ⟨some 150, .len 0, [.t 149], none⟩,
   ⟨some 151, .bin .lss, [.t 148, .t 150], none⟩])
  (.cond (.t 151)
  .skip
  (.exit 6)))
  (.seq (.block 7
  (.reg [⟨some 154, .mv, [.t 13], none⟩,
   ⟨some 155, .mv, [.t 19], none⟩,
   ⟨some 156, .build [.v (.string ⟨#[]⟩), .v (.int .i64 0)] [(0, 1)], [.c (.p (.v (.string ⟨#[119, 114, 105, 116, 116, 101, 110]⟩)))], none⟩,
   ⟨some 157, .iad 2, [.t 154, .t 155], none⟩,
   ⟨none, .store 2, [.t 157, .t 156], none⟩]))
  (.reg [⟨some 152, .mv, [.t 19], none⟩,
   ⟨some 153, .bin .add, [.t 152, .c (.p (.v (.int .i64 1)))], none⟩,
   ⟨some 19, .mv, [.t 153], none⟩]))))))
  (.seq (.reg [⟨some 158, .mv, [.t 16], none⟩,
   ⟨some 159, .mv, [.t 158], none⟩,
   ⟨some 160, .mv, [.t 5], some (159, true)⟩,
   ⟨some 161, .mv, [.t 0], some (159, true)⟩,
   ⟨some 162, .call 17, [.t 160, .t 161], some (159, true)⟩,
   ⟨some 163, .pick, [.t 159, .t 162, .c (.p (.v (.bool false)))], none⟩,
   ⟨some 164, .mv, [.t 163], none⟩,
   ⟨some 165, .mv, [.t 5], some (164, true)⟩,
   ⟨some 166, .mv, [.t 0], some (164, true)⟩,
   ⟨some 167, .len 0, [.t 166], some (164, true)⟩,
   ⟨some 168, .bin .add, [.t 167, .c (.p (.v (.int .i64 1)))], some (164, true)⟩,
   ⟨some 169, .slc 2 false true, [.t 165, .t 168], some (164, true)⟩,
   ⟨some 170, .mv, [.t 0], some (164, true)⟩,
   ⟨some 171, .len 0, [.t 170], some (164, true)⟩,
   ⟨some 172, .iad 2, [.t 169, .t 171], some (164, true)⟩,
   ⟨some 173, .fad 0, [.t 172], some (164, true)⟩,
   ⟨some 174, .load 1 false, [.t 173], some (164, true)⟩,
   ⟨some 175, .bin .eql, [.t 174, .c (.p (.v (.string ⟨#[98, 101, 104, 105, 110, 100]⟩)))], some (164, true)⟩,
   ⟨some 176, .pick, [.t 164, .t 175, .c (.p (.v (.bool false)))], none⟩,
   ⟨some 177, .mv, [.t 176], none⟩,
   ⟨some 178, .call 21, [], some (177, true)⟩,
   ⟨some 179, .pick, [.t 177, .t 178, .c (.p (.v (.bool false)))], none⟩,
   ⟨some 4, .mv, [.t 179], none⟩])
  .ret)))))))))))))))))
theorem ret3B {ps : List PV} {p : PV} (hn : Nat.ble ps.length 180 = true) (h : (∀ q ∈ ps, q.bd) → Run Try.prog (fun e s' => (∀ id, e ≠ .exit id) ∧ ∃ ns, s'.out [.t 4] = some (p, ns)) [] c3B (S (initL 0 ps) [])) : Ret Try.prog 3 ps p :=
  ret_run Try.func3 rfl (by kernel_rfl) rfl (by kernel_rfl) (by kernel_rfl) (by kernel_rfl) (by kernel_rfl) (Nat.le_of_ble_eq_true hn) h

theorem lentv17 {ps : List PV} {ty es : Nat} {xs zs : List (List PV)} {x : Value} (hn : Nat.ble (ps.length + 1) 26 = true) (hzl : zs.length = xs.length) (hx : xs ≠ []) (hlv : ∀ p ∈ zs.flatten, ∃ x, p = .v x) (h : Run Try.prog (fun e s' => (∀ id, e ≠ .exit id) ∧ ∃ fz, s'.t 4 = .p (.v x) ∧ s'.o LN = some (.row ty es zs fz)) [] c17 (S ((0, .row LN xs.length) :: initL 1 ps) [(LN, some (.row ty es xs false))])) : RetU Try.prog 17 ty es xs ps zs (.v x) :=
  retUv_run Try.func17 rfl (by kernel_rfl) rfl rfl (by decide) (by kernel_rfl) (by kernel_rfl) (by kernel_rfl) (Nat.le_of_ble_eq_true hn) hzl hx hlv h

end Go.Fw
