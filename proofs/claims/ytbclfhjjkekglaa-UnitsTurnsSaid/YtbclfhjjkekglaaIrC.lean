/-
  The code of some functions, for the abstract machine. Printed by a program (wip/tools/mkir.py).
-/
import Derived.Test.YtbclfhjjkekglaaFwU
import Derived.Test.YtbclfhjjkekglaaProg
import Derived.KernelRfl
set_option linter.unusedVariables false
set_option maxRecDepth 100000
namespace Go.Fw
open Go.Proofs

/-- stevedore/stevedoreref08.Split -/
def c12 : C :=
  (.seq (.reg [⟨some 2, .box, [.t 0], none⟩,
   ⟨some 4, .mv, [.c .nil], none⟩])
  (.seq (.reg [⟨some 5, .mv, [.c .nil], none⟩])
  (.seq (.reg [⟨some 6, .alloc [.v (.bool false), .v (.bool false), .v (.bool false), .v (.bool false)], [], none⟩])
  (.seq (.seq (.reg [⟨some 7, .mv, [.c (.p (.v (.int .i64 0)))], none⟩])
  (.block 0
  (.loop
  (.seq (.seq (.reg [⟨some 14, .mv, [.t 7], none⟩,
   ⟨some 15, .bin .lss, [.t 14, .c (.p (.v (.int .i64 4)))], none⟩])
  (.cond (.t 15)
  .skip
  (.exit 0)))
  (.seq (.block 1
  (.seq (.reg [⟨some 8, .mv, [.c (.p (.v (.int .i64 (-1))))], none⟩])
  (.seq (.seq (.reg [⟨some 9, .mv, [.c (.p (.v (.int .i64 0)))], none⟩])
  (.block 2
  (.loop
  (.seq (.seq (.reg [⟨some 18, .mv, [.t 9], none⟩,
   ⟨some 19, .bin .lss, [.t 18, .c (.p (.v (.int .i64 4)))], none⟩])
  (.cond (.t 19)
  .skip
  (.exit 2)))
  (.seq (.block 3
  (.seq (.reg [⟨some 22, .mv, [.t 9], none⟩,
   ⟨some 23, .fad 1, [.t 2], none⟩,
   ⟨some 24, .aad 2 4, [.t 23, .t 22], none⟩,
   ⟨some 25, .load 2 true, [.t 24], none⟩,
   ⟨some 10, .alloc [.v (.string ⟨#[]⟩), .v (.int .i64 0)], [], none⟩,
   ⟨none, .store 2, [.t 10, .t 25], none⟩])
  (.seq (.reg [⟨some 26, .fad 0, [.t 10], none⟩,
   ⟨some 27, .load 1 false, [.t 26], none⟩,
   ⟨some 28, .bin .neq, [.t 27, .c (.p (.v (.string ⟨#[]⟩)))], none⟩,
   ⟨some 29, .mv, [.t 28], none⟩,
   ⟨some 30, .fad 0, [.t 10], some (29, true)⟩,
   ⟨some 31, .load 1 false, [.t 30], some (29, true)⟩,
   ⟨some 32, .bin .neq, [.t 31, .c (.p (.v (.string ⟨#[101, 97, 99, 104]⟩)))], some (29, true)⟩,
   ⟨some 33, .pick, [.t 29, .t 32, .c (.p (.v (.bool false)))], none⟩,
   ⟨some 34, .mv, [.t 33], none⟩,
   ⟨some 35, .fad 1, [.t 10], some (34, true)⟩,
   ⟨some 36, .load 1 false, [.t 35], some (34, true)⟩,
   ⟨some 37, .bin .geq, [.t 36, .c (.p (.v (.int .i64 2)))], some (34, true)⟩,
   ⟨some 38, .pick, [.t 34, .t 37, .c (.p (.v (.bool false)))], none⟩,
   ⟨some 11, .mv, [.t 38], none⟩])
  (.seq (.seq (.reg [⟨some 12, .mv, [.c (.p (.v (.int .i64 0)))], none⟩])
  (.block 4
  (.loop
  (.seq (.seq (.reg [⟨some 39, .mv, [.t 12], none⟩,
   ⟨some 40, .mv, [.t 9], none⟩,
   ⟨some 41, .bin .lss, [.t 39, .t 40], none⟩])
  (.cond (.t 41)
  .skip
  (.exit 4)))
  (.seq (.block 5
  (.seq (.regd [⟨some 44, .mv, [.t 12], none⟩,
   ⟨some 45, .fad 1, [.t 2], none⟩,
   ⟨some 46, .aad 2 4, [.t 45, .t 44], none⟩,
   ⟨some 47, .fad 0, [.t 46], none⟩,
   ⟨some 48, .load 1 false, [.t 47], none⟩,
   ⟨some 49, .fad 0, [.t 10], none⟩,
   ⟨some 50, .load 1 false, [.t 49], none⟩,
   ⟨some 51, .bin .eql, [.t 48, .t 50], none⟩,
   ⟨some 52, .mv, [.t 51], none⟩,
   ⟨some 53, .mv, [.t 12], some (52, true)⟩,
   ⟨some 54, .fad 1, [.t 2], some (52, true)⟩,
   ⟨some 55, .aad 2 4, [.t 54, .t 53], some (52, true)⟩,
   ⟨some 56, .fad 1, [.t 55], some (52, true)⟩,
   ⟨some 57, .load 1 false, [.t 56], some (52, true)⟩,
   ⟨some 58, .bin .geq, [.t 57, .c (.p (.v (.int .i64 2)))], some (52, true)⟩,
   ⟨some 59, .pick, [.t 52, .t 58, .c (.p (.v (.bool false)))], none⟩])
  (.cond (.t 59)
  (.reg [⟨some 11, .mv, [.c (.p (.v (.bool false)))], none⟩])
  .skip)))
  (.reg [⟨some 42, .mv, [.t 12], none⟩,
   ⟨some 43, .bin .add, [.t 42, .c (.p (.v (.int .i64 1)))], none⟩,
   ⟨some 12, .mv, [.t 43], none⟩]))))))
  (.seq (.regd [⟨some 60, .mv, [.t 11], none⟩,
   ⟨some 61, .mv, [.t 60], none⟩,
   ⟨some 62, .mv, [.t 9], some (61, true)⟩,
   ⟨some 63, .aad 1 4, [.t 6, .t 62], some (61, true)⟩,
   ⟨some 64, .load 1 false, [.t 63], some (61, true)⟩,
   ⟨some 65, .un .not, [.t 64], some (61, true)⟩,
   ⟨some 66, .pick, [.t 61, .t 65, .c (.p (.v (.bool false)))], none⟩,
   ⟨some 67, .mv, [.t 66], none⟩,
   ⟨some 68, .mv, [.t 8], some (67, true)⟩,
   ⟨some 69, .bin .lss, [.t 68, .c (.p (.v (.int .i64 0)))], some (67, true)⟩,
   ⟨some 70, .mv, [.t 69], some (67, true)⟩,
   ⟨some 71, .fad 1, [.t 10], some (70, false)⟩,
   ⟨some 72, .load 1 false, [.t 71], some (70, false)⟩,
   ⟨some 73, .mv, [.t 8], some (70, false)⟩,
   ⟨some 74, .fad 1, [.t 2], some (70, false)⟩,
   ⟨some 75, .aad 2 4, [.t 74, .t 73], some (70, false)⟩,
   ⟨some 76, .fad 1, [.t 75], some (70, false)⟩,
   ⟨some 77, .load 1 false, [.t 76], some (70, false)⟩,
   ⟨some 78, .bin .gtr, [.t 72, .t 77], some (70, false)⟩,
   ⟨some 79, .pick, [.t 70, .c (.p (.v (.bool true))), .t 78], some (67, true)⟩,
   ⟨some 80, .pick, [.t 67, .t 79, .c (.p (.v (.bool false)))], none⟩])
  (.cond (.t 80)
  (.reg [⟨some 81, .mv, [.t 9], none⟩,
     ⟨some 8, .mv, [.t 81], none⟩])
  .skip))))))
  (.reg [⟨some 20, .mv, [.t 9], none⟩,
   ⟨some 21, .bin .add, [.t 20, .c (.p (.v (.int .i64 1)))], none⟩,
   ⟨some 9, .mv, [.t 21], none⟩]))))))
  (.seq (.seq (.reg [⟨some 82, .mv, [.t 8], none⟩,
   ⟨some 83, .bin .lss, [.t 82, .c (.p (.v (.int .i64 0)))], none⟩])
  (.cond (.t 83)
  (.exit 0)
  .skip))
  (.seq (.reg [⟨some 84, .mv, [.t 8], none⟩,
   ⟨some 85, .aad 1 4, [.t 6, .t 84], none⟩,
   ⟨none, .store 1, [.t 85, .c (.p (.v (.bool true)))], none⟩])
  (.seq (.reg [⟨some 86, .mv, [.t 1], none⟩,
   ⟨some 87, .bmax, [.t 86, .c (.p (.v (.int .i64 0)))], none⟩,
   ⟨some 88, .mv, [.t 8], none⟩,
   ⟨some 89, .fad 1, [.t 2], none⟩,
   ⟨some 90, .aad 2 4, [.t 89, .t 88], none⟩,
   ⟨some 91, .fad 1, [.t 90], none⟩,
   ⟨some 92, .load 1 false, [.t 91], none⟩,
   ⟨some 93, .bin .quo, [.t 87, .t 92], none⟩,
   ⟨some 13, .mv, [.t 93], none⟩])
  (.seq (.reg [⟨some 94, .mv, [.t 13], none⟩,
   ⟨some 95, .bin .gtr, [.t 94, .c (.p (.v (.int .i64 0)))], none⟩])
  (.cond (.t 95)
  (.seq (.reg [⟨some 96, .mv, [.t 5], none⟩,
     ⟨some 97, .mv, [.t 8], none⟩,
     ⟨some 98, .fad 1, [.t 2], none⟩,
     ⟨some 99, .aad 2 4, [.t 98, .t 97], none⟩,
     ⟨some 100, .fad 0, [.t 99], none⟩,
     ⟨some 101, .load 1 false, [.t 100], none⟩,
     ⟨some 102, .mv, [.t 13], none⟩,
     ⟨some 103, .build [.v (.string ⟨#[]⟩), .v (.int .i64 0)] [(0, 1), (1, 1)], [.t 101, .t 102], none⟩,
     ⟨some 104, .bsl 36 2 1 [.v (.string ⟨#[]⟩), .v (.int .i64 0)] [0], [.t 103], none⟩,
     ⟨some 105, .app 36 2 24, [.t 96, .t 104], none⟩,
     ⟨some 5, .mv, [.t 105], none⟩])
    (.reg [⟨some 106, .mv, [.t 1], none⟩,
     ⟨some 107, .mv, [.t 13], none⟩,
     ⟨some 108, .mv, [.t 8], none⟩,
     ⟨some 109, .fad 1, [.t 2], none⟩,
     ⟨some 110, .aad 2 4, [.t 109, .t 108], none⟩,
     ⟨some 111, .fad 1, [.t 110], none⟩,
     ⟨some 112, .load 1 false, [.t 111], none⟩,
     ⟨some 113, .bin .mul, [.t 107, .t 112], none⟩,
     ⟨some 114, .bin .sub, [.t 106, .t 113], none⟩,
     ⟨some 1, .mv, [.t 114], none⟩]))
  .skip))))))))
  (.reg [⟨some 16, .mv, [.t 7], none⟩,
   ⟨some 17, .bin .add, [.t 16, .c (.p (.v (.int .i64 1)))], none⟩,
   ⟨some 7, .mv, [.t 17], none⟩]))))))
  (.seq (.seq (.reg [⟨some 115, .mv, [.t 1], none⟩,
   ⟨some 116, .bin .gtr, [.t 115, .c (.p (.v (.int .i64 0)))], none⟩])
  (.cond (.t 116)
  (.reg [⟨some 117, .mv, [.t 5], none⟩,
     ⟨some 118, .mv, [.t 1], none⟩,
     ⟨some 119, .build [.v (.string ⟨#[]⟩), .v (.int .i64 0)] [(0, 1), (1, 1)], [.c (.p (.v (.string ⟨#[101, 97, 99, 104]⟩))), .t 118], none⟩,
     ⟨some 120, .bsl 36 2 1 [.v (.string ⟨#[]⟩), .v (.int .i64 0)] [0], [.t 119], none⟩,
     ⟨some 121, .app 36 2 24, [.t 117, .t 120], none⟩,
     ⟨some 5, .mv, [.t 121], none⟩])
  .skip))
  (.seq (.reg [⟨some 122, .mv, [.t 5], none⟩,
   ⟨some 4, .mv, [.t 122], none⟩])
  .ret))))))
theorem ret12 {ps : List PV} {p : PV} (hn : Nat.ble ps.length 123 = true) (h : (∀ q ∈ ps, q.bd) → Run Try.prog (fun e s' => (∀ id, e ≠ .exit id) ∧ ∃ ns, s'.out [.t 4] = some (p, ns)) [] c12 (S (initL 0 ps) [])) : Ret Try.prog 12 ps p :=
  ret_run Try.func12 rfl (by kernel_rfl) rfl (by kernel_rfl) (by kernel_rfl) (by kernel_rfl) (by kernel_rfl) (Nat.le_of_ble_eq_true hn) h

theorem row12 {ps : List PV} {ty es : Nat} {zs : List (List PV)} (hn : Nat.ble ps.length 123 = true) (h : (∀ q ∈ ps, q.bd) → Run Try.prog (fun e s' => (∀ id, e ≠ .exit id) ∧ ((s'.t 4 = .nil ∧ zs = []) ∨ ∃ n, s'.t 4 = .row n zs.length ∧ s'.o n = some (.row ty es zs false))) [] c12 (S (initL 0 ps) [])) : RetN Try.prog 12 ps ty es zs :=
  retN_run Try.func12 rfl (by kernel_rfl) rfl rfl (by decide) (by kernel_rfl) (by kernel_rfl) (by kernel_rfl) (Nat.le_of_ble_eq_true hn) h

end Go.Fw
