/-
  The code of some functions, for the abstract machine. Printed by a program (wip/tools/mkir.py).
-/
import Derived.Test.YtapcollbogmpdaaFwU
import Derived.Test.YtapcollbogmpdaaProg
import Derived.KernelRfl
set_option linter.unusedVariables false
set_option maxRecDepth 100000
namespace Go.Fw
open Go.Proofs

/-- stevedore/layout.AddZone -/
def c59 : C :=
  (.seq (.reg [⟨some 2, .box, [.t 0], none⟩,
   ⟨some 3, .box, [.t 1], none⟩,
   ⟨some 4, .alloc [.sl [] [], .sl [] [], .sl [] [], .sl [] [], .sl [] [], .sl [] [], .sl [] [], .sl [] [], .sl [] [], .sl [] [], .sl [] [], .sl [] [], .sl [] [], .sl [] [], .v (.int .i64 0)], [], none⟩,
   ⟨some 5, .mv, [.c (.p (.v (.int .i64 0)))], none⟩])
  (.seq (.seq (.reg [⟨some 11, .fad 0, [.t 3], none⟩,
   ⟨some 12, .load 1 false, [.t 11], none⟩,
   ⟨some 13, .fad 1, [.t 3], none⟩,
   ⟨some 14, .load 1 false, [.t 13], none⟩,
   ⟨some 15, .bsl 9 1 2 [.v (.string ⟨#[]⟩)] [0, 1], [.t 12, .t 14], none⟩,
   ⟨some 16, .len 0, [.t 15], none⟩,
   ⟨some 17, .mv, [.c (.p (.v (.int .i64 0)))], none⟩])
  (.block 0
  (.loop
  (.seq (.reg [⟨some 18, .bin .lss, [.t 17, .t 16], none⟩])
  (.seq (.cond (.t 18)
  .skip
  (.exit 0))
  (.seq (.block 1
  (.seq (.reg [⟨some 19, .iad 1, [.t 15, .t 17], none⟩,
   ⟨some 20, .load 1 false, [.t 19], none⟩,
   ⟨some 7, .mv, [.t 20], none⟩])
  (.seq (.reg [⟨some 21, .mv, [.t 7], none⟩,
   ⟨some 22, .call 106, [.t 21], none⟩,
   ⟨some 8, .mv, [.t 22], none⟩])
  (.seq (.reg [⟨some 23, .mv, [.t 8], none⟩,
   ⟨some 24, .bin .neq, [.t 23, .c (.p (.v (.int .i64 0)))], none⟩])
  (.cond (.t 24)
  (.seq (.reg [⟨some 25, .build [.sl [] [], .sl [] [], .sl [] [], .sl [] [], .sl [] [], .sl [] [], .sl [] [], .sl [] [], .sl [] [], .sl [] [], .sl [] [], .sl [] [], .sl [] [], .sl [] [], .v (.int .i64 0)] [], [], none⟩,
     ⟨some 26, .mv, [.t 8], none⟩,
     ⟨none, .store 15, [.t 4, .t 25], none⟩,
     ⟨some 5, .mv, [.t 26], none⟩])
    .ret)
  .skip)))))
  (.reg [⟨some 27, .bin .add, [.t 17, .c (.p (.v (.int .i64 1)))], none⟩,
   ⟨some 17, .mv, [.t 27], none⟩])))))))
  (.seq (.seq (.reg [⟨some 29, .load 15 true, [.t 2], none⟩,
   ⟨some 30, .fad 0, [.t 3], none⟩,
   ⟨some 31, .load 1 false, [.t 30], none⟩,
   ⟨some 32, .call 124, [.t 29, .t 31], none⟩,
   ⟨some 28, .mv, [.t 32], none⟩,
   ⟨some 33, .ext 0, [.t 28], none⟩,
   ⟨some 34, .ext 1, [.t 28], none⟩,
   ⟨some 9, .alloc [.v (.string ⟨#[]⟩), .v (.string ⟨#[]⟩)], [], none⟩,
   ⟨none, .store 2, [.t 9, .t 33], none⟩,
   ⟨some 10, .mv, [.t 34], none⟩])
  (.seq (.reg [⟨some 35, .mv, [.t 10], none⟩])
  (.cond (.t 35)
  (.seq (.reg [⟨some 36, .build [.sl [] [], .sl [] [], .sl [] [], .sl [] [], .sl [] [], .sl [] [], .sl [] [], .sl [] [], .sl [] [], .sl [] [], .sl [] [], .sl [] [], .sl [] [], .sl [] [], .v (.int .i64 0)] [], [], none⟩,
     ⟨none, .store 15, [.t 4, .t 36], none⟩,
     ⟨some 5, .mv, [.c (.p (.v (.int .i64 11)))], none⟩])
    .ret)
  .skip)))
  (.seq (.seq (.reg [⟨some 37, .fad 2, [.t 2], none⟩,
   ⟨some 38, .load 1 false, [.t 37], none⟩,
   ⟨some 39, .len 0, [.t 38], none⟩,
   ⟨some 40, .bin .geq, [.t 39, .c (.p (.v (.int .i64 16)))], none⟩])
  (.cond (.t 40)
  (.seq (.reg [⟨some 41, .build [.sl [] [], .sl [] [], .sl [] [], .sl [] [], .sl [] [], .sl [] [], .sl [] [], .sl [] [], .sl [] [], .sl [] [], .sl [] [], .sl [] [], .sl [] [], .sl [] [], .v (.int .i64 0)] [], [], none⟩,
     ⟨none, .store 15, [.t 4, .t 41], none⟩,
     ⟨some 5, .mv, [.c (.p (.v (.int .i64 14)))], none⟩])
    .ret)
  .skip))
  (.seq (.regd [⟨some 42, .call 125, [], none⟩,
   ⟨some 43, .fad 2, [.t 2], none⟩,
   ⟨some 44, .load 1 false, [.t 43], none⟩,
   ⟨some 45, .load 2 true, [.t 3], none⟩,
   ⟨some 46, .call 126, [.t 42, .t 44, .t 45], none⟩,
   ⟨some 47, .fad 2, [.t 2], none⟩,
   ⟨none, .store 1, [.t 47, .t 46], none⟩])
  (.seq (.reg [⟨some 48, .load 15 true, [.t 2], none⟩,
   ⟨none, .store 15, [.t 4, .t 48], none⟩,
   ⟨some 5, .mv, [.c (.p (.v (.int .i64 0)))], none⟩])
  .ret))))))
theorem ret59 {ps : List PV} {p : PV} (hn : Nat.ble ps.length 49 = true) (h : (∀ q ∈ ps, q.bd) → Run Try.prog (fun e s' => (∀ id, e ≠ .exit id) ∧ ∃ ns, s'.out [.c 4 15 true, .t 5] = some (p, ns)) [] c59 (S (initL 0 ps) [])) : Ret Try.prog 59 ps p :=
  ret_run Try.func59 rfl (by kernel_rfl) rfl (by kernel_rfl) (by kernel_rfl) (by kernel_rfl) (by kernel_rfl) (Nat.le_of_ble_eq_true hn) h

/-- stevedore/stevedoreref10.AddZone -/
def c60 : C :=
  (.seq (.reg [⟨some 2, .box, [.t 0], none⟩,
   ⟨some 3, .box, [.t 1], none⟩,
   ⟨some 4, .alloc [.sl [] [], .sl [] [], .sl [] [], .sl [] [], .sl [] [], .sl [] [], .sl [] [], .sl [] [], .sl [] [], .sl [] [], .sl [] [], .sl [] [], .sl [] [], .sl [] [], .v (.int .i64 0)], [], none⟩,
   ⟨some 5, .mv, [.c (.p (.v (.int .i64 0)))], none⟩])
  (.seq (.reg [⟨some 9, .fad 0, [.t 3], none⟩,
   ⟨some 10, .load 1 false, [.t 9], none⟩,
   ⟨some 11, .call 109, [.t 10], none⟩,
   ⟨some 6, .mv, [.t 11], none⟩])
  (.seq (.seq (.reg [⟨some 12, .mv, [.t 6], none⟩,
   ⟨some 13, .bin .eql, [.t 12, .c (.p (.v (.int .i64 0)))], none⟩])
  (.cond (.t 13)
  (.reg [⟨some 14, .fad 1, [.t 3], none⟩,
     ⟨some 15, .load 1 false, [.t 14], none⟩,
     ⟨some 16, .call 109, [.t 15], none⟩,
     ⟨some 6, .mv, [.t 16], none⟩])
  .skip))
  (.seq (.reg [⟨some 18, .load 15 true, [.t 2], none⟩,
   ⟨some 19, .fad 0, [.t 3], none⟩,
   ⟨some 20, .load 1 false, [.t 19], none⟩,
   ⟨some 21, .call 69, [.t 18, .t 20], none⟩,
   ⟨some 17, .mv, [.t 21], none⟩,
   ⟨some 22, .ext 0, [.t 17], none⟩,
   ⟨some 23, .ext 1, [.t 17], none⟩,
   ⟨some 7, .alloc [.v (.string ⟨#[]⟩), .v (.string ⟨#[]⟩)], [], none⟩,
   ⟨none, .store 2, [.t 7, .t 22], none⟩,
   ⟨some 8, .mv, [.t 23], none⟩])
  (.seq (.seq (.reg [⟨some 24, .mv, [.t 6], none⟩,
   ⟨some 25, .bin .eql, [.t 24, .c (.p (.v (.int .i64 0)))], none⟩,
   ⟨some 26, .mv, [.t 25], none⟩,
   ⟨some 27, .mv, [.t 8], some (26, true)⟩,
   ⟨some 28, .pick, [.t 26, .t 27, .c (.p (.v (.bool false)))], none⟩])
  (.cond (.t 28)
  (.reg [⟨some 6, .mv, [.c (.p (.v (.int .i64 11)))], none⟩])
  .skip))
  (.seq (.seq (.reg [⟨some 29, .mv, [.t 6], none⟩,
   ⟨some 30, .bin .eql, [.t 29, .c (.p (.v (.int .i64 0)))], none⟩,
   ⟨some 31, .mv, [.t 30], none⟩,
   ⟨some 32, .fad 2, [.t 2], some (31, true)⟩,
   ⟨some 33, .load 1 false, [.t 32], some (31, true)⟩,
   ⟨some 34, .len 0, [.t 33], some (31, true)⟩,
   ⟨some 35, .bin .geq, [.t 34, .c (.p (.v (.int .i64 16)))], some (31, true)⟩,
   ⟨some 36, .pick, [.t 31, .t 35, .c (.p (.v (.bool false)))], none⟩])
  (.cond (.t 36)
  (.reg [⟨some 6, .mv, [.c (.p (.v (.int .i64 14)))], none⟩])
  .skip))
  (.seq (.seq (.reg [⟨some 37, .mv, [.t 6], none⟩,
   ⟨some 38, .bin .neq, [.t 37, .c (.p (.v (.int .i64 0)))], none⟩])
  (.cond (.t 38)
  (.seq (.reg [⟨some 39, .build [.sl [] [], .sl [] [], .sl [] [], .sl [] [], .sl [] [], .sl [] [], .sl [] [], .sl [] [], .sl [] [], .sl [] [], .sl [] [], .sl [] [], .sl [] [], .sl [] [], .v (.int .i64 0)] [], [], none⟩,
     ⟨some 40, .mv, [.t 6], none⟩,
     ⟨none, .store 15, [.t 4, .t 39], none⟩,
     ⟨some 5, .mv, [.t 40], none⟩])
    .ret)
  .skip))
  (.seq (.reg [⟨some 41, .load 15 true, [.t 2], none⟩,
   ⟨some 42, .load 2 true, [.t 3], none⟩,
   ⟨some 43, .call 127, [.t 41, .t 42], none⟩,
   ⟨none, .store 15, [.t 4, .t 43], none⟩,
   ⟨some 5, .mv, [.c (.p (.v (.int .i64 0)))], none⟩])
  .ret))))))))
theorem ret60 {ps : List PV} {p : PV} (hn : Nat.ble ps.length 44 = true) (h : (∀ q ∈ ps, q.bd) → Run Try.prog (fun e s' => (∀ id, e ≠ .exit id) ∧ ∃ ns, s'.out [.c 4 15 true, .t 5] = some (p, ns)) [] c60 (S (initL 0 ps) [])) : Ret Try.prog 60 ps p :=
  ret_run Try.func60 rfl (by kernel_rfl) rfl (by kernel_rfl) (by kernel_rfl) (by kernel_rfl) (by kernel_rfl) (Nat.le_of_ble_eq_true hn) h

/-- stevedore/layout.AddBin -/
def c61 : C :=
  (.seq (.reg [⟨some 2, .box, [.t 0], none⟩,
   ⟨some 3, .box, [.t 1], none⟩,
   ⟨some 4, .alloc [.sl [] [], .sl [] [], .sl [] [], .sl [] [], .sl [] [], .sl [] [], .sl [] [], .sl [] [], .sl [] [], .sl [] [], .sl [] [], .sl [] [], .sl [] [], .sl [] [], .v (.int .i64 0)], [], none⟩,
   ⟨some 5, .mv, [.c (.p (.v (.int .i64 0)))], none⟩])
  (.seq (.seq (.reg [⟨some 7, .load 15 true, [.t 2], none⟩,
   ⟨some 8, .load 8 true, [.t 3], none⟩,
   ⟨some 9, .call 128, [.t 7, .t 8], none⟩,
   ⟨some 6, .mv, [.t 9], none⟩])
  (.seq (.reg [⟨some 10, .mv, [.t 6], none⟩,
   ⟨some 11, .bin .neq, [.t 10, .c (.p (.v (.int .i64 0)))], none⟩])
  (.cond (.t 11)
  (.seq (.reg [⟨some 12, .build [.sl [] [], .sl [] [], .sl [] [], .sl [] [], .sl [] [], .sl [] [], .sl [] [], .sl [] [], .sl [] [], .sl [] [], .sl [] [], .sl [] [], .sl [] [], .sl [] [], .v (.int .i64 0)] [], [], none⟩,
     ⟨some 13, .mv, [.t 6], none⟩,
     ⟨none, .store 15, [.t 4, .t 12], none⟩,
     ⟨some 5, .mv, [.t 13], none⟩])
    .ret)
  .skip)))
  (.seq (.regd [⟨some 14, .call 121, [], none⟩,
   ⟨some 15, .fad 3, [.t 2], none⟩,
   ⟨some 16, .load 1 false, [.t 15], none⟩,
   ⟨some 17, .load 8 true, [.t 3], none⟩,
   ⟨some 18, .call 122, [.t 14, .t 16, .t 17], none⟩,
   ⟨some 19, .fad 3, [.t 2], none⟩,
   ⟨none, .store 1, [.t 19, .t 18], none⟩])
  (.seq (.reg [⟨some 20, .load 15 true, [.t 2], none⟩,
   ⟨none, .store 15, [.t 4, .t 20], none⟩,
   ⟨some 5, .mv, [.c (.p (.v (.int .i64 0)))], none⟩])
  .ret))))
theorem ret61 {ps : List PV} {p : PV} (hn : Nat.ble ps.length 21 = true) (h : (∀ q ∈ ps, q.bd) → Run Try.prog (fun e s' => (∀ id, e ≠ .exit id) ∧ ∃ ns, s'.out [.c 4 15 true, .t 5] = some (p, ns)) [] c61 (S (initL 0 ps) [])) : Ret Try.prog 61 ps p :=
  ret_run Try.func61 rfl (by kernel_rfl) rfl (by kernel_rfl) (by kernel_rfl) (by kernel_rfl) (by kernel_rfl) (Nat.le_of_ble_eq_true hn) h

/-- stevedore/stevedoreref10.AddBin -/
def c62 : C :=
  (.seq (.reg [⟨some 2, .box, [.t 0], none⟩,
   ⟨some 3, .box, [.t 1], none⟩,
   ⟨some 4, .alloc [.sl [] [], .sl [] [], .sl [] [], .sl [] [], .sl [] [], .sl [] [], .sl [] [], .sl [] [], .sl [] [], .sl [] [], .sl [] [], .sl [] [], .sl [] [], .sl [] [], .v (.int .i64 0)], [], none⟩,
   ⟨some 5, .mv, [.c (.p (.v (.int .i64 0)))], none⟩])
  (.seq (.reg [⟨some 11, .fad 0, [.t 3], none⟩,
   ⟨some 12, .load 1 false, [.t 11], none⟩,
   ⟨some 13, .call 109, [.t 12], none⟩,
   ⟨some 6, .mv, [.t 13], none⟩])
  (.seq (.seq (.reg [⟨some 14, .mv, [.t 6], none⟩,
   ⟨some 15, .bin .neq, [.t 14, .c (.p (.v (.int .i64 0)))], none⟩])
  (.cond (.t 15)
  (.seq (.reg [⟨some 16, .build [.sl [] [], .sl [] [], .sl [] [], .sl [] [], .sl [] [], .sl [] [], .sl [] [], .sl [] [], .sl [] [], .sl [] [], .sl [] [], .sl [] [], .sl [] [], .sl [] [], .v (.int .i64 0)] [], [], none⟩,
     ⟨some 17, .mv, [.t 6], none⟩,
     ⟨none, .store 15, [.t 4, .t 16], none⟩,
     ⟨some 5, .mv, [.t 17], none⟩])
    .ret)
  .skip))
  (.seq (.reg [⟨some 19, .load 15 true, [.t 2], none⟩,
   ⟨some 20, .fad 1, [.t 3], none⟩,
   ⟨some 21, .load 1 false, [.t 20], none⟩,
   ⟨some 22, .call 69, [.t 19, .t 21], none⟩,
   ⟨some 18, .mv, [.t 22], none⟩,
   ⟨some 23, .ext 0, [.t 18], none⟩,
   ⟨some 24, .ext 1, [.t 18], none⟩,
   ⟨some 7, .alloc [.v (.string ⟨#[]⟩), .v (.string ⟨#[]⟩)], [], none⟩,
   ⟨none, .store 2, [.t 7, .t 23], none⟩,
   ⟨some 8, .mv, [.t 24], none⟩])
  (.seq (.seq (.reg [⟨some 25, .mv, [.t 8], none⟩,
   ⟨some 26, .un .not, [.t 25], none⟩])
  (.cond (.t 26)
  (.seq (.reg [⟨some 27, .build [.sl [] [], .sl [] [], .sl [] [], .sl [] [], .sl [] [], .sl [] [], .sl [] [], .sl [] [], .sl [] [], .sl [] [], .sl [] [], .sl [] [], .sl [] [], .sl [] [], .v (.int .i64 0)] [], [], none⟩,
     ⟨none, .store 15, [.t 4, .t 27], none⟩,
     ⟨some 5, .mv, [.c (.p (.v (.int .i64 12)))], none⟩])
    .ret)
  .skip))
  (.seq (.seq (.reg [⟨some 28, .fad 2, [.t 3], none⟩,
   ⟨some 29, .load 1 false, [.t 28], none⟩,
   ⟨some 30, .bin .neq, [.t 29, .c (.p (.v (.int .i64 1)))], none⟩,
   ⟨some 31, .mv, [.t 30], none⟩,
   ⟨some 32, .fad 2, [.t 3], some (31, true)⟩,
   ⟨some 33, .load 1 false, [.t 32], some (31, true)⟩,
   ⟨some 34, .bin .neq, [.t 33, .c (.p (.v (.int .i64 2)))], some (31, true)⟩,
   ⟨some 35, .pick, [.t 31, .t 34, .c (.p (.v (.bool false)))], none⟩,
   ⟨some 36, .mv, [.t 35], none⟩,
   ⟨some 37, .fad 2, [.t 3], some (36, true)⟩,
   ⟨some 38, .load 1 false, [.t 37], some (36, true)⟩,
   ⟨some 39, .bin .neq, [.t 38, .c (.p (.v (.int .i64 3)))], some (36, true)⟩,
   ⟨some 40, .pick, [.t 36, .t 39, .c (.p (.v (.bool false)))], none⟩,
   ⟨some 41, .mv, [.t 40], none⟩,
   ⟨some 42, .fad 2, [.t 3], some (41, true)⟩,
   ⟨some 43, .load 1 false, [.t 42], some (41, true)⟩,
   ⟨some 44, .bin .neq, [.t 43, .c (.p (.v (.int .i64 4)))], some (41, true)⟩,
   ⟨some 45, .pick, [.t 41, .t 44, .c (.p (.v (.bool false)))], none⟩])
  (.cond (.t 45)
  (.seq (.reg [⟨some 46, .build [.sl [] [], .sl [] [], .sl [] [], .sl [] [], .sl [] [], .sl [] [], .sl [] [], .sl [] [], .sl [] [], .sl [] [], .sl [] [], .sl [] [], .sl [] [], .sl [] [], .v (.int .i64 0)] [], [], none⟩,
     ⟨none, .store 15, [.t 4, .t 46], none⟩,
     ⟨some 5, .mv, [.c (.p (.v (.int .i64 23)))], none⟩])
    .ret)
  .skip))
  (.seq (.seq (.reg [⟨some 47, .fad 3, [.t 3], none⟩,
   ⟨some 48, .load 1 false, [.t 47], none⟩,
   ⟨some 49, .bin .lss, [.t 48, .c (.p (.v (.int .i64 0)))], none⟩,
   ⟨some 50, .mv, [.t 49], none⟩,
   ⟨some 51, .fad 3, [.t 3], some (50, false)⟩,
   ⟨some 52, .load 1 false, [.t 51], some (50, false)⟩,
   ⟨some 53, .bin .gtr, [.t 52, .c (.p (.v (.int .i64 999)))], some (50, false)⟩,
   ⟨some 54, .pick, [.t 50, .c (.p (.v (.bool true))), .t 53], none⟩,
   ⟨some 55, .mv, [.t 54], none⟩,
   ⟨some 56, .fad 4, [.t 3], some (55, false)⟩,
   ⟨some 57, .load 1 false, [.t 56], some (55, false)⟩,
   ⟨some 58, .bin .lss, [.t 57, .c (.p (.v (.int .i64 0)))], some (55, false)⟩,
   ⟨some 59, .pick, [.t 55, .c (.p (.v (.bool true))), .t 58], none⟩,
   ⟨some 60, .mv, [.t 59], none⟩,
   ⟨some 61, .fad 4, [.t 3], some (60, false)⟩,
   ⟨some 62, .load 1 false, [.t 61], some (60, false)⟩,
   ⟨some 63, .bin .gtr, [.t 62, .c (.p (.v (.int .i64 999)))], some (60, false)⟩,
   ⟨some 64, .pick, [.t 60, .c (.p (.v (.bool true))), .t 63], none⟩,
   ⟨some 65, .mv, [.t 64], none⟩,
   ⟨some 66, .fad 5, [.t 3], some (65, false)⟩,
   ⟨some 67, .load 1 false, [.t 66], some (65, false)⟩,
   ⟨some 68, .bin .lss, [.t 67, .c (.p (.v (.int .i64 0)))], some (65, false)⟩,
   ⟨some 69, .pick, [.t 65, .c (.p (.v (.bool true))), .t 68], none⟩,
   ⟨some 70, .mv, [.t 69], none⟩,
   ⟨some 71, .fad 5, [.t 3], some (70, false)⟩,
   ⟨some 72, .load 1 false, [.t 71], some (70, false)⟩,
   ⟨some 73, .bin .gtr, [.t 72, .c (.p (.v (.int .i64 1000000000000)))], some (70, false)⟩,
   ⟨some 74, .pick, [.t 70, .c (.p (.v (.bool true))), .t 73], none⟩,
   ⟨some 75, .mv, [.t 74], none⟩,
   ⟨some 76, .fad 6, [.t 3], some (75, false)⟩,
   ⟨some 77, .load 1 false, [.t 76], some (75, false)⟩,
   ⟨some 78, .bin .lss, [.t 77, .c (.p (.v (.int .i64 0)))], some (75, false)⟩,
   ⟨some 79, .pick, [.t 75, .c (.p (.v (.bool true))), .t 78], none⟩,
   ⟨some 80, .mv, [.t 79], none⟩,
   ⟨some 81, .fad 6, [.t 3], some (80, false)⟩,
   ⟨some 82, .load 1 false, [.t 81], some (80, false)⟩,
   ⟨some 83, .bin .gtr, [.t 82, .c (.p (.v (.int .i64 1000000000000)))], some (80, false)⟩,
   ⟨some 84, .pick, [.t 80, .c (.p (.v (.bool true))), .t 83], none⟩])
  (.cond (.t 84)
  (.seq (.reg [⟨some 85, .build [.sl [] [], .sl [] [], .sl [] [], .sl [] [], .sl [] [], .sl [] [], .sl [] [], .sl [] [], .sl [] [], .sl [] [], .sl [] [], .sl [] [], .sl [] [], .sl [] [], .v (.int .i64 0)] [], [], none⟩,
     ⟨none, .store 15, [.t 4, .t 85], none⟩,
     ⟨some 5, .mv, [.c (.p (.v (.int .i64 5)))], none⟩])
    .ret)
  .skip))
  (.seq (.seq (.reg [⟨some 86, .fad 7, [.t 3], none⟩,
   ⟨some 87, .load 1 false, [.t 86], none⟩])
  (.cond (.t 87)
  (.seq (.reg [⟨some 88, .build [.sl [] [], .sl [] [], .sl [] [], .sl [] [], .sl [] [], .sl [] [], .sl [] [], .sl [] [], .sl [] [], .sl [] [], .sl [] [], .sl [] [], .sl [] [], .sl [] [], .v (.int .i64 0)] [], [], none⟩,
     ⟨none, .store 15, [.t 4, .t 88], none⟩,
     ⟨some 5, .mv, [.c (.p (.v (.int .i64 13)))], none⟩])
    .ret)
  .skip))
  (.seq (.reg [⟨some 90, .load 15 true, [.t 2], none⟩,
   ⟨some 91, .fad 0, [.t 3], none⟩,
   ⟨some 92, .load 1 false, [.t 91], none⟩,
   ⟨some 93, .call 64, [.t 90, .t 92], none⟩,
   ⟨some 89, .mv, [.t 93], none⟩,
   ⟨some 94, .ext 0, [.t 89], none⟩,
   ⟨some 95, .ext 1, [.t 89], none⟩,
   ⟨some 9, .alloc [.v (.string ⟨#[]⟩), .v (.string ⟨#[]⟩), .v (.int .i64 0), .v (.int .i64 0), .v (.int .i64 0), .v (.int .i64 0), .v (.int .i64 0), .v (.bool false)], [], none⟩,
   ⟨none, .store 8, [.t 9, .t 94], none⟩,
   ⟨some 10, .mv, [.t 95], none⟩])
  (.seq (.seq (.reg [⟨some 96, .mv, [.t 10], none⟩])
  (.cond (.t 96)
  (.seq (.reg [⟨some 97, .build [.sl [] [], .sl [] [], .sl [] [], .sl [] [], .sl [] [], .sl [] [], .sl [] [], .sl [] [], .sl [] [], .sl [] [], .sl [] [], .sl [] [], .sl [] [], .sl [] [], .v (.int .i64 0)] [], [], none⟩,
     ⟨none, .store 15, [.t 4, .t 97], none⟩,
     ⟨some 5, .mv, [.c (.p (.v (.int .i64 11)))], none⟩])
    .ret)
  .skip))
  (.seq (.seq (.reg [⟨some 98, .fad 3, [.t 2], none⟩,
   ⟨some 99, .load 1 false, [.t 98], none⟩,
   ⟨some 100, .len 0, [.t 99], none⟩,
   ⟨some 101, .bin .geq, [.t 100, .c (.p (.v (.int .i64 64)))], none⟩])
  (.cond (.t 101)
  (.seq (.reg [⟨some 102, .build [.sl [] [], .sl [] [], .sl [] [], .sl [] [], .sl [] [], .sl [] [], .sl [] [], .sl [] [], .sl [] [], .sl [] [], .sl [] [], .sl [] [], .sl [] [], .sl [] [], .v (.int .i64 0)] [], [], none⟩,
     ⟨none, .store 15, [.t 4, .t 102], none⟩,
     ⟨some 5, .mv, [.c (.p (.v (.int .i64 15)))], none⟩])
    .ret)
  .skip))
  (.seq (.reg [⟨some 103, .load 15 true, [.t 2], none⟩,
   ⟨some 104, .load 8 true, [.t 3], none⟩,
   ⟨some 105, .call 123, [.t 103, .t 104], none⟩,
   ⟨none, .store 15, [.t 4, .t 105], none⟩,
   ⟨some 5, .mv, [.c (.p (.v (.int .i64 0)))], none⟩])
  .ret))))))))))))
theorem ret62 {ps : List PV} {p : PV} (hn : Nat.ble ps.length 106 = true) (h : (∀ q ∈ ps, q.bd) → Run Try.prog (fun e s' => (∀ id, e ≠ .exit id) ∧ ∃ ns, s'.out [.c 4 15 true, .t 5] = some (p, ns)) [] c62 (S (initL 0 ps) [])) : Ret Try.prog 62 ps p :=
  ret_run Try.func62 rfl (by kernel_rfl) rfl (by kernel_rfl) (by kernel_rfl) (by kernel_rfl) (by kernel_rfl) (Nat.le_of_ble_eq_true hn) h

/-- stevedore/layout.Freeze -/
def c65 : C :=
  (.seq (.reg [⟨some 3, .box, [.t 0], none⟩,
   ⟨some 6, .alloc [.sl [] [], .sl [] [], .sl [] [], .sl [] [], .sl [] [], .sl [] [], .sl [] [], .sl [] [], .sl [] [], .sl [] [], .sl [] [], .sl [] [], .sl [] [], .sl [] [], .v (.int .i64 0)], [], none⟩,
   ⟨some 7, .mv, [.c (.p (.v (.int .i64 0)))], none⟩])
  (.seq (.reg [⟨some 11, .load 15 true, [.t 3], none⟩,
   ⟨some 12, .mv, [.t 1], none⟩,
   ⟨some 13, .call 63, [.t 11, .t 12], none⟩,
   ⟨some 10, .mv, [.t 13], none⟩,
   ⟨some 14, .ext 0, [.t 10], none⟩,
   ⟨some 15, .ext 1, [.t 10], none⟩,
   ⟨some 8, .alloc [.v (.string ⟨#[]⟩), .v (.string ⟨#[]⟩), .v (.int .i64 0), .v (.int .i64 0), .v (.int .i64 0), .v (.int .i64 0), .v (.int .i64 0), .v (.bool false)], [], none⟩,
   ⟨none, .store 8, [.t 8, .t 14], none⟩,
   ⟨some 9, .mv, [.t 15], none⟩])
  (.seq (.block 0
  (.seq (.reg [⟨some 17, .mv, [.t 9], none⟩,
   ⟨some 18, .un .not, [.t 17], none⟩,
   ⟨some 16, .mv, [.t 18], none⟩])
  (.cond (.t 16)
  (.seq (.reg [⟨some 19, .build [.sl [] [], .sl [] [], .sl [] [], .sl [] [], .sl [] [], .sl [] [], .sl [] [], .sl [] [], .sl [] [], .sl [] [], .sl [] [], .sl [] [], .sl [] [], .sl [] [], .v (.int .i64 0)] [], [], none⟩,
     ⟨none, .store 15, [.t 6, .t 19], none⟩,
     ⟨some 7, .mv, [.c (.p (.v (.int .i64 12)))], none⟩])
    .ret)
  (.seq (.reg [⟨some 21, .mv, [.t 2], none⟩,
     ⟨some 22, .mv, [.t 21], none⟩,
     ⟨some 23, .fad 7, [.t 8], some (22, true)⟩,
     ⟨some 24, .load 1 false, [.t 23], some (22, true)⟩,
     ⟨some 25, .pick, [.t 22, .t 24, .c (.p (.v (.bool false)))], none⟩,
     ⟨some 20, .mv, [.t 25], none⟩])
    (.cond (.t 20)
    (.seq (.reg [⟨some 26, .build [.sl [] [], .sl [] [], .sl [] [], .sl [] [], .sl [] [], .sl [] [], .sl [] [], .sl [] [], .sl [] [], .sl [] [], .sl [] [], .sl [] [], .sl [] [], .sl [] [], .v (.int .i64 0)] [], [], none⟩,
       ⟨none, .store 15, [.t 6, .t 26], none⟩,
       ⟨some 7, .mv, [.c (.p (.v (.int .i64 25)))], none⟩])
      .ret)
    (.seq (.reg [⟨some 28, .mv, [.t 2], none⟩,
       ⟨some 29, .fad 7, [.t 8], none⟩,
       ⟨some 30, .load 1 false, [.t 29], none⟩,
       ⟨some 31, .beq false, [.t 28, .t 30], none⟩,
       ⟨some 27, .mv, [.t 31], none⟩])
      (.cond (.t 27)
      (.seq (.reg [⟨some 32, .build [.sl [] [], .sl [] [], .sl [] [], .sl [] [], .sl [] [], .sl [] [], .sl [] [], .sl [] [], .sl [] [], .sl [] [], .sl [] [], .sl [] [], .sl [] [], .sl [] [], .v (.int .i64 0)] [], [], none⟩,
         ⟨none, .store 15, [.t 6, .t 32], none⟩,
         ⟨some 7, .mv, [.c (.p (.v (.int .i64 13)))], none⟩])
        .ret)
      .skip)))))))
  (.seq (.reg [⟨some 33, .mv, [.t 2], none⟩,
   ⟨some 34, .fad 7, [.t 8], none⟩,
   ⟨none, .store 1, [.t 34, .t 33], none⟩])
  (.seq (.regd [⟨some 35, .call 121, [], none⟩,
   ⟨some 36, .fad 3, [.t 3], none⟩,
   ⟨some 37, .load 1 false, [.t 36], none⟩,
   ⟨some 38, .load 8 true, [.t 8], none⟩,
   ⟨some 39, .call 122, [.t 35, .t 37, .t 38], none⟩,
   ⟨some 40, .fad 3, [.t 3], none⟩,
   ⟨none, .store 1, [.t 40, .t 39], none⟩])
  (.seq (.reg [⟨some 41, .load 15 true, [.t 3], none⟩,
   ⟨none, .store 15, [.t 6, .t 41], none⟩,
   ⟨some 7, .mv, [.c (.p (.v (.int .i64 0)))], none⟩])
  .ret))))))
theorem ret65 {ps : List PV} {p : PV} (hn : Nat.ble ps.length 42 = true) (h : (∀ q ∈ ps, q.bd) → Run Try.prog (fun e s' => (∀ id, e ≠ .exit id) ∧ ∃ ns, s'.out [.c 6 15 true, .t 7] = some (p, ns)) [] c65 (S (initL 0 ps) [])) : Ret Try.prog 65 ps p :=
  ret_run Try.func65 rfl (by kernel_rfl) rfl (by kernel_rfl) (by kernel_rfl) (by kernel_rfl) (by kernel_rfl) (Nat.le_of_ble_eq_true hn) h

/-- stevedore/stevedoreref10.Freeze -/
def c66 : C :=
  (.seq (.reg [⟨some 3, .box, [.t 0], none⟩,
   ⟨some 6, .alloc [.sl [] [], .sl [] [], .sl [] [], .sl [] [], .sl [] [], .sl [] [], .sl [] [], .sl [] [], .sl [] [], .sl [] [], .sl [] [], .sl [] [], .sl [] [], .sl [] [], .v (.int .i64 0)], [], none⟩,
   ⟨some 7, .mv, [.c (.p (.v (.int .i64 0)))], none⟩])
  (.seq (.reg [⟨some 11, .load 15 true, [.t 3], none⟩,
   ⟨some 12, .mv, [.t 1], none⟩,
   ⟨some 13, .call 64, [.t 11, .t 12], none⟩,
   ⟨some 10, .mv, [.t 13], none⟩,
   ⟨some 14, .ext 0, [.t 10], none⟩,
   ⟨some 15, .ext 1, [.t 10], none⟩,
   ⟨some 8, .alloc [.v (.string ⟨#[]⟩), .v (.string ⟨#[]⟩), .v (.int .i64 0), .v (.int .i64 0), .v (.int .i64 0), .v (.int .i64 0), .v (.int .i64 0), .v (.bool false)], [], none⟩,
   ⟨none, .store 8, [.t 8, .t 14], none⟩,
   ⟨some 9, .mv, [.t 15], none⟩])
  (.seq (.seq (.reg [⟨some 16, .mv, [.t 9], none⟩,
   ⟨some 17, .un .not, [.t 16], none⟩])
  (.cond (.t 17)
  (.seq (.reg [⟨some 18, .build [.sl [] [], .sl [] [], .sl [] [], .sl [] [], .sl [] [], .sl [] [], .sl [] [], .sl [] [], .sl [] [], .sl [] [], .sl [] [], .sl [] [], .sl [] [], .sl [] [], .v (.int .i64 0)] [], [], none⟩,
     ⟨none, .store 15, [.t 6, .t 18], none⟩,
     ⟨some 7, .mv, [.c (.p (.v (.int .i64 12)))], none⟩])
    .ret)
  .skip))
  (.seq (.seq (.reg [⟨some 19, .mv, [.t 2], none⟩,
   ⟨some 20, .mv, [.t 19], none⟩,
   ⟨some 21, .fad 7, [.t 8], some (20, true)⟩,
   ⟨some 22, .load 1 false, [.t 21], some (20, true)⟩,
   ⟨some 23, .pick, [.t 20, .t 22, .c (.p (.v (.bool false)))], none⟩])
  (.cond (.t 23)
  (.seq (.reg [⟨some 24, .build [.sl [] [], .sl [] [], .sl [] [], .sl [] [], .sl [] [], .sl [] [], .sl [] [], .sl [] [], .sl [] [], .sl [] [], .sl [] [], .sl [] [], .sl [] [], .sl [] [], .v (.int .i64 0)] [], [], none⟩,
     ⟨none, .store 15, [.t 6, .t 24], none⟩,
     ⟨some 7, .mv, [.c (.p (.v (.int .i64 25)))], none⟩])
    .ret)
  .skip))
  (.seq (.seq (.reg [⟨some 25, .mv, [.t 2], none⟩,
   ⟨some 26, .un .not, [.t 25], none⟩,
   ⟨some 27, .mv, [.t 26], none⟩,
   ⟨some 28, .fad 7, [.t 8], some (27, true)⟩,
   ⟨some 29, .load 1 false, [.t 28], some (27, true)⟩,
   ⟨some 30, .un .not, [.t 29], some (27, true)⟩,
   ⟨some 31, .pick, [.t 27, .t 30, .c (.p (.v (.bool false)))], none⟩])
  (.cond (.t 31)
  (.seq (.reg [⟨some 32, .build [.sl [] [], .sl [] [], .sl [] [], .sl [] [], .sl [] [], .sl [] [], .sl [] [], .sl [] [], .sl [] [], .sl [] [], .sl [] [], .sl [] [], .sl [] [], .sl [] [], .v (.int .i64 0)] [], [], none⟩,
     ⟨none, .store 15, [.t 6, .t 32], none⟩,
     ⟨some 7, .mv, [.c (.p (.v (.int .i64 13)))], none⟩])
    .ret)
  .skip))
  (.seq (.reg [⟨some 33, .mv, [.t 2], none⟩,
   ⟨some 34, .fad 7, [.t 8], none⟩,
   ⟨none, .store 1, [.t 34, .t 33], none⟩])
  (.seq (.reg [⟨some 35, .load 15 true, [.t 3], none⟩,
   ⟨some 36, .load 8 true, [.t 8], none⟩,
   ⟨some 37, .call 123, [.t 35, .t 36], none⟩,
   ⟨none, .store 15, [.t 6, .t 37], none⟩,
   ⟨some 7, .mv, [.c (.p (.v (.int .i64 0)))], none⟩])
  .ret)))))))
theorem ret66 {ps : List PV} {p : PV} (hn : Nat.ble ps.length 38 = true) (h : (∀ q ∈ ps, q.bd) → Run Try.prog (fun e s' => (∀ id, e ≠ .exit id) ∧ ∃ ns, s'.out [.c 6 15 true, .t 7] = some (p, ns)) [] c66 (S (initL 0 ps) [])) : Ret Try.prog 66 ps p :=
  ret_run Try.func66 rfl (by kernel_rfl) rfl (by kernel_rfl) (by kernel_rfl) (by kernel_rfl) (by kernel_rfl) (Nat.le_of_ble_eq_true hn) h

/-- stevedore/layout.Site -/
def c67 : C :=
  (.seq (.reg [⟨some 2, .box, [.t 0], none⟩,
   ⟨some 4, .mv, [.c (.p (.v (.string ⟨#[]⟩)))], none⟩])
  (.seq (.reg [⟨some 10, .load 15 true, [.t 2], none⟩,
   ⟨some 11, .mv, [.t 1], none⟩,
   ⟨some 12, .call 63, [.t 10, .t 11], none⟩,
   ⟨some 9, .mv, [.t 12], none⟩,
   ⟨some 13, .ext 0, [.t 9], none⟩,
   ⟨some 14, .ext 1, [.t 9], none⟩,
   ⟨some 5, .alloc [.v (.string ⟨#[]⟩), .v (.string ⟨#[]⟩), .v (.int .i64 0), .v (.int .i64 0), .v (.int .i64 0), .v (.int .i64 0), .v (.int .i64 0), .v (.bool false)], [], none⟩,
   ⟨none, .store 8, [.t 5, .t 13], none⟩,
   ⟨some 6, .mv, [.t 14], none⟩])
  (.seq (.reg [⟨some 16, .load 15 true, [.t 2], none⟩,
   ⟨some 17, .fad 1, [.t 5], none⟩,
   ⟨some 18, .load 1 false, [.t 17], none⟩,
   ⟨some 19, .call 124, [.t 16, .t 18], none⟩,
   ⟨some 15, .mv, [.t 19], none⟩,
   ⟨some 20, .ext 0, [.t 15], none⟩,
   ⟨some 21, .ext 1, [.t 15], none⟩,
   ⟨some 7, .alloc [.v (.string ⟨#[]⟩), .v (.string ⟨#[]⟩)], [], none⟩,
   ⟨none, .store 2, [.t 7, .t 20], none⟩,
   ⟨some 8, .mv, [.t 21], none⟩])
  (.seq (.seq (.reg [⟨some 22, .mv, [.t 6], none⟩,
   ⟨some 23, .un .not, [.t 22], none⟩])
  (.cond (.t 23)
  (.seq (.reg [⟨some 4, .mv, [.c (.p (.v (.string ⟨#[]⟩)))], none⟩])
    .ret)
  .skip))
  (.seq (.reg [⟨some 24, .fad 1, [.t 7], none⟩,
   ⟨some 25, .load 1 false, [.t 24], none⟩,
   ⟨some 4, .mv, [.t 25], none⟩])
  .ret)))))
theorem ret67 {ps : List PV} {p : PV} (hn : Nat.ble ps.length 26 = true) (h : (∀ q ∈ ps, q.bd) → Run Try.prog (fun e s' => (∀ id, e ≠ .exit id) ∧ ∃ ns, s'.out [.t 4] = some (p, ns)) [] c67 (S (initL 0 ps) [])) : Ret Try.prog 67 ps p :=
  ret_run Try.func67 rfl (by kernel_rfl) rfl (by kernel_rfl) (by kernel_rfl) (by kernel_rfl) (by kernel_rfl) (Nat.le_of_ble_eq_true hn) h

/-- stevedore/stevedoreref10.Site -/
def c68 : C :=
  (.seq (.reg [⟨some 2, .box, [.t 0], none⟩,
   ⟨some 4, .mv, [.c (.p (.v (.string ⟨#[]⟩)))], none⟩])
  (.seq (.reg [⟨some 10, .load 15 true, [.t 2], none⟩,
   ⟨some 11, .mv, [.t 1], none⟩,
   ⟨some 12, .call 64, [.t 10, .t 11], none⟩,
   ⟨some 9, .mv, [.t 12], none⟩,
   ⟨some 13, .ext 0, [.t 9], none⟩,
   ⟨some 14, .ext 1, [.t 9], none⟩,
   ⟨some 5, .alloc [.v (.string ⟨#[]⟩), .v (.string ⟨#[]⟩), .v (.int .i64 0), .v (.int .i64 0), .v (.int .i64 0), .v (.int .i64 0), .v (.int .i64 0), .v (.bool false)], [], none⟩,
   ⟨none, .store 8, [.t 5, .t 13], none⟩,
   ⟨some 6, .mv, [.t 14], none⟩])
  (.seq (.seq (.reg [⟨some 15, .mv, [.t 6], none⟩,
   ⟨some 16, .un .not, [.t 15], none⟩])
  (.cond (.t 16)
  (.seq (.reg [⟨some 4, .mv, [.c (.p (.v (.string ⟨#[]⟩)))], none⟩])
    .ret)
  .skip))
  (.seq (.reg [⟨some 18, .load 15 true, [.t 2], none⟩,
   ⟨some 19, .fad 1, [.t 5], none⟩,
   ⟨some 20, .load 1 false, [.t 19], none⟩,
   ⟨some 21, .call 69, [.t 18, .t 20], none⟩,
   ⟨some 17, .mv, [.t 21], none⟩,
   ⟨some 22, .ext 0, [.t 17], none⟩,
   ⟨some 23, .ext 1, [.t 17], none⟩,
   ⟨some 7, .alloc [.v (.string ⟨#[]⟩), .v (.string ⟨#[]⟩)], [], none⟩,
   ⟨none, .store 2, [.t 7, .t 22], none⟩,
   ⟨some 8, .mv, [.t 23], none⟩])
  (.seq (.reg [⟨some 24, .fad 1, [.t 7], none⟩,
   ⟨some 25, .load 1 false, [.t 24], none⟩,
   ⟨some 4, .mv, [.t 25], none⟩])
  .ret)))))
theorem ret68 {ps : List PV} {p : PV} (hn : Nat.ble ps.length 26 = true) (h : (∀ q ∈ ps, q.bd) → Run Try.prog (fun e s' => (∀ id, e ≠ .exit id) ∧ ∃ ns, s'.out [.t 4] = some (p, ns)) [] c68 (S (initL 0 ps) [])) : Ret Try.prog 68 ps p :=
  ret_run Try.func68 rfl (by kernel_rfl) rfl (by kernel_rfl) (by kernel_rfl) (by kernel_rfl) (by kernel_rfl) (Nat.le_of_ble_eq_true hn) h

/-- stevedore/layout.refuses -/
def c128 : C :=
  (.seq (.reg [⟨some 2, .box, [.t 0], none⟩,
   ⟨some 3, .box, [.t 1], none⟩,
   ⟨some 4, .mv, [.c (.p (.v (.int .i64 0)))], none⟩])
  (.seq (.seq (.reg [⟨some 10, .fad 0, [.t 3], none⟩,
   ⟨some 11, .load 1 false, [.t 10], none⟩,
   ⟨some 12, .call 106, [.t 11], none⟩,
   ⟨some 5, .mv, [.t 12], none⟩])
  (.seq (.reg [⟨some 13, .mv, [.t 5], none⟩,
   ⟨some 14, .bin .neq, [.t 13, .c (.p (.v (.int .i64 0)))], none⟩])
  (.cond (.t 14)
  (.seq (.reg [⟨some 15, .mv, [.t 5], none⟩,
     ⟨some 4, .mv, [.t 15], none⟩])
    .ret)
  .skip)))
  (.seq (.reg [⟨some 17, .load 15 true, [.t 2], none⟩,
   ⟨some 18, .fad 1, [.t 3], none⟩,
   ⟨some 19, .load 1 false, [.t 18], none⟩,
   ⟨some 20, .call 124, [.t 17, .t 19], none⟩,
   ⟨some 16, .mv, [.t 20], none⟩,
   ⟨some 21, .ext 0, [.t 16], none⟩,
   ⟨some 22, .ext 1, [.t 16], none⟩,
   ⟨some 6, .alloc [.v (.string ⟨#[]⟩), .v (.string ⟨#[]⟩)], [], none⟩,
   ⟨none, .store 2, [.t 6, .t 21], none⟩,
   ⟨some 7, .mv, [.t 22], none⟩])
  (.seq (.reg [⟨some 24, .load 15 true, [.t 2], none⟩,
   ⟨some 25, .fad 0, [.t 3], none⟩,
   ⟨some 26, .load 1 false, [.t 25], none⟩,
   ⟨some 27, .call 63, [.t 24, .t 26], none⟩,
   ⟨some 23, .mv, [.t 27], none⟩,
   ⟨some 28, .ext 0, [.t 23], none⟩,
   ⟨some 29, .ext 1, [.t 23], none⟩,
   ⟨some 8, .alloc [.v (.string ⟨#[]⟩), .v (.string ⟨#[]⟩), .v (.int .i64 0), .v (.int .i64 0), .v (.int .i64 0), .v (.int .i64 0), .v (.int .i64 0), .v (.bool false)], [], none⟩,
   ⟨none, .store 8, [.t 8, .t 28], none⟩,
   ⟨some 9, .mv, [.t 29], none⟩])
  (.seq (.block 0
  (.seq (.reg [⟨some 31, .mv, [.t 7], none⟩,
   ⟨some 32, .un .not, [.t 31], none⟩,
   ⟨some 30, .mv, [.t 32], none⟩])
  (.cond (.t 30)
  (.seq (.reg [⟨some 4, .mv, [.c (.p (.v (.int .i64 12)))], none⟩])
    .ret)
  (.seq (.reg [⟨some 34, .fad 2, [.t 3], none⟩,
     ⟨some 35, .load 1 false, [.t 34], none⟩,
     ⟨some 36, .bin .lss, [.t 35, .c (.p (.v (.int .i64 1)))], none⟩,
     ⟨some 37, .mv, [.t 36], none⟩,
     ⟨some 38, .fad 2, [.t 3], some (37, false)⟩,
     ⟨some 39, .load 1 false, [.t 38], some (37, false)⟩,
     ⟨some 40, .bin .gtr, [.t 39, .c (.p (.v (.int .i64 4)))], some (37, false)⟩,
     ⟨some 41, .pick, [.t 37, .c (.p (.v (.bool true))), .t 40], none⟩,
     ⟨some 33, .mv, [.t 41], none⟩])
    (.cond (.t 33)
    (.seq (.reg [⟨some 4, .mv, [.c (.p (.v (.int .i64 23)))], none⟩])
      .ret)
    (.seq (.reg [⟨some 43, .fad 3, [.t 3], none⟩,
       ⟨some 44, .load 1 false, [.t 43], none⟩,
       ⟨some 45, .call 164, [.t 44, .c (.p (.v (.int .i64 999)))], none⟩,
       ⟨some 46, .un .not, [.t 45], none⟩,
       ⟨some 47, .mv, [.t 46], none⟩,
       ⟨some 48, .fad 4, [.t 3], some (47, false)⟩,
       ⟨some 49, .load 1 false, [.t 48], some (47, false)⟩,
       ⟨some 50, .call 164, [.t 49, .c (.p (.v (.int .i64 999)))], some (47, false)⟩,
       ⟨some 51, .un .not, [.t 50], some (47, false)⟩,
       ⟨some 52, .pick, [.t 47, .c (.p (.v (.bool true))), .t 51], none⟩,
       ⟨some 53, .mv, [.t 52], none⟩,
       ⟨some 54, .fad 5, [.t 3], some (53, false)⟩,
       ⟨some 55, .load 1 false, [.t 54], some (53, false)⟩,
       ⟨some 56, .call 164, [.t 55, .c (.p (.v (.int .i64 1000000000000)))], some (53, false)⟩,
       ⟨some 57, .un .not, [.t 56], some (53, false)⟩,
       ⟨some 58, .pick, [.t 53, .c (.p (.v (.bool true))), .t 57], none⟩,
       ⟨some 59, .mv, [.t 58], none⟩,
       ⟨some 60, .fad 6, [.t 3], some (59, false)⟩,
       ⟨some 61, .load 1 false, [.t 60], some (59, false)⟩,
       ⟨some 62, .call 164, [.t 61, .c (.p (.v (.int .i64 1000000000000)))], some (59, false)⟩,
       ⟨some 63, .un .not, [.t 62], some (59, false)⟩,
       ⟨some 64, .pick, [.t 59, .c (.p (.v (.bool true))), .t 63], none⟩,
       ⟨some 42, .mv, [.t 64], none⟩])
      (.cond (.t 42)
      (.seq (.reg [⟨some 4, .mv, [.c (.p (.v (.int .i64 5)))], none⟩])
        .ret)
      (.seq (.reg [⟨some 66, .fad 7, [.t 3], none⟩,
         ⟨some 67, .load 1 false, [.t 66], none⟩,
         ⟨some 65, .mv, [.t 67], none⟩])
        (.cond (.t 65)
        (.seq (.reg [⟨some 4, .mv, [.c (.p (.v (.int .i64 13)))], none⟩])
          .ret)
        (.seq (.reg [⟨some 69, .mv, [.t 9], none⟩,
           ⟨some 68, .mv, [.t 69], none⟩])
          (.cond (.t 68)
          (.seq (.reg [⟨some 4, .mv, [.c (.p (.v (.int .i64 11)))], none⟩])
            .ret)
          (.seq (.reg [⟨some 71, .fad 3, [.t 2], none⟩,
             ⟨some 72, .load 1 false, [.t 71], none⟩,
             ⟨some 73, .len 0, [.t 72], none⟩,
             ⟨some 74, .bin .geq, [.t 73, .c (.p (.v (.int .i64 64)))], none⟩,
             ⟨some 70, .mv, [.t 74], none⟩])
            (.cond (.t 70)
            (.seq (.reg [⟨some 4, .mv, [.c (.p (.v (.int .i64 15)))], none⟩])
              .ret)
            .skip)))))))))))))
  (.seq (.reg [⟨some 4, .mv, [.c (.p (.v (.int .i64 0)))], none⟩])
  .ret))))))
theorem ret128 {ps : List PV} {p : PV} (hn : Nat.ble ps.length 75 = true) (h : (∀ q ∈ ps, q.bd) → Run Try.prog (fun e s' => (∀ id, e ≠ .exit id) ∧ ∃ ns, s'.out [.t 4] = some (p, ns)) [] c128 (S (initL 0 ps) [])) : Ret Try.prog 128 ps p :=
  ret_run Try.func128 rfl (by kernel_rfl) rfl (by kernel_rfl) (by kernel_rfl) (by kernel_rfl) (by kernel_rfl) (Nat.le_of_ble_eq_true hn) h

/-- stevedore/layout.within -/
def c164 : C :=
  (.seq (.reg [⟨some 4, .mv, [.c (.p (.v (.bool false)))], none⟩])
  (.seq (.reg [⟨some 5, .mv, [.t 0], none⟩,
   ⟨some 6, .bin .geq, [.t 5, .c (.p (.v (.int .i64 0)))], none⟩,
   ⟨some 7, .mv, [.t 6], none⟩,
   ⟨some 8, .mv, [.t 0], some (7, true)⟩,
   ⟨some 9, .mv, [.t 1], some (7, true)⟩,
   ⟨some 10, .bin .leq, [.t 8, .t 9], some (7, true)⟩,
   ⟨some 11, .pick, [.t 7, .t 10, .c (.p (.v (.bool false)))], none⟩,
   ⟨some 4, .mv, [.t 11], none⟩])
  .ret))
theorem ret164 {ps : List PV} {p : PV} (hn : Nat.ble ps.length 12 = true) (h : (∀ q ∈ ps, q.bd) → Run Try.prog (fun e s' => (∀ id, e ≠ .exit id) ∧ ∃ ns, s'.out [.t 4] = some (p, ns)) [] c164 (S (initL 0 ps) [])) : Ret Try.prog 164 ps p :=
  ret_run Try.func164 rfl (by kernel_rfl) rfl (by kernel_rfl) (by kernel_rfl) (by kernel_rfl) (by kernel_rfl) (Nat.le_of_ble_eq_true hn) h

end Go.Fw
