/-
  The code of some functions, for the abstract machine. Printed by a program (wip/tools/mkir.py).
-/
import Derived.Test.YtdmackpiohkanaaFwU
import Derived.Test.YtdmackpiohkanaaProg
import Derived.KernelRfl
set_option linter.unusedVariables false
set_option maxRecDepth 100000
namespace Go.Fw
open Go.Proofs

/-- stevedore/stevedorelaw11.RoomAdds -/
def c16 : C :=
  (.seq (.reg [⟨some 2, .box, [.t 0], none⟩,
   ⟨some 3, .box, [.t 1], none⟩,
   ⟨some 4, .mv, [.c (.p (.v (.bool false)))], none⟩])
  (.seq (.seq (.reg [⟨some 12, .load 15 true, [.t 2], none⟩,
   ⟨some 13, .call 28, [.t 12], none⟩,
   ⟨some 14, .un .not, [.t 13], none⟩])
  (.cond (.t 14)
  (.seq (.reg [⟨some 15, .call 46, [], none⟩,
     ⟨some 4, .mv, [.t 15], none⟩])
    .ret)
  .skip))
  (.seq (.seq (.reg [⟨some 5, .mv, [.c (.p (.v (.int .i64 0)))], none⟩])
  (.block 0
  (.loop
  (.seq (.seq (.reg [⟨some 16, .mv, [.t 5], none⟩,
   ⟨some 17, .fad 3, [.t 2], none⟩,
   ⟨some 18, .load 1 false, [.t 17], none⟩,
   ⟨some 19, .len 0, [.t 18], none⟩,
   ⟨some 20, .bin .lss, [.t 16, .t 19], none⟩])
  (.cond (.t 20)
  .skip
  (.exit 0)))
  (.seq (.block 1
  (.seq (.reg [⟨some 6, .mv, [.c (.p (.v (.int .i64 0)))], none⟩])
  (.block 2
  (.loop
  (.seq (.seq (.reg [⟨some 23, .mv, [.t 6], none⟩,
   ⟨some 24, .mv, [.t 5], none⟩,
   ⟨some 25, .bin .lss, [.t 23, .t 24], none⟩])
  (.cond (.t 25)
  .skip
  (.exit 2)))
  (.seq (.block 3
  (.seq (.regd [⟨some 28, .fad 3, [.t 2], none⟩,
   ⟨some 29, .load 1 false, [.t 28], none⟩,
   ⟨some 30, .mv, [.t 6], none⟩,
   ⟨some 31, .iad 8, [.t 29, .t 30], none⟩,
   ⟨some 32, .fad 0, [.t 31], none⟩,
   ⟨some 33, .load 1 false, [.t 32], none⟩,
   ⟨some 34, .fad 3, [.t 2], none⟩,
   ⟨some 35, .load 1 false, [.t 34], none⟩,
   ⟨some 36, .mv, [.t 5], none⟩,
   ⟨some 37, .iad 8, [.t 35, .t 36], none⟩,
   ⟨some 38, .fad 0, [.t 37], none⟩,
   ⟨some 39, .load 1 false, [.t 38], none⟩,
   ⟨some 40, .bin .eql, [.t 33, .t 39], none⟩])
  (.cond (.t 40)
  (.seq (.reg [⟨some 41, .call 46, [], none⟩,
     ⟨some 4, .mv, [.t 41], none⟩])
    .ret)
  .skip)))
  (.reg [⟨some 26, .mv, [.t 6], none⟩,
   ⟨some 27, .bin .add, [.t 26, .c (.p (.v (.int .i64 1)))], none⟩,
   ⟨some 6, .mv, [.t 27], none⟩])))))))
  (.reg [⟨some 21, .mv, [.t 5], none⟩,
   ⟨some 22, .bin .add, [.t 21, .c (.p (.v (.int .i64 1)))], none⟩,
   ⟨some 5, .mv, [.t 22], none⟩]))))))
  (.seq (.reg [⟨some 42, .load 15 true, [.t 2], none⟩,
   ⟨some 43, .fad 0, [.t 3], none⟩,
   ⟨some 44, .load 1 false, [.t 43], none⟩,
   ⟨some 45, .fad 1, [.t 3], none⟩,
   ⟨some 46, .load 1 false, [.t 45], none⟩,
   ⟨some 47, .fad 2, [.t 3], none⟩,
   ⟨some 48, .load 1 false, [.t 47], none⟩,
   ⟨some 49, .call 49, [.t 42, .t 44, .t 46, .t 48], none⟩,
   ⟨some 7, .mv, [.t 49], none⟩])
  (.seq (.reg [⟨some 50, .load 15 true, [.t 2], none⟩,
   ⟨some 8, .alloc [.sl [] [], .sl [] [], .sl [] [], .sl [] [], .sl [] [], .sl [] [], .sl [] [], .sl [] [], .sl [] [], .sl [] [], .sl [] [], .sl [] [], .sl [] [], .sl [] [], .v (.int .i64 0)], [], none⟩,
   ⟨none, .store 15, [.t 8, .t 50], none⟩])
  (.seq (.regs [⟨some 51, .bsl 50 6 0 [.v (.string ⟨#[]⟩), .v (.string ⟨#[]⟩), .v (.string ⟨#[]⟩), .v (.int .i64 0), .v (.int .i64 0), .v (.int .i64 0)] [], [], none⟩,
   ⟨some 52, .fad 4, [.t 2], none⟩,
   ⟨some 53, .load 1 false, [.t 52], none⟩,
   ⟨some 54, .app 50 6 72, [.t 51, .t 53], none⟩,
   ⟨some 55, .fad 0, [.t 3], none⟩,
   ⟨some 56, .load 1 false, [.t 55], none⟩,
   ⟨some 57, .fad 1, [.t 3], none⟩,
   ⟨some 58, .load 1 false, [.t 57], none⟩,
   ⟨some 59, .build [.v (.string ⟨#[]⟩), .v (.string ⟨#[]⟩), .v (.string ⟨#[]⟩), .v (.int .i64 0)] [(0, 1), (1, 1), (2, 1), (3, 1)], [.t 56, .t 58, .c (.p (.v (.string ⟨#[109, 111, 114, 101]⟩))), .c (.p (.v (.int .i64 1)))], none⟩,
   ⟨some 60, .fad 2, [.t 3], none⟩,
   ⟨some 61, .load 1 false, [.t 60], none⟩,
   ⟨some 62, .build [.v (.string ⟨#[]⟩), .v (.string ⟨#[]⟩), .v (.string ⟨#[]⟩), .v (.int .i64 0), .v (.int .i64 0), .v (.int .i64 0)] [(0, 4), (4, 1)], [.t 59, .t 61], none⟩,
   ⟨some 63, .bsl 50 6 1 [.v (.string ⟨#[]⟩), .v (.string ⟨#[]⟩), .v (.string ⟨#[]⟩), .v (.int .i64 0), .v (.int .i64 0), .v (.int .i64 0)] [0], [.t 62], none⟩,
   ⟨some 64, .app 50 6 72, [.t 54, .t 63], none⟩,
   ⟨some 65, .fad 4, [.t 8], none⟩,
   ⟨none, .store 1, [.t 65, .t 64], none⟩] [(3, 4), (3, 5), (3, 6), (3, 7), (3, 8), (3, 9), (3, 10), (3, 11), (3, 12)])
  (.seq (.reg [⟨some 66, .load 15 true, [.t 8], none⟩,
   ⟨some 67, .call 52, [.t 66], none⟩,
   ⟨some 9, .mv, [.t 67], none⟩])
  (.seq (.reg [⟨some 10, .mv, [.c (.p (.v (.bool false)))], none⟩])
  (.seq (.seq (.reg [⟨some 11, .mv, [.c (.p (.v (.int .i64 0)))], none⟩])
  (.block 4
  (.loop
  (.seq (.seq (.reg [⟨some 68, .mv, [.t 11], none⟩,
   ⟨some 69, .mv, [.t 9], none⟩,
   ⟨some 70, .len 0, [.t 69], none⟩,
   ⟨some 71, .bin .lss, [.t 68, .t 70], none⟩])
  (.cond (.t 71)
  .skip
  (.exit 4)))
  (.seq (.block 5
  (.regd [⟨some 74, .mv, [.t 10], none⟩,
   ⟨some 75, .mv, [.t 74], none⟩,
   ⟨some 76, .mv, [.t 9], some (75, false)⟩,
   ⟨some 77, .mv, [.t 11], some (75, false)⟩,
   ⟨some 78, .iad 1, [.t 76, .t 77], some (75, false)⟩,
   ⟨some 79, .load 1 false, [.t 78], some (75, false)⟩,
   ⟨some 80, .fad 0, [.t 3], some (75, false)⟩,
   ⟨some 81, .load 1 false, [.t 80], some (75, false)⟩,
   ⟨some 82, .bin .eql, [.t 79, .t 81], some (75, false)⟩,
   ⟨some 83, .pick, [.t 75, .c (.p (.v (.bool true))), .t 82], none⟩,
   ⟨some 10, .mv, [.t 83], none⟩]))
  (.reg [⟨some 72, .mv, [.t 11], none⟩,
   ⟨some 73, .bin .add, [.t 72, .c (.p (.v (.int .i64 1)))], none⟩,
   ⟨some 11, .mv, [.t 73], none⟩]))))))
  (.seq (.seq (.reg [⟨some 84, .mv, [.t 7], none⟩,
   ⟨some 85, .bin .eql, [.t 84, .c (.p (.v (.int .i64 12)))], none⟩])
  (.cond (.t 85)
  (.seq (.reg [⟨some 86, .call 46, [], none⟩,
     ⟨some 4, .mv, [.t 86], none⟩])
    .ret)
  .skip))
  (.seq (.reg [⟨some 87, .mv, [.t 7], none⟩,
   ⟨some 88, .bin .eql, [.t 87, .c (.p (.v (.int .i64 26)))], none⟩,
   ⟨some 89, .mv, [.t 10], none⟩,
   ⟨some 90, .beq false, [.t 88, .t 89], none⟩,
   ⟨some 91, .mv, [.t 90], none⟩,
   ⟨some 92, .mv, [.t 7], some (91, true)⟩,
   ⟨some 93, .bin .eql, [.t 92, .c (.p (.v (.int .i64 0)))], some (91, true)⟩,
   ⟨some 94, .mv, [.t 93], some (91, true)⟩,
   ⟨some 95, .mv, [.t 10], some (94, false)⟩,
   ⟨some 96, .pick, [.t 94, .c (.p (.v (.bool true))), .t 95], some (91, true)⟩,
   ⟨some 97, .pick, [.t 91, .t 96, .c (.p (.v (.bool false)))], none⟩,
   ⟨some 98, .mv, [.t 97], none⟩,
   ⟨some 99, .call 46, [], some (98, true)⟩,
   ⟨some 100, .pick, [.t 98, .t 99, .c (.p (.v (.bool false)))], none⟩,
   ⟨some 4, .mv, [.t 100], none⟩])
  .ret)))))))))))
theorem ret16 {ps : List PV} {p : PV} (hn : Nat.ble ps.length 101 = true) (h : (∀ q ∈ ps, q.bd) → Run Try.prog (fun e s' => (∀ id, e ≠ .exit id) ∧ ∃ ns, s'.out [.t 4] = some (p, ns)) [] c16 (S (initL 0 ps) [])) : Ret Try.prog 16 ps p :=
  ret_run Try.func16 rfl (by kernel_rfl) rfl (by kernel_rfl) (by kernel_rfl) (by kernel_rfl) (by kernel_rfl) (Nat.le_of_ble_eq_true hn) h

end Go.Fw
