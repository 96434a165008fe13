/-
  The code of some functions, for the abstract machine. Printed by a program (wip/tools/mkir.py).
-/
import Derived.Test.YtghhmkogooancaaGreatFwU
import Derived.Test.YtghhmkogooancaaGreatProg
import Derived.KernelRfl
set_option linter.unusedVariables false
set_option maxRecDepth 100000
namespace Go.Fw
open Go.Proofs

/-- stevedore/stevedorelaw21.CountsTrue -/
def c4 : C :=
  (.seq (.reg [⟨some 3, .box, [.t 0], none⟩,
  ⟨some 6, .mv, [.c (.p (.v (.bool false)))], none⟩])
 (.seq (.seq (.reg [⟨some 23, .load 15 true, [.t 3], none⟩,
  ⟨some 24, .call 9, [.t 23], none⟩,
  ⟨some 25, .un .not, [.t 24], none⟩,
  ⟨some 26, .mv, [.t 25], none⟩,
  ⟨some 27, .load 15 true, [.t 3], some (26, false)⟩,
  ⟨some 28, .call 22, [.t 27], some (26, false)⟩,
  ⟨some 29, .un .not, [.t 28], some (26, false)⟩,
  ⟨some 30, .pick, [.t 26, .c (.p (.v (.bool true))), .t 29], none⟩])
 (.cond (.t 30)
 (.seq (.reg [⟨some 31, .call 10, [], none⟩,
  ⟨some 6, .mv, [.t 31], none⟩])
 .ret)
 .skip))
 (.seq (.reg [⟨some 33, .load 15 true, [.t 3], none⟩,
  ⟨some 34, .mv, [.t 1], none⟩,
  ⟨some 35, .mv, [.t 2], none⟩,
  ⟨some 36, .call 17, [.t 33, .t 34, .t 35], none⟩,
  ⟨some 32, .mv, [.t 36], none⟩,
  ⟨some 37, .ext 0, [.t 32], none⟩,
  ⟨some 38, .ext 1, [.t 32], none⟩,
  ⟨some 7, .alloc [.sl [] [], .sl [] [], .sl [] [], .sl [] [], .sl [] [], .sl [] [], .sl [] [], .sl [] [], .sl [] [], .sl [] [], .sl [] [], .sl [] [], .sl [] [], .sl [] [], .v (.int .i64 0)], [], none⟩,
  ⟨none, .store 15, [.t 7, .t 37], none⟩,
  ⟨some 8, .mv, [.t 38], none⟩])
 (.seq (.seq (.reg [⟨some 39, .mv, [.t 8], none⟩,
  ⟨some 40, .bin .neq, [.t 39, .c (.p (.v (.int .i64 0)))], none⟩])
 (.cond (.t 40)
 (.seq (.reg [⟨some 41, .fad 3, [.t 7], none⟩,
  ⟨some 42, .load 1 false, [.t 41], none⟩,
  ⟨some 43, .len 0, [.t 42], none⟩,
  ⟨some 44, .bin .eql, [.t 43, .c (.p (.v (.int .i64 0)))], none⟩,
  ⟨some 45, .mv, [.t 44], none⟩,
  ⟨some 46, .call 10, [], some (45, true)⟩,
  ⟨some 47, .pick, [.t 45, .t 46, .c (.p (.v (.bool false)))], none⟩,
  ⟨some 6, .mv, [.t 47], none⟩])
 .ret)
 .skip))
 (.seq (.seq (.reg [⟨some 48, .load 15 true, [.t 7], none⟩,
  ⟨some 49, .call 22, [.t 48], none⟩,
  ⟨some 50, .un .not, [.t 49], none⟩])
 (.cond (.t 50)
 (.seq (.reg [⟨some 6, .mv, [.c (.p (.v (.bool false)))], none⟩])
 .ret)
 .skip))
 (.seq (.reg [⟨some 52, .load 15 true, [.t 7], none⟩,
  ⟨some 53, .mv, [.t 1], none⟩,
  ⟨some 54, .call 23, [.t 52, .t 53], none⟩,
  ⟨some 51, .mv, [.t 54], none⟩,
  ⟨some 55, .ext 0, [.t 51], none⟩,
  ⟨some 56, .ext 1, [.t 51], none⟩,
  ⟨some 9, .alloc [.v (.string ⟨#[]⟩), .v (.string ⟨#[]⟩), .v (.int .i64 0), .v (.int .i64 0), .v (.int .i64 0), .v (.int .i64 0), .v (.int .i64 0), .v (.bool false)], [], none⟩,
  ⟨none, .store 8, [.t 9, .t 55], none⟩,
  ⟨some 10, .mv, [.t 56], none⟩])
 (.seq (.reg [⟨some 58, .load 15 true, [.t 7], none⟩,
  ⟨some 59, .mv, [.t 1], none⟩,
  ⟨some 60, .call 24, [.t 58, .t 59], none⟩,
  ⟨some 57, .mv, [.t 60], none⟩,
  ⟨some 61, .ext 0, [.t 57], none⟩,
  ⟨some 62, .ext 1, [.t 57], none⟩,
  ⟨some 11, .mv, [.t 61], none⟩,
  ⟨some 12, .mv, [.t 62], none⟩])
 (.seq (.seq (.reg [⟨some 63, .mv, [.t 11], none⟩,
  ⟨some 64, .fad 5, [.t 9], none⟩,
  ⟨some 65, .load 1 false, [.t 64], none⟩,
  ⟨some 66, .bin .gtr, [.t 63, .t 65], none⟩,
  ⟨some 67, .mv, [.t 66], none⟩,
  ⟨some 68, .mv, [.t 12], some (67, false)⟩,
  ⟨some 69, .fad 6, [.t 9], some (67, false)⟩,
  ⟨some 70, .load 1 false, [.t 69], some (67, false)⟩,
  ⟨some 71, .bin .gtr, [.t 68, .t 70], some (67, false)⟩,
  ⟨some 72, .pick, [.t 67, .c (.p (.v (.bool true))), .t 71], none⟩])
 (.cond (.t 72)
 (.seq (.reg [⟨some 6, .mv, [.c (.p (.v (.bool false)))], none⟩])
 .ret)
 .skip))
 (.seq (.seq (.reg [⟨some 13, .mv, [.c (.p (.v (.int .i64 0)))], none⟩])
 (.block 0
 (.loop
 (.seq (.seq (.reg [⟨some 73, .mv, [.t 13], none⟩,
  ⟨some 74, .fad 12, [.t 3], none⟩,
  ⟨some 75, .load 1 false, [.t 74], none⟩,
  ⟨some 76, .len 0, [.t 75], none⟩,
  ⟨some 77, .bin .lss, [.t 73, .t 76], none⟩])
 (.cond (.t 77)
 .skip
 (.exit 0)))
 (.seq (.block 1
 (.seq (.reg [⟨some 80, .fad 12, [.t 3], none⟩,
  ⟨some 81, .load 1 false, [.t 80], none⟩,
  ⟨some 82, .mv, [.t 13], none⟩,
  ⟨some 83, .iad 5, [.t 81, .t 82], none⟩,
  ⟨some 84, .load 5 true, [.t 83], none⟩,
  ⟨some 14, .alloc [.v (.string ⟨#[]⟩), .v (.string ⟨#[]⟩), .v (.string ⟨#[]⟩), .v (.int .i64 0), .v (.int .i64 0)], [], none⟩,
  ⟨none, .store 5, [.t 14, .t 84], none⟩])
 (.seq (.seq (.reg [⟨some 85, .fad 0, [.t 14], none⟩,
  ⟨some 86, .fad 0, [.t 85], none⟩,
  ⟨some 87, .load 1 false, [.t 86], none⟩,
  ⟨some 88, .mv, [.t 1], none⟩,
  ⟨some 89, .bin .neq, [.t 87, .t 88], none⟩])
 (.cond (.t 89)
 (.exit 1)
 .skip))
 (.seq (.reg [⟨some 91, .load 15 true, [.t 7], none⟩,
  ⟨some 92, .fad 0, [.t 14], none⟩,
  ⟨some 93, .load 4 true, [.t 92], none⟩,
  ⟨some 94, .call 25, [.t 91, .t 93], none⟩,
  ⟨some 90, .mv, [.t 94], none⟩,
  ⟨some 95, .ext 0, [.t 90], none⟩,
  ⟨some 96, .ext 1, [.t 90], none⟩,
  ⟨some 15, .alloc [.v (.string ⟨#[]⟩), .v (.string ⟨#[]⟩), .v (.string ⟨#[]⟩), .v (.int .i64 0), .v (.int .i64 0), .v (.int .i64 0)], [], none⟩,
  ⟨none, .store 6, [.t 15, .t 95], none⟩,
  ⟨some 16, .mv, [.t 96], none⟩])
 (.seq (.regd [⟨some 97, .mv, [.t 16], none⟩,
  ⟨some 98, .fad 4, [.t 14], none⟩,
  ⟨some 99, .load 1 false, [.t 98], none⟩,
  ⟨some 100, .bin .gtr, [.t 99, .c (.p (.v (.int .i64 0)))], none⟩,
  ⟨some 101, .beq true, [.t 97, .t 100], none⟩,
  ⟨some 102, .mv, [.t 101], none⟩,
  ⟨some 103, .fad 4, [.t 15], some (102, false)⟩,
  ⟨some 104, .load 1 false, [.t 103], some (102, false)⟩,
  ⟨some 105, .fad 4, [.t 14], some (102, false)⟩,
  ⟨some 106, .load 1 false, [.t 105], some (102, false)⟩,
  ⟨some 107, .bin .neq, [.t 104, .t 106], some (102, false)⟩,
  ⟨some 108, .pick, [.t 102, .c (.p (.v (.bool true))), .t 107], none⟩,
  ⟨some 109, .mv, [.t 108], none⟩,
  ⟨some 110, .load 15 true, [.t 7], some (109, false)⟩,
  ⟨some 111, .fad 0, [.t 14], some (109, false)⟩,
  ⟨some 112, .fad 1, [.t 111], some (109, false)⟩,
  ⟨some 113, .load 1 false, [.t 112], some (109, false)⟩,
  ⟨some 114, .fad 0, [.t 14], some (109, false)⟩,
  ⟨some 115, .fad 2, [.t 114], some (109, false)⟩,
  ⟨some 116, .load 1 false, [.t 115], some (109, false)⟩,
  ⟨some 117, .call 26, [.t 110, .t 113, .t 116], some (109, false)⟩,
  ⟨some 118, .load 15 true, [.t 3], some (109, false)⟩,
  ⟨some 119, .fad 0, [.t 14], some (109, false)⟩,
  ⟨some 120, .fad 1, [.t 119], some (109, false)⟩,
  ⟨some 121, .load 1 false, [.t 120], some (109, false)⟩,
  ⟨some 122, .fad 0, [.t 14], some (109, false)⟩,
  ⟨some 123, .fad 2, [.t 122], some (109, false)⟩,
  ⟨some 124, .load 1 false, [.t 123], some (109, false)⟩,
  ⟨some 125, .call 26, [.t 118, .t 121, .t 124], some (109, false)⟩,
  ⟨some 126, .bin .neq, [.t 117, .t 125], some (109, false)⟩,
  ⟨some 127, .pick, [.t 109, .c (.p (.v (.bool true))), .t 126], none⟩])
 (.cond (.t 127)
 (.seq (.reg [⟨some 6, .mv, [.c (.p (.v (.bool false)))], none⟩])
 .ret)
 .skip))))))
 (.reg [⟨some 78, .mv, [.t 13], none⟩,
  ⟨some 79, .bin .add, [.t 78, .c (.p (.v (.int .i64 1)))], none⟩,
  ⟨some 13, .mv, [.t 79], none⟩]))))))
 (.seq (.seq (.reg [⟨some 17, .mv, [.c (.p (.v (.int .i64 0)))], none⟩])
 (.block 2
 (.loop
 (.seq (.seq (.reg [⟨some 128, .mv, [.t 17], none⟩,
  ⟨some 129, .fad 4, [.t 3], none⟩,
  ⟨some 130, .load 1 false, [.t 129], none⟩,
  ⟨some 131, .len 0, [.t 130], none⟩,
  ⟨some 132, .bin .lss, [.t 128, .t 131], none⟩])
 (.cond (.t 132)
 .skip
 (.exit 2)))
 (.seq (.block 3
 (.seq (.reg [⟨some 135, .fad 4, [.t 3], none⟩,
  ⟨some 136, .load 1 false, [.t 135], none⟩,
  ⟨some 137, .mv, [.t 17], none⟩,
  ⟨some 138, .iad 6, [.t 136, .t 137], none⟩,
  ⟨some 139, .load 6 true, [.t 138], none⟩,
  ⟨some 18, .alloc [.v (.string ⟨#[]⟩), .v (.string ⟨#[]⟩), .v (.string ⟨#[]⟩), .v (.int .i64 0), .v (.int .i64 0), .v (.int .i64 0)], [], none⟩,
  ⟨none, .store 6, [.t 18, .t 139], none⟩])
 (.seq (.reg [⟨some 19, .mv, [.c (.p (.v (.bool false)))], none⟩])
 (.seq (.seq (.reg [⟨some 20, .mv, [.c (.p (.v (.int .i64 0)))], none⟩])
 (.block 4
 (.loop
 (.seq (.seq (.reg [⟨some 140, .mv, [.t 20], none⟩,
  ⟨some 141, .fad 12, [.t 3], none⟩,
  ⟨some 142, .load 1 false, [.t 141], none⟩,
  ⟨some 143, .len 0, [.t 142], none⟩,
  ⟨some 144, .bin .lss, [.t 140, .t 143], none⟩])
 (.cond (.t 144)
 .skip
 (.exit 4)))
 (.seq (.block 5
 (.regd [⟨some 147, .mv, [.t 19], none⟩,
  ⟨some 148, .mv, [.t 147], none⟩,
  ⟨some 149, .fad 12, [.t 3], some (148, false)⟩,
  ⟨some 150, .load 1 false, [.t 149], some (148, false)⟩,
  ⟨some 151, .mv, [.t 20], some (148, false)⟩,
  ⟨some 152, .iad 5, [.t 150, .t 151], some (148, false)⟩,
  ⟨some 153, .fad 0, [.t 152], some (148, false)⟩,
  ⟨some 154, .load 4 true, [.t 153], some (148, false)⟩,
  ⟨some 155, .fad 0, [.t 18], some (148, false)⟩,
  ⟨some 156, .load 4 true, [.t 155], some (148, false)⟩,
  ⟨some 157, .eqs false [.s, .s, .s, .i .i64], [.t 154, .t 156], some (148, false)⟩,
  ⟨some 158, .mv, [.t 157], some (148, false)⟩,
  ⟨some 159, .fad 0, [.t 18], some (158, true)⟩,
  ⟨some 160, .fad 0, [.t 159], some (158, true)⟩,
  ⟨some 161, .load 1 false, [.t 160], some (158, true)⟩,
  ⟨some 162, .mv, [.t 1], some (158, true)⟩,
  ⟨some 163, .bin .eql, [.t 161, .t 162], some (158, true)⟩,
  ⟨some 164, .pick, [.t 158, .t 163, .c (.p (.v (.bool false)))], some (148, false)⟩,
  ⟨some 165, .pick, [.t 148, .c (.p (.v (.bool true))), .t 164], none⟩,
  ⟨some 19, .mv, [.t 165], none⟩]))
 (.reg [⟨some 145, .mv, [.t 20], none⟩,
  ⟨some 146, .bin .add, [.t 145, .c (.p (.v (.int .i64 1)))], none⟩,
  ⟨some 20, .mv, [.t 146], none⟩]))))))
 (.seq (.reg [⟨some 167, .load 15 true, [.t 7], none⟩,
  ⟨some 168, .fad 0, [.t 18], none⟩,
  ⟨some 169, .load 4 true, [.t 168], none⟩,
  ⟨some 170, .call 25, [.t 167, .t 169], none⟩,
  ⟨some 166, .mv, [.t 170], none⟩,
  ⟨some 171, .ext 0, [.t 166], none⟩,
  ⟨some 172, .ext 1, [.t 166], none⟩,
  ⟨some 21, .alloc [.v (.string ⟨#[]⟩), .v (.string ⟨#[]⟩), .v (.string ⟨#[]⟩), .v (.int .i64 0), .v (.int .i64 0), .v (.int .i64 0)], [], none⟩,
  ⟨none, .store 6, [.t 21, .t 171], none⟩,
  ⟨some 22, .mv, [.t 172], none⟩])
 (.seq (.regd [⟨some 173, .mv, [.t 19], none⟩,
  ⟨some 174, .un .not, [.t 173], none⟩,
  ⟨some 175, .mv, [.t 174], none⟩,
  ⟨some 176, .mv, [.t 22], some (175, true)⟩,
  ⟨some 177, .un .not, [.t 176], some (175, true)⟩,
  ⟨some 178, .mv, [.t 177], some (175, true)⟩,
  ⟨some 179, .load 6 true, [.t 21], some (178, false)⟩,
  ⟨some 180, .load 6 true, [.t 18], some (178, false)⟩,
  ⟨some 181, .eqs true [.s, .s, .s, .i .i64, .i .i64, .i .i64], [.t 179, .t 180], some (178, false)⟩,
  ⟨some 182, .pick, [.t 178, .c (.p (.v (.bool true))), .t 181], some (175, true)⟩,
  ⟨some 183, .pick, [.t 175, .t 182, .c (.p (.v (.bool false)))], none⟩,
  ⟨some 184, .mv, [.t 183], none⟩,
  ⟨some 185, .load 15 true, [.t 7], some (184, false)⟩,
  ⟨some 186, .fad 0, [.t 18], some (184, false)⟩,
  ⟨some 187, .fad 1, [.t 186], some (184, false)⟩,
  ⟨some 188, .load 1 false, [.t 187], some (184, false)⟩,
  ⟨some 189, .fad 0, [.t 18], some (184, false)⟩,
  ⟨some 190, .fad 2, [.t 189], some (184, false)⟩,
  ⟨some 191, .load 1 false, [.t 190], some (184, false)⟩,
  ⟨some 192, .call 26, [.t 185, .t 188, .t 191], some (184, false)⟩,
  ⟨some 193, .load 15 true, [.t 3], some (184, false)⟩,
  ⟨some 194, .fad 0, [.t 18], some (184, false)⟩,
  ⟨some 195, .fad 1, [.t 194], some (184, false)⟩,
  ⟨some 196, .load 1 false, [.t 195], some (184, false)⟩,
  ⟨some 197, .fad 0, [.t 18], some (184, false)⟩,
  ⟨some 198, .fad 2, [.t 197], some (184, false)⟩,
  ⟨some 199, .load 1 false, [.t 198], some (184, false)⟩,
  ⟨some 200, .call 26, [.t 193, .t 196, .t 199], some (184, false)⟩,
  ⟨some 201, .bin .neq, [.t 192, .t 200], some (184, false)⟩,
  ⟨some 202, .pick, [.t 184, .c (.p (.v (.bool true))), .t 201], none⟩])
 (.cond (.t 202)
 (.seq (.reg [⟨some 6, .mv, [.c (.p (.v (.bool false)))], none⟩])
 .ret)
 .skip)))))))
 (.reg [⟨some 133, .mv, [.t 17], none⟩,
  ⟨some 134, .bin .add, [.t 133, .c (.p (.v (.int .i64 1)))], none⟩,
  ⟨some 17, .mv, [.t 134], none⟩]))))))
 (.seq (.reg [⟨some 203, .mv, [.t 10], none⟩,
  ⟨some 204, .mv, [.t 203], none⟩,
  ⟨some 205, .fad 7, [.t 9], some (204, true)⟩,
  ⟨some 206, .load 1 false, [.t 205], some (204, true)⟩,
  ⟨some 207, .un .not, [.t 206], some (204, true)⟩,
  ⟨some 208, .pick, [.t 204, .t 207, .c (.p (.v (.bool false)))], none⟩,
  ⟨some 209, .mv, [.t 208], none⟩,
  ⟨some 210, .call 10, [], some (209, true)⟩,
  ⟨some 211, .pick, [.t 209, .t 210, .c (.p (.v (.bool false)))], none⟩,
  ⟨some 6, .mv, [.t 211], none⟩])
 .ret)))))))))))
theorem ret4 {ps : List PV} {p : PV} (hn : Nat.ble ps.length 212 = true) (h : (∀ q ∈ ps, q.bd) → Run Tryz.prog (fun e s' => (∀ id, e ≠ .exit id) ∧ ∃ ns, s'.out [.t 6] = some (p, ns)) [] c4 (S (initL 0 ps) [])) : Ret Tryz.prog 4 ps p :=
  ret_run Tryz.func4 rfl (by kernel_rfl) rfl (by kernel_rfl) (by kernel_rfl) (by kernel_rfl) (by kernel_rfl) (Nat.le_of_ble_eq_true hn) h

end Go.Fw
