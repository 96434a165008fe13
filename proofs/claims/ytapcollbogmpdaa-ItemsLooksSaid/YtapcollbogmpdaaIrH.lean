/-
  The code of some functions, for the abstract machine. Printed by a program (wip/tools/mkir.py).
-/
import Derived.Test.YtapcollbogmpdaaFwU
import Derived.Test.YtapcollbogmpdaaProg
import Derived.KernelRfl
set_option linter.unusedVariables false
set_option maxRecDepth 100000
namespace Go.Fw
open Go.Proofs

/-- stevedore/stevedorelaw07.awake -/
def c34 : C :=
  (.seq (.reg [⟨some 0, .mv, [.c (.p (.v (.bool false)))], none⟩])
  (.seq (.reg [⟨some 7, .call 73, [], none⟩,
   ⟨some 1, .alloc [.v (.string ⟨#[]⟩), .v (.string ⟨#[]⟩), .v (.int .i64 0), .v (.string ⟨#[]⟩), .v (.int .i64 0), .v (.string ⟨#[]⟩), .v (.int .i64 0), .v (.string ⟨#[]⟩), .v (.int .i64 0), .v (.int .i64 0), .v (.int .i64 0), .v (.bool false), .v (.bool false), .v (.bool false)], [], none⟩,
   ⟨none, .store 14, [.t 1, .t 7], none⟩])
  (.seq (.reg [⟨some 8, .fad 1, [.t 1], none⟩,
   ⟨some 9, .aad 2 4, [.t 8, .c (.p (.v (.int .i64 1)))], none⟩,
   ⟨some 10, .fad 0, [.t 9], none⟩,
   ⟨none, .store 1, [.t 10, .c (.p (.v (.string ⟨#[98, 111, 120]⟩)))], none⟩])
  (.seq (.reg [⟨some 11, .call 73, [], none⟩,
   ⟨some 2, .alloc [.v (.string ⟨#[]⟩), .v (.string ⟨#[]⟩), .v (.int .i64 0), .v (.string ⟨#[]⟩), .v (.int .i64 0), .v (.string ⟨#[]⟩), .v (.int .i64 0), .v (.string ⟨#[]⟩), .v (.int .i64 0), .v (.int .i64 0), .v (.int .i64 0), .v (.bool false), .v (.bool false), .v (.bool false)], [], none⟩,
   ⟨none, .store 14, [.t 2, .t 11], none⟩])
  (.seq (.reg [⟨some 12, .fad 1, [.t 2], none⟩,
   ⟨some 13, .aad 2 4, [.t 12, .c (.p (.v (.int .i64 0)))], none⟩,
   ⟨some 14, .fad 0, [.t 13], none⟩,
   ⟨none, .store 1, [.t 14, .c (.p (.v (.string ⟨#[101, 97, 99, 104]⟩)))], none⟩])
  (.seq (.reg [⟨some 16, .build [.sl [] [], .sl [] [], .sl [] [], .sl [] [], .sl [] [], .sl [] [], .sl [] [], .sl [] [], .sl [] [], .sl [] [], .sl [] [], .sl [] [], .sl [] [], .sl [] [], .v (.int .i64 0)] [], [], none⟩,
   ⟨some 17, .call 73, [], none⟩,
   ⟨some 18, .call 36, [.t 16, .t 17], none⟩,
   ⟨some 15, .mv, [.t 18], none⟩,
   ⟨some 19, .ext 0, [.t 15], none⟩,
   ⟨some 20, .ext 1, [.t 15], none⟩,
   ⟨some 3, .alloc [.sl [] [], .sl [] [], .sl [] [], .sl [] [], .sl [] [], .sl [] [], .sl [] [], .sl [] [], .sl [] [], .sl [] [], .sl [] [], .sl [] [], .sl [] [], .sl [] [], .v (.int .i64 0)], [], none⟩,
   ⟨none, .store 15, [.t 3, .t 19], none⟩,
   ⟨some 4, .mv, [.t 20], none⟩])
  (.seq (.reg [⟨some 22, .load 15 true, [.t 3], none⟩,
   ⟨some 23, .call 38, [.t 22, .c (.p (.v (.string ⟨#[110, 117, 116]⟩)))], none⟩,
   ⟨some 21, .mv, [.t 23], none⟩,
   ⟨some 24, .ext 0, [.t 21], none⟩,
   ⟨some 25, .ext 1, [.t 21], none⟩,
   ⟨some 5, .alloc [.v (.string ⟨#[]⟩), .v (.string ⟨#[]⟩), .v (.int .i64 0), .v (.string ⟨#[]⟩), .v (.int .i64 0), .v (.string ⟨#[]⟩), .v (.int .i64 0), .v (.string ⟨#[]⟩), .v (.int .i64 0), .v (.int .i64 0), .v (.int .i64 0), .v (.bool false), .v (.bool false), .v (.bool false)], [], none⟩,
   ⟨none, .store 14, [.t 5, .t 24], none⟩,
   ⟨some 6, .mv, [.t 25], none⟩])
  (.seq (.regd [⟨some 26, .mv, [.t 4], none⟩,
   ⟨some 27, .bin .eql, [.t 26, .c (.p (.v (.int .i64 0)))], none⟩,
   ⟨some 28, .mv, [.t 27], none⟩,
   ⟨some 29, .mv, [.t 6], some (28, true)⟩,
   ⟨some 30, .pick, [.t 28, .t 29, .c (.p (.v (.bool false)))], none⟩,
   ⟨some 31, .mv, [.t 30], none⟩,
   ⟨some 32, .load 14 true, [.t 5], some (31, true)⟩,
   ⟨some 33, .call 73, [], some (31, true)⟩,
   ⟨some 34, .eqs false [.s, .s, .i .i64, .s, .i .i64, .s, .i .i64, .s, .i .i64, .i .i64, .i .i64, .b, .b, .b], [.t 32, .t 33], some (31, true)⟩,
   ⟨some 35, .pick, [.t 31, .t 34, .c (.p (.v (.bool false)))], none⟩,
   ⟨some 36, .mv, [.t 35], none⟩,
   ⟨some 37, .load 14 true, [.t 1], some (36, true)⟩,
   ⟨some 38, .call 41, [.t 37], some (36, true)⟩,
   ⟨some 39, .bin .eql, [.t 38, .c (.p (.v (.int .i64 11)))], some (36, true)⟩,
   ⟨some 40, .pick, [.t 36, .t 39, .c (.p (.v (.bool false)))], none⟩,
   ⟨some 41, .mv, [.t 40], none⟩,
   ⟨some 42, .load 14 true, [.t 2], some (41, true)⟩,
   ⟨some 43, .call 41, [.t 42], some (41, true)⟩,
   ⟨some 44, .bin .eql, [.t 43, .c (.p (.v (.int .i64 11)))], some (41, true)⟩,
   ⟨some 45, .pick, [.t 41, .t 44, .c (.p (.v (.bool false)))], none⟩,
   ⟨some 46, .mv, [.t 45], none⟩,
   ⟨some 47, .build [.v (.string ⟨#[]⟩), .v (.string ⟨#[]⟩), .v (.int .i64 0), .v (.string ⟨#[]⟩), .v (.int .i64 0), .v (.string ⟨#[]⟩), .v (.int .i64 0), .v (.string ⟨#[]⟩), .v (.int .i64 0), .v (.int .i64 0), .v (.int .i64 0), .v (.bool false), .v (.bool false), .v (.bool false)] [(12, 1)], [.c (.p (.v (.bool true)))], some (46, true)⟩,
   ⟨some 48, .call 41, [.t 47], some (46, true)⟩,
   ⟨some 49, .bin .eql, [.t 48, .c (.p (.v (.int .i64 3)))], some (46, true)⟩,
   ⟨some 50, .pick, [.t 46, .t 49, .c (.p (.v (.bool false)))], none⟩,
   ⟨some 0, .mv, [.t 50], none⟩])
  .ret))))))))
theorem ret34 {ps : List PV} {p : PV} (hn : Nat.ble ps.length 51 = true) (h : (∀ q ∈ ps, q.bd) → Run Try.prog (fun e s' => (∀ id, e ≠ .exit id) ∧ ∃ ns, s'.out [.t 0] = some (p, ns)) [] c34 (S (initL 0 ps) [])) : Ret Try.prog 34 ps p :=
  ret_run Try.func34 rfl (by kernel_rfl) rfl (by kernel_rfl) (by kernel_rfl) (by kernel_rfl) (by kernel_rfl) (Nat.le_of_ble_eq_true hn) h

/-- stevedore/items.Add -/
def c36 : C :=
  (.seq (.reg [⟨some 2, .box, [.t 0], none⟩,
   ⟨some 3, .box, [.t 1], none⟩,
   ⟨some 4, .alloc [.sl [] [], .sl [] [], .sl [] [], .sl [] [], .sl [] [], .sl [] [], .sl [] [], .sl [] [], .sl [] [], .sl [] [], .sl [] [], .sl [] [], .sl [] [], .sl [] [], .v (.int .i64 0)], [], none⟩,
   ⟨some 5, .mv, [.c (.p (.v (.int .i64 0)))], none⟩])
  (.seq (.seq (.reg [⟨some 9, .load 14 true, [.t 3], none⟩,
   ⟨some 10, .call 41, [.t 9], none⟩,
   ⟨some 6, .mv, [.t 10], none⟩])
  (.seq (.reg [⟨some 11, .mv, [.t 6], none⟩,
   ⟨some 12, .bin .neq, [.t 11, .c (.p (.v (.int .i64 0)))], none⟩])
  (.cond (.t 12)
  (.seq (.reg [⟨some 13, .build [.sl [] [], .sl [] [], .sl [] [], .sl [] [], .sl [] [], .sl [] [], .sl [] [], .sl [] [], .sl [] [], .sl [] [], .sl [] [], .sl [] [], .sl [] [], .sl [] [], .v (.int .i64 0)] [], [], none⟩,
     ⟨some 14, .mv, [.t 6], none⟩,
     ⟨none, .store 15, [.t 4, .t 13], none⟩,
     ⟨some 5, .mv, [.t 14], none⟩])
    .ret)
  .skip)))
  (.seq (.seq (.reg [⟨some 16, .load 15 true, [.t 2], none⟩,
   ⟨some 17, .fad 0, [.t 3], none⟩,
   ⟨some 18, .load 1 false, [.t 17], none⟩,
   ⟨some 19, .call 38, [.t 16, .t 18], none⟩,
   ⟨some 15, .mv, [.t 19], none⟩,
   ⟨some 20, .ext 0, [.t 15], none⟩,
   ⟨some 21, .ext 1, [.t 15], none⟩,
   ⟨some 7, .alloc [.v (.string ⟨#[]⟩), .v (.string ⟨#[]⟩), .v (.int .i64 0), .v (.string ⟨#[]⟩), .v (.int .i64 0), .v (.string ⟨#[]⟩), .v (.int .i64 0), .v (.string ⟨#[]⟩), .v (.int .i64 0), .v (.int .i64 0), .v (.int .i64 0), .v (.bool false), .v (.bool false), .v (.bool false)], [], none⟩,
   ⟨none, .store 14, [.t 7, .t 20], none⟩,
   ⟨some 8, .mv, [.t 21], none⟩])
  (.seq (.reg [⟨some 22, .mv, [.t 8], none⟩])
  (.cond (.t 22)
  (.seq (.reg [⟨some 23, .build [.sl [] [], .sl [] [], .sl [] [], .sl [] [], .sl [] [], .sl [] [], .sl [] [], .sl [] [], .sl [] [], .sl [] [], .sl [] [], .sl [] [], .sl [] [], .sl [] [], .v (.int .i64 0)] [], [], none⟩,
     ⟨none, .store 15, [.t 4, .t 23], none⟩,
     ⟨some 5, .mv, [.c (.p (.v (.int .i64 11)))], none⟩])
    .ret)
  .skip)))
  (.seq (.seq (.reg [⟨some 24, .fad 0, [.t 2], none⟩,
   ⟨some 25, .load 1 false, [.t 24], none⟩,
   ⟨some 26, .len 0, [.t 25], none⟩,
   ⟨some 27, .bin .geq, [.t 26, .c (.p (.v (.int .i64 64)))], none⟩])
  (.cond (.t 27)
  (.seq (.reg [⟨some 28, .build [.sl [] [], .sl [] [], .sl [] [], .sl [] [], .sl [] [], .sl [] [], .sl [] [], .sl [] [], .sl [] [], .sl [] [], .sl [] [], .sl [] [], .sl [] [], .sl [] [], .v (.int .i64 0)] [], [], none⟩,
     ⟨none, .store 15, [.t 4, .t 28], none⟩,
     ⟨some 5, .mv, [.c (.p (.v (.int .i64 14)))], none⟩])
    .ret)
  .skip))
  (.seq (.regd [⟨some 29, .call 88, [], none⟩,
   ⟨some 30, .fad 0, [.t 2], none⟩,
   ⟨some 31, .load 1 false, [.t 30], none⟩,
   ⟨some 32, .load 14 true, [.t 3], none⟩,
   ⟨some 33, .call 89, [.t 29, .t 31, .t 32], none⟩,
   ⟨some 34, .fad 0, [.t 2], none⟩,
   ⟨none, .store 1, [.t 34, .t 33], none⟩])
  (.seq (.reg [⟨some 35, .load 15 true, [.t 2], none⟩,
   ⟨none, .store 15, [.t 4, .t 35], none⟩,
   ⟨some 5, .mv, [.c (.p (.v (.int .i64 0)))], none⟩])
  .ret))))))
theorem ret36 {ps : List PV} {p : PV} (hn : Nat.ble ps.length 36 = true) (h : (∀ q ∈ ps, q.bd) → Run Try.prog (fun e s' => (∀ id, e ≠ .exit id) ∧ ∃ ns, s'.out [.c 4 15 true, .t 5] = some (p, ns)) [] c36 (S (initL 0 ps) [])) : Ret Try.prog 36 ps p :=
  ret_run Try.func36 rfl (by kernel_rfl) rfl (by kernel_rfl) (by kernel_rfl) (by kernel_rfl) (by kernel_rfl) (Nat.le_of_ble_eq_true hn) h

/-- stevedore/stevedoreref07.Add -/
def c37 : C :=
  (.seq (.reg [⟨some 2, .box, [.t 0], none⟩,
   ⟨some 3, .box, [.t 1], none⟩,
   ⟨some 4, .alloc [.sl [] [], .sl [] [], .sl [] [], .sl [] [], .sl [] [], .sl [] [], .sl [] [], .sl [] [], .sl [] [], .sl [] [], .sl [] [], .sl [] [], .sl [] [], .sl [] [], .v (.int .i64 0)], [], none⟩,
   ⟨some 5, .mv, [.c (.p (.v (.int .i64 0)))], none⟩])
  (.seq (.reg [⟨some 9, .load 14 true, [.t 3], none⟩,
   ⟨some 10, .call 42, [.t 9], none⟩,
   ⟨some 6, .mv, [.t 10], none⟩])
  (.seq (.reg [⟨some 12, .load 15 true, [.t 2], none⟩,
   ⟨some 13, .fad 0, [.t 3], none⟩,
   ⟨some 14, .load 1 false, [.t 13], none⟩,
   ⟨some 15, .call 39, [.t 12, .t 14], none⟩,
   ⟨some 11, .mv, [.t 15], none⟩,
   ⟨some 16, .ext 0, [.t 11], none⟩,
   ⟨some 17, .ext 1, [.t 11], none⟩,
   ⟨some 7, .alloc [.v (.string ⟨#[]⟩), .v (.string ⟨#[]⟩), .v (.int .i64 0), .v (.string ⟨#[]⟩), .v (.int .i64 0), .v (.string ⟨#[]⟩), .v (.int .i64 0), .v (.string ⟨#[]⟩), .v (.int .i64 0), .v (.int .i64 0), .v (.int .i64 0), .v (.bool false), .v (.bool false), .v (.bool false)], [], none⟩,
   ⟨none, .store 14, [.t 7, .t 16], none⟩,
   ⟨some 8, .mv, [.t 17], none⟩])
  (.seq (.seq (.reg [⟨some 18, .mv, [.t 6], none⟩,
   ⟨some 19, .bin .eql, [.t 18, .c (.p (.v (.int .i64 0)))], none⟩,
   ⟨some 20, .mv, [.t 19], none⟩,
   ⟨some 21, .mv, [.t 8], some (20, true)⟩,
   ⟨some 22, .pick, [.t 20, .t 21, .c (.p (.v (.bool false)))], none⟩])
  (.cond (.t 22)
  (.reg [⟨some 6, .mv, [.c (.p (.v (.int .i64 11)))], none⟩])
  .skip))
  (.seq (.seq (.reg [⟨some 23, .mv, [.t 6], none⟩,
   ⟨some 24, .bin .eql, [.t 23, .c (.p (.v (.int .i64 0)))], none⟩,
   ⟨some 25, .mv, [.t 24], none⟩,
   ⟨some 26, .fad 0, [.t 2], some (25, true)⟩,
   ⟨some 27, .load 1 false, [.t 26], some (25, true)⟩,
   ⟨some 28, .len 0, [.t 27], some (25, true)⟩,
   ⟨some 29, .bin .geq, [.t 28, .c (.p (.v (.int .i64 64)))], some (25, true)⟩,
   ⟨some 30, .pick, [.t 25, .t 29, .c (.p (.v (.bool false)))], none⟩])
  (.cond (.t 30)
  (.reg [⟨some 6, .mv, [.c (.p (.v (.int .i64 14)))], none⟩])
  .skip))
  (.seq (.seq (.reg [⟨some 31, .mv, [.t 6], none⟩,
   ⟨some 32, .bin .neq, [.t 31, .c (.p (.v (.int .i64 0)))], none⟩])
  (.cond (.t 32)
  (.seq (.reg [⟨some 33, .build [.sl [] [], .sl [] [], .sl [] [], .sl [] [], .sl [] [], .sl [] [], .sl [] [], .sl [] [], .sl [] [], .sl [] [], .sl [] [], .sl [] [], .sl [] [], .sl [] [], .v (.int .i64 0)] [], [], none⟩,
     ⟨some 34, .mv, [.t 6], none⟩,
     ⟨none, .store 15, [.t 4, .t 33], none⟩,
     ⟨some 5, .mv, [.t 34], none⟩])
    .ret)
  .skip))
  (.seq (.reg [⟨some 35, .load 15 true, [.t 2], none⟩,
   ⟨some 36, .load 14 true, [.t 3], none⟩,
   ⟨some 37, .call 90, [.t 35, .t 36], none⟩,
   ⟨none, .store 15, [.t 4, .t 37], none⟩,
   ⟨some 5, .mv, [.c (.p (.v (.int .i64 0)))], none⟩])
  .ret)))))))
theorem ret37 {ps : List PV} {p : PV} (hn : Nat.ble ps.length 38 = true) (h : (∀ q ∈ ps, q.bd) → Run Try.prog (fun e s' => (∀ id, e ≠ .exit id) ∧ ∃ ns, s'.out [.c 4 15 true, .t 5] = some (p, ns)) [] c37 (S (initL 0 ps) [])) : Ret Try.prog 37 ps p :=
  ret_run Try.func37 rfl (by kernel_rfl) rfl (by kernel_rfl) (by kernel_rfl) (by kernel_rfl) (by kernel_rfl) (Nat.le_of_ble_eq_true hn) h

/-- stevedore/items.Check -/
def c41 : C :=
  (.seq (.reg [⟨some 1, .box, [.t 0], none⟩,
   ⟨some 2, .mv, [.c (.p (.v (.int .i64 0)))], none⟩])
  (.seq (.seq (.reg [⟨some 7, .fad 0, [.t 1], none⟩,
   ⟨some 8, .load 1 false, [.t 7], none⟩,
   ⟨some 9, .call 106, [.t 8], none⟩,
   ⟨some 3, .mv, [.t 9], none⟩])
  (.seq (.reg [⟨some 10, .mv, [.t 3], none⟩,
   ⟨some 11, .bin .neq, [.t 10, .c (.p (.v (.int .i64 0)))], none⟩])
  (.cond (.t 11)
  (.seq (.reg [⟨some 12, .mv, [.t 3], none⟩,
     ⟨some 2, .mv, [.t 12], none⟩])
    .ret)
  .skip)))
  (.seq (.seq (.reg [⟨some 13, .fad 1, [.t 1], none⟩,
   ⟨some 14, .load 8 true, [.t 13], none⟩,
   ⟨some 15, .mv, [.c (.p (.v (.int .i64 0)))], none⟩])
  (.block 0
  (.loop
  (.seq (.reg [⟨some 16, .bin .lss, [.t 15, .c (.p (.v (.int .i64 4)))], none⟩])
  (.seq (.cond (.t 16)
  .skip
  (.exit 0))
  (.seq (.block 1
  (.seq (.reg [⟨some 17, .mv, [.t 15], none⟩,
   ⟨some 18, .idx 2 4 true, [.t 14, .t 15], none⟩,
   ⟨some 5, .alloc [.v (.string ⟨#[]⟩), .v (.int .i64 0)], [], none⟩,
   ⟨some 4, .mv, [.t 17], none⟩,
   ⟨none, .store 2, [.t 5, .t 18], none⟩])
  (.seq (.regd [⟨some 19, .load 2 true, [.t 5], none⟩,
   ⟨some 20, .fad 1, [.t 1], none⟩,
   ⟨some 21, .mv, [.t 4], none⟩,
   ⟨some 22, .sarr 2 4 false true, [.t 20, .t 21], none⟩,
   ⟨some 23, .call 107, [.t 19, .t 22], none⟩,
   ⟨some 6, .mv, [.t 23], none⟩])
  (.seq (.reg [⟨some 24, .mv, [.t 6], none⟩,
   ⟨some 25, .bin .neq, [.t 24, .c (.p (.v (.int .i64 0)))], none⟩])
  (.cond (.t 25)
  (.seq (.reg [⟨some 26, .mv, [.t 6], none⟩,
     ⟨some 2, .mv, [.t 26], none⟩])
    .ret)
  .skip)))))
  (.reg [⟨some 27, .bin .add, [.t 15, .c (.p (.v (.int .i64 1)))], none⟩,
   ⟨some 15, .mv, [.t 27], none⟩])))))))
  (.seq (.block 2
  (.seq (.reg [⟨some 29, .fad 9, [.t 1], none⟩,
   ⟨some 30, .load 1 false, [.t 29], none⟩,
   ⟨some 31, .call 108, [.t 30, .c (.p (.v (.int .i64 0))), .c (.p (.v (.int .i64 1000000)))], none⟩,
   ⟨some 32, .un .not, [.t 31], none⟩,
   ⟨some 33, .mv, [.t 32], none⟩,
   ⟨some 34, .fad 10, [.t 1], some (33, false)⟩,
   ⟨some 35, .load 1 false, [.t 34], some (33, false)⟩,
   ⟨some 36, .call 108, [.t 35, .c (.p (.v (.int .i64 0))), .c (.p (.v (.int .i64 1000000)))], some (33, false)⟩,
   ⟨some 37, .un .not, [.t 36], some (33, false)⟩,
   ⟨some 38, .pick, [.t 33, .c (.p (.v (.bool true))), .t 37], none⟩,
   ⟨some 28, .mv, [.t 38], none⟩])
  (.cond (.t 28)
  (.seq (.reg [⟨some 2, .mv, [.c (.p (.v (.int .i64 5)))], none⟩])
    .ret)
  (.seq (.reg [⟨some 40, .fad 12, [.t 1], none⟩,
     ⟨some 41, .load 1 false, [.t 40], none⟩,
     ⟨some 42, .mv, [.t 41], none⟩,
     ⟨some 43, .fad 11, [.t 1], some (42, true)⟩,
     ⟨some 44, .load 1 false, [.t 43], some (42, true)⟩,
     ⟨some 45, .un .not, [.t 44], some (42, true)⟩,
     ⟨some 46, .pick, [.t 42, .t 45, .c (.p (.v (.bool false)))], none⟩,
     ⟨some 39, .mv, [.t 46], none⟩])
    (.cond (.t 39)
    (.seq (.reg [⟨some 2, .mv, [.c (.p (.v (.int .i64 21)))], none⟩])
      .ret)
    .skip)))))
  (.seq (.reg [⟨some 2, .mv, [.c (.p (.v (.int .i64 0)))], none⟩])
  .ret)))))
theorem ret41 {ps : List PV} {p : PV} (hn : Nat.ble ps.length 47 = true) (h : (∀ q ∈ ps, q.bd) → Run Try.prog (fun e s' => (∀ id, e ≠ .exit id) ∧ ∃ ns, s'.out [.t 2] = some (p, ns)) [] c41 (S (initL 0 ps) [])) : Ret Try.prog 41 ps p :=
  ret_run Try.func41 rfl (by kernel_rfl) rfl (by kernel_rfl) (by kernel_rfl) (by kernel_rfl) (by kernel_rfl) (Nat.le_of_ble_eq_true hn) h

/-- stevedore/stevedoreref07.Check -/
def c42 : C :=
  (.seq (.reg [⟨some 1, .box, [.t 0], none⟩,
   ⟨some 2, .mv, [.c (.p (.v (.int .i64 0)))], none⟩])
  (.seq (.reg [⟨some 7, .fad 0, [.t 1], none⟩,
   ⟨some 8, .load 1 false, [.t 7], none⟩,
   ⟨some 9, .call 109, [.t 8], none⟩,
   ⟨some 3, .mv, [.t 9], none⟩])
  (.seq (.seq (.reg [⟨some 10, .mv, [.t 3], none⟩,
   ⟨some 11, .bin .neq, [.t 10, .c (.p (.v (.int .i64 0)))], none⟩])
  (.cond (.t 11)
  (.seq (.reg [⟨some 12, .mv, [.t 3], none⟩,
     ⟨some 2, .mv, [.t 12], none⟩])
    .ret)
  .skip))
  (.seq (.seq (.reg [⟨some 4, .mv, [.c (.p (.v (.int .i64 0)))], none⟩])
  (.block 0
  (.loop
  (.seq (.seq (.reg [⟨some 13, .mv, [.t 4], none⟩,
   ⟨some 14, .bin .lss, [.t 13, .c (.p (.v (.int .i64 4)))], none⟩])
  (.cond (.t 14)
  .skip
  (.exit 0)))
  (.seq (.block 1
  (.seq (.reg [⟨some 17, .mv, [.t 4], none⟩,
   ⟨some 18, .fad 1, [.t 1], none⟩,
   ⟨some 19, .aad 2 4, [.t 18, .t 17], none⟩,
   ⟨some 20, .load 2 true, [.t 19], none⟩,
   ⟨some 5, .alloc [.v (.string ⟨#[]⟩), .v (.int .i64 0)], [], none⟩,
   ⟨none, .store 2, [.t 5, .t 20], none⟩])
  (.seq (.seq (.reg [⟨some 21, .fad 0, [.t 5], none⟩,
   ⟨some 22, .load 1 false, [.t 21], none⟩,
   ⟨some 23, .bin .eql, [.t 22, .c (.p (.v (.string ⟨#[]⟩)))], none⟩])
  (.cond (.t 23)
  (.seq (.seq (.reg [⟨some 24, .fad 1, [.t 5], none⟩,
     ⟨some 25, .load 1 false, [.t 24], none⟩,
     ⟨some 26, .bin .neq, [.t 25, .c (.p (.v (.int .i64 0)))], none⟩])
    (.cond (.t 26)
    (.seq (.reg [⟨some 2, .mv, [.c (.p (.v (.int .i64 5)))], none⟩])
      .ret)
    .skip))
    (.exit 1))
  .skip))
  (.seq (.reg [⟨some 27, .fad 0, [.t 5], none⟩,
   ⟨some 28, .load 1 false, [.t 27], none⟩,
   ⟨some 29, .call 109, [.t 28], none⟩,
   ⟨some 3, .mv, [.t 29], none⟩])
  (.seq (.seq (.reg [⟨some 30, .mv, [.t 3], none⟩,
   ⟨some 31, .bin .neq, [.t 30, .c (.p (.v (.int .i64 0)))], none⟩])
  (.cond (.t 31)
  (.seq (.reg [⟨some 32, .mv, [.t 3], none⟩,
     ⟨some 2, .mv, [.t 32], none⟩])
    .ret)
  .skip))
  (.seq (.seq (.reg [⟨some 33, .fad 0, [.t 5], none⟩,
   ⟨some 34, .load 1 false, [.t 33], none⟩,
   ⟨some 35, .bin .eql, [.t 34, .c (.p (.v (.string ⟨#[101, 97, 99, 104]⟩)))], none⟩])
  (.cond (.t 35)
  (.seq (.reg [⟨some 2, .mv, [.c (.p (.v (.int .i64 11)))], none⟩])
    .ret)
  .skip))
  (.seq (.seq (.reg [⟨some 6, .mv, [.c (.p (.v (.int .i64 0)))], none⟩])
  (.block 2
  (.loop
  (.seq (.seq (.reg [⟨some 36, .mv, [.t 6], none⟩,
   ⟨some 37, .mv, [.t 4], none⟩,
   ⟨some 38, .bin .lss, [.t 36, .t 37], none⟩])
  (.cond (.t 38)
  .skip
  (.exit 2)))
  (.seq (.block 3
  (.seq (.regd [⟨some 41, .mv, [.t 6], none⟩,
   ⟨some 42, .fad 1, [.t 1], none⟩,
   ⟨some 43, .aad 2 4, [.t 42, .t 41], none⟩,
   ⟨some 44, .fad 0, [.t 43], none⟩,
   ⟨some 45, .load 1 false, [.t 44], none⟩,
   ⟨some 46, .fad 0, [.t 5], none⟩,
   ⟨some 47, .load 1 false, [.t 46], none⟩,
   ⟨some 48, .bin .eql, [.t 45, .t 47], none⟩])
  (.cond (.t 48)
  (.seq (.reg [⟨some 2, .mv, [.c (.p (.v (.int .i64 11)))], none⟩])
    .ret)
  .skip)))
  (.reg [⟨some 39, .mv, [.t 6], none⟩,
   ⟨some 40, .bin .add, [.t 39, .c (.p (.v (.int .i64 1)))], none⟩,
   ⟨some 6, .mv, [.t 40], none⟩]))))))
  (.seq (.reg [⟨some 49, .fad 1, [.t 5], none⟩,
   ⟨some 50, .load 1 false, [.t 49], none⟩,
   ⟨some 51, .bin .lss, [.t 50, .c (.p (.v (.int .i64 2)))], none⟩,
   ⟨some 52, .mv, [.t 51], none⟩,
   ⟨some 53, .fad 1, [.t 5], some (52, false)⟩,
   ⟨some 54, .load 1 false, [.t 53], some (52, false)⟩,
   ⟨some 55, .bin .gtr, [.t 54, .c (.p (.v (.int .i64 1000000)))], some (52, false)⟩,
   ⟨some 56, .pick, [.t 52, .c (.p (.v (.bool true))), .t 55], none⟩])
  (.cond (.t 56)
  (.seq (.reg [⟨some 2, .mv, [.c (.p (.v (.int .i64 5)))], none⟩])
    .ret)
  .skip)))))))))
  (.reg [⟨some 15, .mv, [.t 4], none⟩,
   ⟨some 16, .bin .add, [.t 15, .c (.p (.v (.int .i64 1)))], none⟩,
   ⟨some 4, .mv, [.t 16], none⟩]))))))
  (.seq (.seq (.reg [⟨some 57, .fad 9, [.t 1], none⟩,
   ⟨some 58, .load 1 false, [.t 57], none⟩,
   ⟨some 59, .bin .lss, [.t 58, .c (.p (.v (.int .i64 0)))], none⟩,
   ⟨some 60, .mv, [.t 59], none⟩,
   ⟨some 61, .fad 9, [.t 1], some (60, false)⟩,
   ⟨some 62, .load 1 false, [.t 61], some (60, false)⟩,
   ⟨some 63, .bin .gtr, [.t 62, .c (.p (.v (.int .i64 1000000)))], some (60, false)⟩,
   ⟨some 64, .pick, [.t 60, .c (.p (.v (.bool true))), .t 63], none⟩,
   ⟨some 65, .mv, [.t 64], none⟩,
   ⟨some 66, .fad 10, [.t 1], some (65, false)⟩,
   ⟨some 67, .load 1 false, [.t 66], some (65, false)⟩,
   ⟨some 68, .bin .lss, [.t 67, .c (.p (.v (.int .i64 0)))], some (65, false)⟩,
   ⟨some 69, .pick, [.t 65, .c (.p (.v (.bool true))), .t 68], none⟩,
   ⟨some 70, .mv, [.t 69], none⟩,
   ⟨some 71, .fad 10, [.t 1], some (70, false)⟩,
   ⟨some 72, .load 1 false, [.t 71], some (70, false)⟩,
   ⟨some 73, .bin .gtr, [.t 72, .c (.p (.v (.int .i64 1000000)))], some (70, false)⟩,
   ⟨some 74, .pick, [.t 70, .c (.p (.v (.bool true))), .t 73], none⟩])
  (.cond (.t 74)
  (.seq (.reg [⟨some 2, .mv, [.c (.p (.v (.int .i64 5)))], none⟩])
    .ret)
  .skip))
  (.seq (.seq (.reg [⟨some 75, .fad 12, [.t 1], none⟩,
   ⟨some 76, .load 1 false, [.t 75], none⟩,
   ⟨some 77, .mv, [.t 76], none⟩,
   ⟨some 78, .fad 11, [.t 1], some (77, true)⟩,
   ⟨some 79, .load 1 false, [.t 78], some (77, true)⟩,
   ⟨some 80, .un .not, [.t 79], some (77, true)⟩,
   ⟨some 81, .pick, [.t 77, .t 80, .c (.p (.v (.bool false)))], none⟩])
  (.cond (.t 81)
  (.seq (.reg [⟨some 2, .mv, [.c (.p (.v (.int .i64 21)))], none⟩])
    .ret)
  .skip))
  (.seq (.reg [⟨some 2, .mv, [.c (.p (.v (.int .i64 0)))], none⟩])
  .ret)))))))
theorem ret42 {ps : List PV} {p : PV} (hn : Nat.ble ps.length 82 = true) (h : (∀ q ∈ ps, q.bd) → Run Try.prog (fun e s' => (∀ id, e ≠ .exit id) ∧ ∃ ns, s'.out [.t 2] = some (p, ns)) [] c42 (S (initL 0 ps) [])) : Ret Try.prog 42 ps p :=
  ret_run Try.func42 rfl (by kernel_rfl) rfl (by kernel_rfl) (by kernel_rfl) (by kernel_rfl) (by kernel_rfl) (Nat.le_of_ble_eq_true hn) h

/-- stevedore/stevedorelaw07.nut -/
def c73 : C :=
  (.seq (.reg [⟨some 0, .alloc [.v (.string ⟨#[]⟩), .v (.string ⟨#[]⟩), .v (.int .i64 0), .v (.string ⟨#[]⟩), .v (.int .i64 0), .v (.string ⟨#[]⟩), .v (.int .i64 0), .v (.string ⟨#[]⟩), .v (.int .i64 0), .v (.int .i64 0), .v (.int .i64 0), .v (.bool false), .v (.bool false), .v (.bool false)], [], none⟩])
  (.seq (.reg [⟨some 1, .build [.v (.string ⟨#[]⟩), .v (.int .i64 0)] [(0, 1), (1, 1)], [.c (.p (.v (.string ⟨#[98, 111, 120]⟩))), .c (.p (.v (.int .i64 12)))], none⟩,
   ⟨some 2, .build [.v (.string ⟨#[]⟩), .v (.int .i64 0)] [(0, 1), (1, 1)], [.c (.p (.v (.string ⟨#[99, 97, 115, 101]⟩))), .c (.p (.v (.int .i64 240)))], none⟩,
   ⟨some 3, .build [.v (.string ⟨#[]⟩), .v (.int .i64 0), .v (.string ⟨#[]⟩), .v (.int .i64 0), .v (.string ⟨#[]⟩), .v (.int .i64 0), .v (.string ⟨#[]⟩), .v (.int .i64 0)] [(0, 2), (2, 2)], [.t 1, .t 2], none⟩,
   ⟨some 4, .build [.v (.string ⟨#[]⟩), .v (.string ⟨#[]⟩), .v (.int .i64 0), .v (.string ⟨#[]⟩), .v (.int .i64 0), .v (.string ⟨#[]⟩), .v (.int .i64 0), .v (.string ⟨#[]⟩), .v (.int .i64 0), .v (.int .i64 0), .v (.int .i64 0), .v (.bool false), .v (.bool false), .v (.bool false)] [(0, 1), (1, 8), (9, 1), (10, 1)], [.c (.p (.v (.string ⟨#[110, 117, 116]⟩))), .t 3, .c (.p (.v (.int .i64 3))), .c (.p (.v (.int .i64 2)))], none⟩,
   ⟨none, .store 14, [.t 0, .t 4], none⟩])
  .ret))
theorem ret73 {ps : List PV} {p : PV} (hn : Nat.ble ps.length 5 = true) (h : (∀ q ∈ ps, q.bd) → Run Try.prog (fun e s' => (∀ id, e ≠ .exit id) ∧ ∃ ns, s'.out [.c 0 14 true] = some (p, ns)) [] c73 (S (initL 0 ps) [])) : Ret Try.prog 73 ps p :=
  ret_run Try.func73 rfl (by kernel_rfl) rfl (by kernel_rfl) (by kernel_rfl) (by kernel_rfl) (by kernel_rfl) (Nat.le_of_ble_eq_true hn) h

/-- stevedore/items.unit -/
def c107 : C :=
  (.seq (.reg [⟨some 2, .box, [.t 0], none⟩,
   ⟨some 4, .mv, [.c (.p (.v (.int .i64 0)))], none⟩])
  (.seq (.seq (.reg [⟨some 9, .fad 0, [.t 2], none⟩,
   ⟨some 10, .load 1 false, [.t 9], none⟩,
   ⟨some 11, .bin .eql, [.t 10, .c (.p (.v (.string ⟨#[]⟩)))], none⟩])
  (.cond (.t 11)
  (.seq (.seq (.reg [⟨some 12, .load 2 true, [.t 2], none⟩,
     ⟨some 13, .build [.v (.string ⟨#[]⟩), .v (.int .i64 0)] [], [], none⟩,
     ⟨some 14, .eqs true [.s, .i .i64], [.t 12, .t 13], none⟩])
    (.cond (.t 14)
    (.seq (.reg [⟨some 4, .mv, [.c (.p (.v (.int .i64 5)))], none⟩])
      .ret)
    .skip))
    (.seq (.reg [⟨some 4, .mv, [.c (.p (.v (.int .i64 0)))], none⟩])
    .ret))
  .skip))
  (.seq (.seq (.reg [⟨some 15, .fad 0, [.t 2], none⟩,
   ⟨some 16, .load 1 false, [.t 15], none⟩,
   ⟨some 17, .call 106, [.t 16], none⟩,
   ⟨some 5, .mv, [.t 17], none⟩])
  (.seq (.reg [⟨some 18, .mv, [.t 5], none⟩,
   ⟨some 19, .bin .neq, [.t 18, .c (.p (.v (.int .i64 0)))], none⟩])
  (.cond (.t 19)
  (.seq (.reg [⟨some 20, .mv, [.t 5], none⟩,
     ⟨some 4, .mv, [.t 20], none⟩])
    .ret)
  .skip)))
  (.seq (.reg [⟨some 21, .fad 0, [.t 2], none⟩,
   ⟨some 22, .load 1 false, [.t 21], none⟩,
   ⟨some 23, .bin .eql, [.t 22, .c (.p (.v (.string ⟨#[101, 97, 99, 104]⟩)))], none⟩,
   ⟨some 6, .mv, [.t 23], none⟩])
  (.seq (.seq (.reg [⟨some 24, .mv, [.t 1], none⟩,
   ⟨some 25, .len 0, [.t 24], none⟩,
   ⟨some 26, .mv, [.c (.p (.v (.int .i64 0)))], none⟩])
  (.block 0
  (.loop
  (.seq (.reg [⟨some 27, .bin .lss, [.t 26, .t 25], none⟩])
  (.seq (.cond (.t 27)
  .skip
  (.exit 0))
  (.seq (.block 1
  (.seq (.reg [⟨some 28, .iad 2, [.t 24, .t 26], none⟩,
   ⟨some 29, .load 2 true, [.t 28], none⟩,
   ⟨some 8, .alloc [.v (.string ⟨#[]⟩), .v (.int .i64 0)], [], none⟩,
   ⟨none, .store 2, [.t 8, .t 29], none⟩])
  (.reg [⟨some 30, .mv, [.t 6], none⟩,
   ⟨some 31, .mv, [.t 30], none⟩,
   ⟨some 32, .fad 0, [.t 8], some (31, false)⟩,
   ⟨some 33, .load 1 false, [.t 32], some (31, false)⟩,
   ⟨some 34, .fad 0, [.t 2], some (31, false)⟩,
   ⟨some 35, .load 1 false, [.t 34], some (31, false)⟩,
   ⟨some 36, .bin .eql, [.t 33, .t 35], some (31, false)⟩,
   ⟨some 37, .pick, [.t 31, .c (.p (.v (.bool true))), .t 36], none⟩,
   ⟨some 6, .mv, [.t 37], none⟩])))
  (.reg [⟨some 38, .bin .add, [.t 26, .c (.p (.v (.int .i64 1)))], none⟩,
   ⟨some 26, .mv, [.t 38], none⟩])))))))
  (.seq (.block 2
  (.seq (.reg [⟨some 40, .mv, [.t 6], none⟩,
   ⟨some 39, .mv, [.t 40], none⟩])
  (.cond (.t 39)
  (.seq (.reg [⟨some 4, .mv, [.c (.p (.v (.int .i64 11)))], none⟩])
    .ret)
  (.seq (.reg [⟨some 42, .fad 1, [.t 2], none⟩,
     ⟨some 43, .load 1 false, [.t 42], none⟩,
     ⟨some 44, .call 108, [.t 43, .c (.p (.v (.int .i64 2))), .c (.p (.v (.int .i64 1000000)))], none⟩,
     ⟨some 45, .un .not, [.t 44], none⟩,
     ⟨some 41, .mv, [.t 45], none⟩])
    (.cond (.t 41)
    (.seq (.reg [⟨some 4, .mv, [.c (.p (.v (.int .i64 5)))], none⟩])
      .ret)
    .skip)))))
  (.seq (.reg [⟨some 4, .mv, [.c (.p (.v (.int .i64 0)))], none⟩])
  .ret)))))))
theorem ret107 {ps : List PV} {p : PV} (hn : Nat.ble ps.length 46 = true) (h : (∀ q ∈ ps, q.bd) → Run Try.prog (fun e s' => (∀ id, e ≠ .exit id) ∧ ∃ ns, s'.out [.t 4] = some (p, ns)) [] c107 (S (initL 0 ps) [])) : Ret Try.prog 107 ps p :=
  ret_run Try.func107 rfl (by kernel_rfl) rfl (by kernel_rfl) (by kernel_rfl) (by kernel_rfl) (by kernel_rfl) (Nat.le_of_ble_eq_true hn) h

/-- stevedore/items.within -/
def c108 : C :=
  (.seq (.reg [⟨some 6, .mv, [.c (.p (.v (.bool false)))], none⟩])
  (.seq (.reg [⟨some 7, .mv, [.t 0], none⟩,
   ⟨some 8, .mv, [.t 1], none⟩,
   ⟨some 9, .bin .geq, [.t 7, .t 8], none⟩,
   ⟨some 10, .mv, [.t 9], none⟩,
   ⟨some 11, .mv, [.t 0], some (10, true)⟩,
   ⟨some 12, .mv, [.t 2], some (10, true)⟩,
   ⟨some 13, .bin .leq, [.t 11, .t 12], some (10, true)⟩,
   ⟨some 14, .pick, [.t 10, .t 13, .c (.p (.v (.bool false)))], none⟩,
   ⟨some 6, .mv, [.t 14], none⟩])
  .ret))
theorem ret108 {ps : List PV} {p : PV} (hn : Nat.ble ps.length 15 = true) (h : (∀ q ∈ ps, q.bd) → Run Try.prog (fun e s' => (∀ id, e ≠ .exit id) ∧ ∃ ns, s'.out [.t 6] = some (p, ns)) [] c108 (S (initL 0 ps) [])) : Ret Try.prog 108 ps p :=
  ret_run Try.func108 rfl (by kernel_rfl) rfl (by kernel_rfl) (by kernel_rfl) (by kernel_rfl) (by kernel_rfl) (Nat.le_of_ble_eq_true hn) h

/-- stevedore/lots.Add -/
def c44 : C :=
  (.seq (.reg [⟨some 2, .box, [.t 0], none⟩,
   ⟨some 3, .box, [.t 1], none⟩,
   ⟨some 4, .alloc [.sl [] [], .sl [] [], .sl [] [], .sl [] [], .sl [] [], .sl [] [], .sl [] [], .sl [] [], .sl [] [], .sl [] [], .sl [] [], .sl [] [], .sl [] [], .sl [] [], .v (.int .i64 0)], [], none⟩,
   ⟨some 5, .mv, [.c (.p (.v (.int .i64 0)))], none⟩])
  (.seq (.seq (.reg [⟨some 7, .load 15 true, [.t 2], none⟩,
   ⟨some 8, .load 3 true, [.t 3], none⟩,
   ⟨some 9, .call 110, [.t 7, .t 8], none⟩,
   ⟨some 6, .mv, [.t 9], none⟩])
  (.seq (.reg [⟨some 10, .mv, [.t 6], none⟩,
   ⟨some 11, .bin .neq, [.t 10, .c (.p (.v (.int .i64 0)))], none⟩])
  (.cond (.t 11)
  (.seq (.reg [⟨some 12, .build [.sl [] [], .sl [] [], .sl [] [], .sl [] [], .sl [] [], .sl [] [], .sl [] [], .sl [] [], .sl [] [], .sl [] [], .sl [] [], .sl [] [], .sl [] [], .sl [] [], .v (.int .i64 0)] [], [], none⟩,
     ⟨some 13, .mv, [.t 6], none⟩,
     ⟨none, .store 15, [.t 4, .t 12], none⟩,
     ⟨some 5, .mv, [.t 13], none⟩])
    .ret)
  .skip)))
  (.seq (.regd [⟨some 14, .call 111, [], none⟩,
   ⟨some 15, .fad 1, [.t 2], none⟩,
   ⟨some 16, .load 1 false, [.t 15], none⟩,
   ⟨some 17, .load 3 true, [.t 3], none⟩,
   ⟨some 18, .call 112, [.t 14, .t 16, .t 17], none⟩,
   ⟨some 19, .fad 1, [.t 2], none⟩,
   ⟨none, .store 1, [.t 19, .t 18], none⟩])
  (.seq (.reg [⟨some 20, .load 15 true, [.t 2], none⟩,
   ⟨none, .store 15, [.t 4, .t 20], none⟩,
   ⟨some 5, .mv, [.c (.p (.v (.int .i64 0)))], none⟩])
  .ret))))
theorem ret44 {ps : List PV} {p : PV} (hn : Nat.ble ps.length 21 = true) (h : (∀ q ∈ ps, q.bd) → Run Try.prog (fun e s' => (∀ id, e ≠ .exit id) ∧ ∃ ns, s'.out [.c 4 15 true, .t 5] = some (p, ns)) [] c44 (S (initL 0 ps) [])) : Ret Try.prog 44 ps p :=
  ret_run Try.func44 rfl (by kernel_rfl) rfl (by kernel_rfl) (by kernel_rfl) (by kernel_rfl) (by kernel_rfl) (Nat.le_of_ble_eq_true hn) h

/-- stevedore/stevedoreref09.Add -/
def c45 : C :=
  (.seq (.reg [⟨some 2, .box, [.t 0], none⟩,
   ⟨some 3, .box, [.t 1], none⟩,
   ⟨some 4, .alloc [.sl [] [], .sl [] [], .sl [] [], .sl [] [], .sl [] [], .sl [] [], .sl [] [], .sl [] [], .sl [] [], .sl [] [], .sl [] [], .sl [] [], .sl [] [], .sl [] [], .v (.int .i64 0)], [], none⟩,
   ⟨some 5, .mv, [.c (.p (.v (.int .i64 0)))], none⟩])
  (.seq (.reg [⟨some 12, .load 15 true, [.t 2], none⟩,
   ⟨some 13, .fad 0, [.t 3], none⟩,
   ⟨some 14, .load 1 false, [.t 13], none⟩,
   ⟨some 15, .call 39, [.t 12, .t 14], none⟩,
   ⟨some 11, .mv, [.t 15], none⟩,
   ⟨some 16, .ext 0, [.t 11], none⟩,
   ⟨some 17, .ext 1, [.t 11], none⟩,
   ⟨some 6, .alloc [.v (.string ⟨#[]⟩), .v (.string ⟨#[]⟩), .v (.int .i64 0), .v (.string ⟨#[]⟩), .v (.int .i64 0), .v (.string ⟨#[]⟩), .v (.int .i64 0), .v (.string ⟨#[]⟩), .v (.int .i64 0), .v (.int .i64 0), .v (.int .i64 0), .v (.bool false), .v (.bool false), .v (.bool false)], [], none⟩,
   ⟨none, .store 14, [.t 6, .t 16], none⟩,
   ⟨some 7, .mv, [.t 17], none⟩])
  (.seq (.seq (.reg [⟨some 18, .mv, [.t 7], none⟩,
   ⟨some 19, .un .not, [.t 18], none⟩])
  (.cond (.t 19)
  (.seq (.reg [⟨some 20, .build [.sl [] [], .sl [] [], .sl [] [], .sl [] [], .sl [] [], .sl [] [], .sl [] [], .sl [] [], .sl [] [], .sl [] [], .sl [] [], .sl [] [], .sl [] [], .sl [] [], .v (.int .i64 0)] [], [], none⟩,
     ⟨none, .store 15, [.t 4, .t 20], none⟩,
     ⟨some 5, .mv, [.c (.p (.v (.int .i64 12)))], none⟩])
    .ret)
  .skip))
  (.seq (.seq (.reg [⟨some 21, .fad 11, [.t 6], none⟩,
   ⟨some 22, .load 1 false, [.t 21], none⟩,
   ⟨some 23, .un .not, [.t 22], none⟩])
  (.cond (.t 23)
  (.seq (.reg [⟨some 24, .build [.sl [] [], .sl [] [], .sl [] [], .sl [] [], .sl [] [], .sl [] [], .sl [] [], .sl [] [], .sl [] [], .sl [] [], .sl [] [], .sl [] [], .sl [] [], .sl [] [], .v (.int .i64 0)] [], [], none⟩,
     ⟨none, .store 15, [.t 4, .t 24], none⟩,
     ⟨some 5, .mv, [.c (.p (.v (.int .i64 21)))], none⟩])
    .ret)
  .skip))
  (.seq (.reg [⟨some 25, .fad 1, [.t 3], none⟩,
   ⟨some 26, .load 1 false, [.t 25], none⟩,
   ⟨some 27, .call 109, [.t 26], none⟩,
   ⟨some 8, .mv, [.t 27], none⟩])
  (.seq (.seq (.reg [⟨some 28, .mv, [.t 8], none⟩,
   ⟨some 29, .bin .neq, [.t 28, .c (.p (.v (.int .i64 0)))], none⟩])
  (.cond (.t 29)
  (.seq (.reg [⟨some 30, .build [.sl [] [], .sl [] [], .sl [] [], .sl [] [], .sl [] [], .sl [] [], .sl [] [], .sl [] [], .sl [] [], .sl [] [], .sl [] [], .sl [] [], .sl [] [], .sl [] [], .v (.int .i64 0)] [], [], none⟩,
     ⟨some 31, .mv, [.t 8], none⟩,
     ⟨none, .store 15, [.t 4, .t 30], none⟩,
     ⟨some 5, .mv, [.t 31], none⟩])
    .ret)
  .skip))
  (.seq (.seq (.reg [⟨some 32, .fad 2, [.t 3], none⟩,
   ⟨some 33, .load 1 false, [.t 32], none⟩,
   ⟨some 34, .bin .lss, [.t 33, .c (.p (.v (.int .i64 0)))], none⟩,
   ⟨some 35, .mv, [.t 34], none⟩,
   ⟨some 36, .fad 2, [.t 3], some (35, false)⟩,
   ⟨some 37, .load 1 false, [.t 36], some (35, false)⟩,
   ⟨some 38, .bin .gtr, [.t 37, .c (.p (.v (.int .i64 100000)))], some (35, false)⟩,
   ⟨some 39, .pick, [.t 35, .c (.p (.v (.bool true))), .t 38], none⟩])
  (.cond (.t 39)
  (.seq (.reg [⟨some 40, .build [.sl [] [], .sl [] [], .sl [] [], .sl [] [], .sl [] [], .sl [] [], .sl [] [], .sl [] [], .sl [] [], .sl [] [], .sl [] [], .sl [] [], .sl [] [], .sl [] [], .v (.int .i64 0)] [], [], none⟩,
     ⟨none, .store 15, [.t 4, .t 40], none⟩,
     ⟨some 5, .mv, [.c (.p (.v (.int .i64 5)))], none⟩])
    .ret)
  .skip))
  (.seq (.reg [⟨some 42, .load 15 true, [.t 2], none⟩,
   ⟨some 43, .fad 0, [.t 3], none⟩,
   ⟨some 44, .load 1 false, [.t 43], none⟩,
   ⟨some 45, .fad 1, [.t 3], none⟩,
   ⟨some 46, .load 1 false, [.t 45], none⟩,
   ⟨some 47, .call 72, [.t 42, .t 44, .t 46], none⟩,
   ⟨some 41, .mv, [.t 47], none⟩,
   ⟨some 48, .ext 0, [.t 41], none⟩,
   ⟨some 49, .ext 1, [.t 41], none⟩,
   ⟨some 9, .alloc [.v (.string ⟨#[]⟩), .v (.string ⟨#[]⟩), .v (.int .i64 0)], [], none⟩,
   ⟨none, .store 3, [.t 9, .t 48], none⟩,
   ⟨some 10, .mv, [.t 49], none⟩])
  (.seq (.seq (.reg [⟨some 50, .mv, [.t 10], none⟩])
  (.cond (.t 50)
  (.seq (.reg [⟨some 51, .build [.sl [] [], .sl [] [], .sl [] [], .sl [] [], .sl [] [], .sl [] [], .sl [] [], .sl [] [], .sl [] [], .sl [] [], .sl [] [], .sl [] [], .sl [] [], .sl [] [], .v (.int .i64 0)] [], [], none⟩,
     ⟨none, .store 15, [.t 4, .t 51], none⟩,
     ⟨some 5, .mv, [.c (.p (.v (.int .i64 11)))], none⟩])
    .ret)
  .skip))
  (.seq (.seq (.reg [⟨some 52, .fad 1, [.t 2], none⟩,
   ⟨some 53, .load 1 false, [.t 52], none⟩,
   ⟨some 54, .len 0, [.t 53], none⟩,
   ⟨some 55, .bin .geq, [.t 54, .c (.p (.v (.int .i64 128)))], none⟩])
  (.cond (.t 55)
  (.seq (.reg [⟨some 56, .build [.sl [] [], .sl [] [], .sl [] [], .sl [] [], .sl [] [], .sl [] [], .sl [] [], .sl [] [], .sl [] [], .sl [] [], .sl [] [], .sl [] [], .sl [] [], .sl [] [], .v (.int .i64 0)] [], [], none⟩,
     ⟨none, .store 15, [.t 4, .t 56], none⟩,
     ⟨some 5, .mv, [.c (.p (.v (.int .i64 14)))], none⟩])
    .ret)
  .skip))
  (.seq (.reg [⟨some 57, .load 15 true, [.t 2], none⟩,
   ⟨some 58, .load 3 true, [.t 3], none⟩,
   ⟨some 59, .call 113, [.t 57, .t 58], none⟩,
   ⟨none, .store 15, [.t 4, .t 59], none⟩,
   ⟨some 5, .mv, [.c (.p (.v (.int .i64 0)))], none⟩])
  .ret)))))))))))
theorem ret45 {ps : List PV} {p : PV} (hn : Nat.ble ps.length 60 = true) (h : (∀ q ∈ ps, q.bd) → Run Try.prog (fun e s' => (∀ id, e ≠ .exit id) ∧ ∃ ns, s'.out [.c 4 15 true, .t 5] = some (p, ns)) [] c45 (S (initL 0 ps) [])) : Ret Try.prog 45 ps p :=
  ret_run Try.func45 rfl (by kernel_rfl) rfl (by kernel_rfl) (by kernel_rfl) (by kernel_rfl) (by kernel_rfl) (Nat.le_of_ble_eq_true hn) h

/-- stevedore/lots.refuses -/
def c110 : C :=
  (.seq (.reg [⟨some 2, .box, [.t 0], none⟩,
   ⟨some 3, .box, [.t 1], none⟩,
   ⟨some 4, .mv, [.c (.p (.v (.int .i64 0)))], none⟩])
  (.seq (.reg [⟨some 11, .load 15 true, [.t 2], none⟩,
   ⟨some 12, .fad 0, [.t 3], none⟩,
   ⟨some 13, .load 1 false, [.t 12], none⟩,
   ⟨some 14, .call 38, [.t 11, .t 13], none⟩,
   ⟨some 10, .mv, [.t 14], none⟩,
   ⟨some 15, .ext 0, [.t 10], none⟩,
   ⟨some 16, .ext 1, [.t 10], none⟩,
   ⟨some 5, .alloc [.v (.string ⟨#[]⟩), .v (.string ⟨#[]⟩), .v (.int .i64 0), .v (.string ⟨#[]⟩), .v (.int .i64 0), .v (.string ⟨#[]⟩), .v (.int .i64 0), .v (.string ⟨#[]⟩), .v (.int .i64 0), .v (.int .i64 0), .v (.int .i64 0), .v (.bool false), .v (.bool false), .v (.bool false)], [], none⟩,
   ⟨none, .store 14, [.t 5, .t 15], none⟩,
   ⟨some 6, .mv, [.t 16], none⟩])
  (.seq (.block 0
  (.seq (.reg [⟨some 18, .mv, [.t 6], none⟩,
   ⟨some 19, .un .not, [.t 18], none⟩,
   ⟨some 17, .mv, [.t 19], none⟩])
  (.cond (.t 17)
  (.seq (.reg [⟨some 4, .mv, [.c (.p (.v (.int .i64 12)))], none⟩])
    .ret)
  (.seq (.reg [⟨some 21, .fad 11, [.t 5], none⟩,
     ⟨some 22, .load 1 false, [.t 21], none⟩,
     ⟨some 23, .un .not, [.t 22], none⟩,
     ⟨some 20, .mv, [.t 23], none⟩])
    (.cond (.t 20)
    (.seq (.reg [⟨some 4, .mv, [.c (.p (.v (.int .i64 21)))], none⟩])
      .ret)
    .skip)))))
  (.seq (.seq (.reg [⟨some 24, .fad 1, [.t 3], none⟩,
   ⟨some 25, .load 1 false, [.t 24], none⟩,
   ⟨some 26, .call 106, [.t 25], none⟩,
   ⟨some 7, .mv, [.t 26], none⟩])
  (.seq (.reg [⟨some 27, .mv, [.t 7], none⟩,
   ⟨some 28, .bin .neq, [.t 27, .c (.p (.v (.int .i64 0)))], none⟩])
  (.cond (.t 28)
  (.seq (.reg [⟨some 29, .mv, [.t 7], none⟩,
     ⟨some 4, .mv, [.t 29], none⟩])
    .ret)
  .skip)))
  (.seq (.reg [⟨some 31, .load 15 true, [.t 2], none⟩,
   ⟨some 32, .fad 0, [.t 3], none⟩,
   ⟨some 33, .load 1 false, [.t 32], none⟩,
   ⟨some 34, .fad 1, [.t 3], none⟩,
   ⟨some 35, .load 1 false, [.t 34], none⟩,
   ⟨some 36, .call 71, [.t 31, .t 33, .t 35], none⟩,
   ⟨some 30, .mv, [.t 36], none⟩,
   ⟨some 37, .ext 0, [.t 30], none⟩,
   ⟨some 38, .ext 1, [.t 30], none⟩,
   ⟨some 8, .alloc [.v (.string ⟨#[]⟩), .v (.string ⟨#[]⟩), .v (.int .i64 0)], [], none⟩,
   ⟨none, .store 3, [.t 8, .t 37], none⟩,
   ⟨some 9, .mv, [.t 38], none⟩])
  (.seq (.block 1
  (.seq (.reg [⟨some 40, .fad 2, [.t 3], none⟩,
   ⟨some 41, .load 1 false, [.t 40], none⟩,
   ⟨some 42, .bin .lss, [.t 41, .c (.p (.v (.int .i64 0)))], none⟩,
   ⟨some 43, .mv, [.t 42], none⟩,
   ⟨some 44, .fad 2, [.t 3], some (43, false)⟩,
   ⟨some 45, .load 1 false, [.t 44], some (43, false)⟩,
   ⟨some 46, .bin .gtr, [.t 45, .c (.p (.v (.int .i64 100000)))], some (43, false)⟩,
   ⟨some 47, .pick, [.t 43, .c (.p (.v (.bool true))), .t 46], none⟩,
   ⟨some 39, .mv, [.t 47], none⟩])
  (.cond (.t 39)
  (.seq (.reg [⟨some 4, .mv, [.c (.p (.v (.int .i64 5)))], none⟩])
    .ret)
  (.seq (.reg [⟨some 49, .mv, [.t 9], none⟩,
     ⟨some 48, .mv, [.t 49], none⟩])
    (.cond (.t 48)
    (.seq (.reg [⟨some 4, .mv, [.c (.p (.v (.int .i64 11)))], none⟩])
      .ret)
    (.seq (.reg [⟨some 51, .fad 1, [.t 2], none⟩,
       ⟨some 52, .load 1 false, [.t 51], none⟩,
       ⟨some 53, .len 0, [.t 52], none⟩,
       ⟨some 54, .bin .geq, [.t 53, .c (.p (.v (.int .i64 128)))], none⟩,
       ⟨some 50, .mv, [.t 54], none⟩])
      (.cond (.t 50)
      (.seq (.reg [⟨some 4, .mv, [.c (.p (.v (.int .i64 14)))], none⟩])
        .ret)
      .skip)))))))
  (.seq (.reg [⟨some 4, .mv, [.c (.p (.v (.int .i64 0)))], none⟩])
  .ret)))))))
theorem ret110 {ps : List PV} {p : PV} (hn : Nat.ble ps.length 55 = true) (h : (∀ q ∈ ps, q.bd) → Run Try.prog (fun e s' => (∀ id, e ≠ .exit id) ∧ ∃ ns, s'.out [.t 4] = some (p, ns)) [] c110 (S (initL 0 ps) [])) : Ret Try.prog 110 ps p :=
  ret_run Try.func110 rfl (by kernel_rfl) rfl (by kernel_rfl) (by kernel_rfl) (by kernel_rfl) (by kernel_rfl) (Nat.le_of_ble_eq_true hn) h

/-- stevedore/stevedorelaw07.ItemsAdds -/
def c6 : C :=
  (.seq (.reg [⟨some 3, .box, [.t 0], none⟩,
   ⟨some 4, .box, [.t 1], none⟩,
   ⟨some 6, .mv, [.c (.p (.v (.bool false)))], none⟩])
  (.seq (.seq (.reg [⟨some 16, .load 15 true, [.t 3], none⟩,
   ⟨some 17, .call 28, [.t 16], none⟩,
   ⟨some 18, .un .not, [.t 17], none⟩])
  (.cond (.t 18)
  (.seq (.reg [⟨some 19, .call 34, [], none⟩,
     ⟨some 6, .mv, [.t 19], none⟩])
    .ret)
  .skip))
  (.seq (.reg [⟨some 20, .load 15 true, [.t 3], none⟩,
   ⟨some 21, .call 35, [.t 20], none⟩,
   ⟨some 7, .alloc [.sl [] [], .sl [] [], .sl [] [], .sl [] [], .sl [] [], .sl [] [], .sl [] [], .sl [] [], .sl [] [], .sl [] [], .sl [] [], .sl [] [], .sl [] [], .sl [] [], .v (.int .i64 0)], [], none⟩,
   ⟨none, .store 15, [.t 7, .t 21], none⟩])
  (.seq (.reg [⟨some 23, .load 15 true, [.t 7], none⟩,
   ⟨some 24, .load 14 true, [.t 4], none⟩,
   ⟨some 25, .call 36, [.t 23, .t 24], none⟩,
   ⟨some 22, .mv, [.t 25], none⟩,
   ⟨some 26, .ext 0, [.t 22], none⟩,
   ⟨some 27, .ext 1, [.t 22], none⟩,
   ⟨some 8, .alloc [.sl [] [], .sl [] [], .sl [] [], .sl [] [], .sl [] [], .sl [] [], .sl [] [], .sl [] [], .sl [] [], .sl [] [], .sl [] [], .sl [] [], .sl [] [], .sl [] [], .v (.int .i64 0)], [], none⟩,
   ⟨none, .store 15, [.t 8, .t 26], none⟩,
   ⟨some 9, .mv, [.t 27], none⟩])
  (.seq (.reg [⟨some 29, .load 15 true, [.t 3], none⟩,
   ⟨some 30, .load 14 true, [.t 4], none⟩,
   ⟨some 31, .call 37, [.t 29, .t 30], none⟩,
   ⟨some 28, .mv, [.t 31], none⟩,
   ⟨some 32, .ext 0, [.t 28], none⟩,
   ⟨some 33, .ext 1, [.t 28], none⟩,
   ⟨some 10, .alloc [.sl [] [], .sl [] [], .sl [] [], .sl [] [], .sl [] [], .sl [] [], .sl [] [], .sl [] [], .sl [] [], .sl [] [], .sl [] [], .sl [] [], .sl [] [], .sl [] [], .v (.int .i64 0)], [], none⟩,
   ⟨none, .store 15, [.t 10, .t 32], none⟩,
   ⟨some 11, .mv, [.t 33], none⟩])
  (.seq (.reg [⟨some 35, .load 15 true, [.t 7], none⟩,
   ⟨some 36, .mv, [.t 2], none⟩,
   ⟨some 37, .call 38, [.t 35, .t 36], none⟩,
   ⟨some 34, .mv, [.t 37], none⟩,
   ⟨some 38, .ext 0, [.t 34], none⟩,
   ⟨some 39, .ext 1, [.t 34], none⟩,
   ⟨some 12, .alloc [.v (.string ⟨#[]⟩), .v (.string ⟨#[]⟩), .v (.int .i64 0), .v (.string ⟨#[]⟩), .v (.int .i64 0), .v (.string ⟨#[]⟩), .v (.int .i64 0), .v (.string ⟨#[]⟩), .v (.int .i64 0), .v (.int .i64 0), .v (.int .i64 0), .v (.bool false), .v (.bool false), .v (.bool false)], [], none⟩,
   ⟨none, .store 14, [.t 12, .t 38], none⟩,
   ⟨some 13, .mv, [.t 39], none⟩])
  (.seq (.reg [⟨some 41, .load 15 true, [.t 3], none⟩,
   ⟨some 42, .mv, [.t 2], none⟩,
   ⟨some 43, .call 39, [.t 41, .t 42], none⟩,
   ⟨some 40, .mv, [.t 43], none⟩,
   ⟨some 44, .ext 0, [.t 40], none⟩,
   ⟨some 45, .ext 1, [.t 40], none⟩,
   ⟨some 14, .alloc [.v (.string ⟨#[]⟩), .v (.string ⟨#[]⟩), .v (.int .i64 0), .v (.string ⟨#[]⟩), .v (.int .i64 0), .v (.string ⟨#[]⟩), .v (.int .i64 0), .v (.string ⟨#[]⟩), .v (.int .i64 0), .v (.int .i64 0), .v (.int .i64 0), .v (.bool false), .v (.bool false), .v (.bool false)], [], none⟩,
   ⟨none, .store 14, [.t 14, .t 44], none⟩,
   ⟨some 15, .mv, [.t 45], none⟩])
  (.seq (.regd [⟨some 46, .mv, [.t 9], none⟩,
   ⟨some 47, .mv, [.t 11], none⟩,
   ⟨some 48, .bin .eql, [.t 46, .t 47], none⟩,
   ⟨some 49, .mv, [.t 48], none⟩,
   ⟨some 50, .load 15 true, [.t 8], some (49, true)⟩,
   ⟨some 51, .load 15 true, [.t 10], some (49, true)⟩,
   ⟨some 52, .call 40, [.t 50, .t 51], some (49, true)⟩,
   ⟨some 53, .pick, [.t 49, .t 52, .c (.p (.v (.bool false)))], none⟩,
   ⟨some 54, .mv, [.t 53], none⟩,
   ⟨some 55, .load 14 true, [.t 4], some (54, true)⟩,
   ⟨some 56, .call 41, [.t 55], some (54, true)⟩,
   ⟨some 57, .load 14 true, [.t 4], some (54, true)⟩,
   ⟨some 58, .call 42, [.t 57], some (54, true)⟩,
   ⟨some 59, .bin .eql, [.t 56, .t 58], some (54, true)⟩,
   ⟨some 60, .pick, [.t 54, .t 59, .c (.p (.v (.bool false)))], none⟩,
   ⟨some 61, .mv, [.t 60], none⟩,
   ⟨some 62, .load 14 true, [.t 12], some (61, true)⟩,
   ⟨some 63, .load 14 true, [.t 14], some (61, true)⟩,
   ⟨some 64, .eqs false [.s, .s, .i .i64, .s, .i .i64, .s, .i .i64, .s, .i .i64, .i .i64, .i .i64, .b, .b, .b], [.t 62, .t 63], some (61, true)⟩,
   ⟨some 65, .pick, [.t 61, .t 64, .c (.p (.v (.bool false)))], none⟩,
   ⟨some 66, .mv, [.t 65], none⟩,
   ⟨some 67, .mv, [.t 13], some (66, true)⟩,
   ⟨some 68, .mv, [.t 15], some (66, true)⟩,
   ⟨some 69, .beq false, [.t 67, .t 68], some (66, true)⟩,
   ⟨some 70, .pick, [.t 66, .t 69, .c (.p (.v (.bool false)))], none⟩,
   ⟨some 71, .mv, [.t 70], none⟩,
   ⟨some 72, .load 15 true, [.t 7], some (71, true)⟩,
   ⟨some 73, .load 15 true, [.t 3], some (71, true)⟩,
   ⟨some 74, .call 43, [.t 72, .t 73], some (71, true)⟩,
   ⟨some 75, .pick, [.t 71, .t 74, .c (.p (.v (.bool false)))], none⟩,
   ⟨some 76, .mv, [.t 75], none⟩,
   ⟨some 77, .call 34, [], some (76, true)⟩,
   ⟨some 78, .pick, [.t 76, .t 77, .c (.p (.v (.bool false)))], none⟩,
   ⟨some 6, .mv, [.t 78], none⟩])
  .ret))))))))
theorem ret6 {ps : List PV} {p : PV} (hn : Nat.ble ps.length 79 = true) (h : (∀ q ∈ ps, q.bd) → Run Try.prog (fun e s' => (∀ id, e ≠ .exit id) ∧ ∃ ns, s'.out [.t 6] = some (p, ns)) [] c6 (S (initL 0 ps) [])) : Ret Try.prog 6 ps p :=
  ret_run Try.func6 rfl (by kernel_rfl) rfl (by kernel_rfl) (by kernel_rfl) (by kernel_rfl) (by kernel_rfl) (Nat.le_of_ble_eq_true hn) h

/-- stevedore/stevedorelaw07.ItemsFinds -/
def c7 : C :=
  (.seq (.reg [⟨some 2, .mv, [.c (.p (.v (.bool false)))], none⟩])
  (.seq (.reg [⟨some 3, .alloc [.sl [] [], .sl [] [], .sl [] [], .sl [] [], .sl [] [], .sl [] [], .sl [] [], .sl [] [], .sl [] [], .sl [] [], .sl [] [], .sl [] [], .sl [] [], .sl [] [], .v (.int .i64 0)], [], none⟩])
  (.seq (.reg [⟨some 14, .mkmap 9 46, [], none⟩,
   ⟨some 4, .mv, [.t 14], none⟩])
  (.seq (.seq (.reg [⟨some 5, .mv, [.c (.p (.v (.int .i64 0)))], none⟩])
  (.block 0
  (.loop
  (.seq (.seq (.reg [⟨some 15, .mv, [.t 5], none⟩,
   ⟨some 16, .mv, [.t 0], none⟩,
   ⟨some 17, .len 0, [.t 16], none⟩,
   ⟨some 18, .bin .lss, [.t 15, .t 17], none⟩,
   ⟨some 19, .mv, [.t 18], none⟩,
   ⟨some 20, .mv, [.t 5], some (19, true)⟩,
   ⟨some 21, .bin .lss, [.t 20, .c (.p (.v (.int .i64 100)))], some (19, true)⟩,
   ⟨some 22, .pick, [.t 19, .t 21, .c (.p (.v (.bool false)))], none⟩])
  (.cond (.t 22)
  .skip
  (.exit 0)))
  (.seq (.block 1
  (.seq (.reg [⟨some 25, .mv, [.t 4], none⟩,
   ⟨some 26, .len 2, [.t 25], none⟩,
   ⟨some 6, .mv, [.t 26], none⟩])
  (.seq (.regd [⟨some 28, .load 15 true, [.t 3], none⟩,
   ⟨some 29, .mv, [.t 0], none⟩,
   ⟨some 30, .mv, [.t 5], none⟩,
   ⟨some 31, .iad 14, [.t 29, .t 30], none⟩,
   ⟨some 32, .load 14 true, [.t 31], none⟩,
   ⟨some 33, .call 36, [.t 28, .t 32], none⟩,
   ⟨some 27, .mv, [.t 33], none⟩,
   ⟨some 34, .ext 0, [.t 27], none⟩,
   ⟨some 35, .ext 1, [.t 27], none⟩,
   ⟨some 7, .alloc [.sl [] [], .sl [] [], .sl [] [], .sl [] [], .sl [] [], .sl [] [], .sl [] [], .sl [] [], .sl [] [], .sl [] [], .sl [] [], .sl [] [], .sl [] [], .sl [] [], .v (.int .i64 0)], [], none⟩,
   ⟨none, .store 15, [.t 7, .t 34], none⟩,
   ⟨some 8, .mv, [.t 35], none⟩])
  (.seq (.reg [⟨some 37, .mv, [.t 4], none⟩,
   ⟨some 38, .mv, [.t 0], none⟩,
   ⟨some 39, .mv, [.t 5], none⟩,
   ⟨some 40, .iad 14, [.t 38, .t 39], none⟩,
   ⟨some 41, .fad 0, [.t 40], none⟩,
   ⟨some 42, .load 1 false, [.t 41], none⟩,
   ⟨some 43, .look 9 (.agg [.v (.string ⟨#[]⟩), .v (.string ⟨#[]⟩), .v (.int .i64 0), .v (.string ⟨#[]⟩), .v (.int .i64 0), .v (.string ⟨#[]⟩), .v (.int .i64 0), .v (.string ⟨#[]⟩), .v (.int .i64 0), .v (.int .i64 0), .v (.int .i64 0), .v (.bool false), .v (.bool false), .v (.bool false)]) true, [.t 37, .t 42], none⟩,
   ⟨some 36, .mv, [.t 43], none⟩,
   ⟨some 44, .ext 0, [.t 36], none⟩,
   ⟨some 45, .ext 1, [.t 36], none⟩,
   ⟨some 9, .alloc [.v (.string ⟨#[]⟩), .v (.string ⟨#[]⟩), .v (.int .i64 0), .v (.string ⟨#[]⟩), .v (.int .i64 0), .v (.string ⟨#[]⟩), .v (.int .i64 0), .v (.string ⟨#[]⟩), .v (.int .i64 0), .v (.int .i64 0), .v (.int .i64 0), .v (.bool false), .v (.bool false), .v (.bool false)], [], none⟩,
   ⟨none, .store 14, [.t 9, .t 44], none⟩,
   ⟨some 10, .mv, [.t 45], none⟩])
  (.seq (.seq (.reg [⟨some 46, .mv, [.t 8], none⟩,
   ⟨some 47, .bin .eql, [.t 46, .c (.p (.v (.int .i64 0)))], none⟩])
  (.cond (.t 47)
  (.seq (.seq (.reg [⟨some 48, .mv, [.t 10], none⟩,
     ⟨some 49, .mv, [.t 48], none⟩,
     ⟨some 50, .mv, [.t 6], some (49, false)⟩,
     ⟨some 51, .bin .geq, [.t 50, .c (.p (.v (.int .i64 64)))], some (49, false)⟩,
     ⟨some 52, .pick, [.t 49, .c (.p (.v (.bool true))), .t 51], none⟩,
     ⟨some 53, .mv, [.t 52], none⟩,
     ⟨some 54, .mv, [.t 0], some (53, false)⟩,
     ⟨some 55, .mv, [.t 5], some (53, false)⟩,
     ⟨some 56, .iad 14, [.t 54, .t 55], some (53, false)⟩,
     ⟨some 57, .load 14 true, [.t 56], some (53, false)⟩,
     ⟨some 58, .call 41, [.t 57], some (53, false)⟩,
     ⟨some 59, .bin .neq, [.t 58, .c (.p (.v (.int .i64 0)))], some (53, false)⟩,
     ⟨some 60, .pick, [.t 53, .c (.p (.v (.bool true))), .t 59], none⟩])
    (.cond (.t 60)
    (.seq (.reg [⟨some 2, .mv, [.c (.p (.v (.bool false)))], none⟩])
      .ret)
    .skip))
    (.seq (.reg [⟨some 61, .load 15 true, [.t 7], none⟩,
     ⟨none, .store 15, [.t 3, .t 61], none⟩])
    (.regd [⟨some 62, .mv, [.t 4], none⟩,
     ⟨some 63, .mv, [.t 0], none⟩,
     ⟨some 64, .mv, [.t 5], none⟩,
     ⟨some 65, .iad 14, [.t 63, .t 64], none⟩,
     ⟨some 66, .fad 0, [.t 65], none⟩,
     ⟨some 67, .load 1 false, [.t 66], none⟩,
     ⟨some 68, .mv, [.t 0], none⟩,
     ⟨some 69, .mv, [.t 5], none⟩,
     ⟨some 70, .iad 14, [.t 68, .t 69], none⟩,
     ⟨some 71, .load 14 true, [.t 70], none⟩,
     ⟨none, .mset 9 46, [.t 62, .t 67, .t 71], none⟩])))
  (.seq (.reg [⟨some 72, .mv, [.t 0], none⟩,
     ⟨some 73, .mv, [.t 5], none⟩,
     ⟨some 74, .iad 14, [.t 72, .t 73], none⟩,
     ⟨some 75, .load 14 true, [.t 74], none⟩,
     ⟨some 76, .call 41, [.t 75], none⟩,
     ⟨some 77, .bin .eql, [.t 76, .c (.p (.v (.int .i64 0)))], none⟩,
     ⟨some 78, .mv, [.t 77], none⟩,
     ⟨some 79, .mv, [.t 10], some (78, true)⟩,
     ⟨some 80, .un .not, [.t 79], some (78, true)⟩,
     ⟨some 81, .pick, [.t 78, .t 80, .c (.p (.v (.bool false)))], none⟩,
     ⟨some 82, .mv, [.t 81], none⟩,
     ⟨some 83, .mv, [.t 6], some (82, true)⟩,
     ⟨some 84, .bin .lss, [.t 83, .c (.p (.v (.int .i64 64)))], some (82, true)⟩,
     ⟨some 85, .pick, [.t 82, .t 84, .c (.p (.v (.bool false)))], none⟩])
    (.cond (.t 85)
    (.seq (.reg [⟨some 2, .mv, [.c (.p (.v (.bool false)))], none⟩])
      .ret)
    .skip))))
  (.seq (.seq (.reg [⟨some 86, .fad 0, [.t 3], none⟩,
   ⟨some 87, .load 1 false, [.t 86], none⟩,
   ⟨some 88, .len 0, [.t 87], none⟩,
   ⟨some 89, .mv, [.t 4], none⟩,
   ⟨some 90, .len 2, [.t 89], none⟩,
   ⟨some 91, .bin .neq, [.t 88, .t 90], none⟩])
  (.cond (.t 91)
  (.seq (.reg [⟨some 2, .mv, [.c (.p (.v (.bool false)))], none⟩])
    .ret)
  .skip))
  (.seq (.reg [⟨some 11, .mv, [.c (.p (.v (.int .i64 0)))], none⟩])
  (.block 2
  (.loop
  (.seq (.seq (.reg [⟨some 92, .mv, [.t 11], none⟩,
   ⟨some 93, .fad 0, [.t 3], none⟩,
   ⟨some 94, .load 1 false, [.t 93], none⟩,
   ⟨some 95, .len 0, [.t 94], none⟩,
   ⟨some 96, .bin .lss, [.t 92, .t 95], none⟩])
  (.cond (.t 96)
  .skip
  (.exit 2)))
  (.seq (.block 3
  (.seq (.regd [⟨some 100, .load 15 true, [.t 3], none⟩,
   ⟨some 101, .fad 0, [.t 3], none⟩,
   ⟨some 102, .load 1 false, [.t 101], none⟩,
   ⟨some 103, .mv, [.t 11], none⟩,
   ⟨some 104, .iad 14, [.t 102, .t 103], none⟩,
   ⟨some 105, .fad 0, [.t 104], none⟩,
   ⟨some 106, .load 1 false, [.t 105], none⟩,
   ⟨some 107, .call 38, [.t 100, .t 106], none⟩,
   ⟨some 99, .mv, [.t 107], none⟩,
   ⟨some 108, .ext 0, [.t 99], none⟩,
   ⟨some 109, .ext 1, [.t 99], none⟩,
   ⟨some 12, .alloc [.v (.string ⟨#[]⟩), .v (.string ⟨#[]⟩), .v (.int .i64 0), .v (.string ⟨#[]⟩), .v (.int .i64 0), .v (.string ⟨#[]⟩), .v (.int .i64 0), .v (.string ⟨#[]⟩), .v (.int .i64 0), .v (.int .i64 0), .v (.int .i64 0), .v (.bool false), .v (.bool false), .v (.bool false)], [], none⟩,
   ⟨none, .store 14, [.t 12, .t 108], none⟩,
   ⟨some 13, .mv, [.t 109], none⟩])
  (.seq (.regd [⟨some 110, .mv, [.t 13], none⟩,
   ⟨some 111, .un .not, [.t 110], none⟩,
   ⟨some 112, .mv, [.t 111], none⟩,
   ⟨some 113, .load 14 true, [.t 12], some (112, false)⟩,
   ⟨some 114, .fad 0, [.t 3], some (112, false)⟩,
   ⟨some 115, .load 1 false, [.t 114], some (112, false)⟩,
   ⟨some 116, .mv, [.t 11], some (112, false)⟩,
   ⟨some 117, .iad 14, [.t 115, .t 116], some (112, false)⟩,
   ⟨some 118, .load 14 true, [.t 117], some (112, false)⟩,
   ⟨some 119, .eqs true [.s, .s, .i .i64, .s, .i .i64, .s, .i .i64, .s, .i .i64, .i .i64, .i .i64, .b, .b, .b], [.t 113, .t 118], some (112, false)⟩,
   ⟨some 120, .pick, [.t 112, .c (.p (.v (.bool true))), .t 119], none⟩,
   ⟨some 121, .mv, [.t 120], none⟩,
   ⟨some 122, .mv, [.t 4], some (121, false)⟩,
   ⟨some 123, .fad 0, [.t 12], some (121, false)⟩,
   ⟨some 124, .load 1 false, [.t 123], some (121, false)⟩,
   ⟨some 125, .look 9 (.agg [.v (.string ⟨#[]⟩), .v (.string ⟨#[]⟩), .v (.int .i64 0), .v (.string ⟨#[]⟩), .v (.int .i64 0), .v (.string ⟨#[]⟩), .v (.int .i64 0), .v (.string ⟨#[]⟩), .v (.int .i64 0), .v (.int .i64 0), .v (.int .i64 0), .v (.bool false), .v (.bool false), .v (.bool false)]) false, [.t 122, .t 124], some (121, false)⟩,
   ⟨some 126, .load 14 true, [.t 12], some (121, false)⟩,
   ⟨some 127, .eqs true [.s, .s, .i .i64, .s, .i .i64, .s, .i .i64, .s, .i .i64, .i .i64, .i .i64, .b, .b, .b], [.t 125, .t 126], some (121, false)⟩,
   ⟨some 128, .pick, [.t 121, .c (.p (.v (.bool true))), .t 127], none⟩,
   ⟨some 129, .mv, [.t 128], none⟩,
   ⟨some 130, .mv, [.t 11], some (129, false)⟩,
   ⟨some 131, .bin .gtr, [.t 130, .c (.p (.v (.int .i64 0)))], some (129, false)⟩,
   ⟨some 132, .mv, [.t 131], some (129, false)⟩,
   ⟨some 133, .fad 0, [.t 3], some (132, true)⟩,
   ⟨some 134, .load 1 false, [.t 133], some (132, true)⟩,
   ⟨some 135, .mv, [.t 11], some (132, true)⟩,
   ⟨some 136, .bin .sub, [.t 135, .c (.p (.v (.int .i64 1)))], some (132, true)⟩,
   ⟨some 137, .iad 14, [.t 134, .t 136], some (132, true)⟩,
   ⟨some 138, .fad 0, [.t 137], some (132, true)⟩,
   ⟨some 139, .load 1 false, [.t 138], some (132, true)⟩,
   ⟨some 140, .fad 0, [.t 12], some (132, true)⟩,
   ⟨some 141, .load 1 false, [.t 140], some (132, true)⟩,
   ⟨some 142, .bin .geq, [.t 139, .t 141], some (132, true)⟩,
   ⟨some 143, .pick, [.t 132, .t 142, .c (.p (.v (.bool false)))], some (129, false)⟩,
   ⟨some 144, .pick, [.t 129, .c (.p (.v (.bool true))), .t 143], none⟩])
  (.cond (.t 144)
  (.seq (.reg [⟨some 2, .mv, [.c (.p (.v (.bool false)))], none⟩])
    .ret)
  .skip))))
  (.reg [⟨some 97, .mv, [.t 11], none⟩,
   ⟨some 98, .bin .add, [.t 97, .c (.p (.v (.int .i64 1)))], none⟩,
   ⟨some 11, .mv, [.t 98], none⟩]))))))))))))
  (.reg [⟨some 23, .mv, [.t 5], none⟩,
   ⟨some 24, .bin .add, [.t 23, .c (.p (.v (.int .i64 1)))], none⟩,
   ⟨some 5, .mv, [.t 24], none⟩]))))))
  (.seq (.reg [⟨some 145, .call 34, [], none⟩,
   ⟨some 2, .mv, [.t 145], none⟩])
  .ret)))))
theorem ret7 {ps : List PV} {p : PV} (hn : Nat.ble ps.length 146 = true) (h : (∀ q ∈ ps, q.bd) → Run Try.prog (fun e s' => (∀ id, e ≠ .exit id) ∧ ∃ ns, s'.out [.t 2] = some (p, ns)) [] c7 (S (initL 0 ps) [])) : Ret Try.prog 7 ps p :=
  ret_run Try.func7 rfl (by kernel_rfl) rfl (by kernel_rfl) (by kernel_rfl) (by kernel_rfl) (by kernel_rfl) (Nat.le_of_ble_eq_true hn) h

/-- stevedore/stevedorelaw07.ItemsChecks -/
def c8 : C :=
  (.seq (.reg [⟨some 1, .box, [.t 0], none⟩,
   ⟨some 2, .mv, [.c (.p (.v (.bool false)))], none⟩])
  (.seq (.reg [⟨some 8, .load 14 true, [.t 1], none⟩,
   ⟨some 9, .call 41, [.t 8], none⟩,
   ⟨some 3, .mv, [.t 9], none⟩])
  (.seq (.seq (.reg [⟨some 10, .mv, [.t 3], none⟩,
   ⟨some 11, .bin .neq, [.t 10, .c (.p (.v (.int .i64 0)))], none⟩])
  (.cond (.t 11)
  (.seq (.reg [⟨some 12, .mv, [.t 3], none⟩,
     ⟨some 13, .bin .eql, [.t 12, .c (.p (.v (.int .i64 3)))], none⟩,
     ⟨some 14, .mv, [.t 13], none⟩,
     ⟨some 15, .mv, [.t 3], some (14, false)⟩,
     ⟨some 16, .bin .eql, [.t 15, .c (.p (.v (.int .i64 4)))], some (14, false)⟩,
     ⟨some 17, .pick, [.t 14, .c (.p (.v (.bool true))), .t 16], none⟩,
     ⟨some 18, .mv, [.t 17], none⟩,
     ⟨some 19, .mv, [.t 3], some (18, false)⟩,
     ⟨some 20, .bin .eql, [.t 19, .c (.p (.v (.int .i64 11)))], some (18, false)⟩,
     ⟨some 21, .pick, [.t 18, .c (.p (.v (.bool true))), .t 20], none⟩,
     ⟨some 22, .mv, [.t 21], none⟩,
     ⟨some 23, .mv, [.t 3], some (22, false)⟩,
     ⟨some 24, .bin .eql, [.t 23, .c (.p (.v (.int .i64 5)))], some (22, false)⟩,
     ⟨some 25, .pick, [.t 22, .c (.p (.v (.bool true))), .t 24], none⟩,
     ⟨some 26, .mv, [.t 25], none⟩,
     ⟨some 27, .mv, [.t 3], some (26, false)⟩,
     ⟨some 28, .bin .eql, [.t 27, .c (.p (.v (.int .i64 21)))], some (26, false)⟩,
     ⟨some 29, .pick, [.t 26, .c (.p (.v (.bool true))), .t 28], none⟩,
     ⟨some 30, .mv, [.t 29], none⟩,
     ⟨some 31, .call 34, [], some (30, true)⟩,
     ⟨some 32, .pick, [.t 30, .t 31, .c (.p (.v (.bool false)))], none⟩,
     ⟨some 2, .mv, [.t 32], none⟩])
    .ret)
  .skip))
  (.seq (.reg [⟨some 33, .fad 0, [.t 1], none⟩,
   ⟨some 34, .load 1 false, [.t 33], none⟩,
   ⟨some 35, .len 1, [.t 34], none⟩,
   ⟨some 36, .bin .geq, [.t 35, .c (.p (.v (.int .i64 1)))], none⟩,
   ⟨some 37, .mv, [.t 36], none⟩,
   ⟨some 38, .fad 0, [.t 1], some (37, true)⟩,
   ⟨some 39, .load 1 false, [.t 38], some (37, true)⟩,
   ⟨some 40, .len 1, [.t 39], some (37, true)⟩,
   ⟨some 41, .bin .leq, [.t 40, .c (.p (.v (.int .i64 12)))], some (37, true)⟩,
   ⟨some 42, .pick, [.t 37, .t 41, .c (.p (.v (.bool false)))], none⟩,
   ⟨some 43, .mv, [.t 42], none⟩,
   ⟨some 44, .fad 9, [.t 1], some (43, true)⟩,
   ⟨some 45, .load 1 false, [.t 44], some (43, true)⟩,
   ⟨some 46, .bin .geq, [.t 45, .c (.p (.v (.int .i64 0)))], some (43, true)⟩,
   ⟨some 47, .pick, [.t 43, .t 46, .c (.p (.v (.bool false)))], none⟩,
   ⟨some 48, .mv, [.t 47], none⟩,
   ⟨some 49, .fad 9, [.t 1], some (48, true)⟩,
   ⟨some 50, .load 1 false, [.t 49], some (48, true)⟩,
   ⟨some 51, .bin .leq, [.t 50, .c (.p (.v (.int .i64 1000000)))], some (48, true)⟩,
   ⟨some 52, .pick, [.t 48, .t 51, .c (.p (.v (.bool false)))], none⟩,
   ⟨some 53, .mv, [.t 52], none⟩,
   ⟨some 54, .fad 10, [.t 1], some (53, true)⟩,
   ⟨some 55, .load 1 false, [.t 54], some (53, true)⟩,
   ⟨some 56, .bin .geq, [.t 55, .c (.p (.v (.int .i64 0)))], some (53, true)⟩,
   ⟨some 57, .pick, [.t 53, .t 56, .c (.p (.v (.bool false)))], none⟩,
   ⟨some 58, .mv, [.t 57], none⟩,
   ⟨some 59, .fad 10, [.t 1], some (58, true)⟩,
   ⟨some 60, .load 1 false, [.t 59], some (58, true)⟩,
   ⟨some 61, .bin .leq, [.t 60, .c (.p (.v (.int .i64 1000000)))], some (58, true)⟩,
   ⟨some 62, .pick, [.t 58, .t 61, .c (.p (.v (.bool false)))], none⟩,
   ⟨some 63, .mv, [.t 62], none⟩,
   ⟨some 64, .fad 12, [.t 1], some (63, true)⟩,
   ⟨some 65, .load 1 false, [.t 64], some (63, true)⟩,
   ⟨some 66, .un .not, [.t 65], some (63, true)⟩,
   ⟨some 67, .mv, [.t 66], some (63, true)⟩,
   ⟨some 68, .fad 11, [.t 1], some (67, false)⟩,
   ⟨some 69, .load 1 false, [.t 68], some (67, false)⟩,
   ⟨some 70, .pick, [.t 67, .c (.p (.v (.bool true))), .t 69], some (63, true)⟩,
   ⟨some 71, .pick, [.t 63, .t 70, .c (.p (.v (.bool false)))], none⟩,
   ⟨some 4, .mv, [.t 71], none⟩])
  (.seq (.seq (.reg [⟨some 5, .mv, [.c (.p (.v (.int .i64 0)))], none⟩])
  (.block 0
  (.loop
  (.seq (.seq (.reg [⟨some 72, .mv, [.t 5], none⟩,
   ⟨some 73, .bin .lss, [.t 72, .c (.p (.v (.int .i64 4)))], none⟩])
  (.cond (.t 73)
  .skip
  (.exit 0)))
  (.seq (.block 1
  (.seq (.reg [⟨some 76, .mv, [.t 5], none⟩,
   ⟨some 77, .fad 1, [.t 1], none⟩,
   ⟨some 78, .aad 2 4, [.t 77, .t 76], none⟩,
   ⟨some 79, .load 2 true, [.t 78], none⟩,
   ⟨some 6, .alloc [.v (.string ⟨#[]⟩), .v (.int .i64 0)], [], none⟩,
   ⟨none, .store 2, [.t 6, .t 79], none⟩])
  (.seq (.seq (.reg [⟨some 80, .fad 0, [.t 6], none⟩,
   ⟨some 81, .load 1 false, [.t 80], none⟩,
   ⟨some 82, .bin .eql, [.t 81, .c (.p (.v (.string ⟨#[]⟩)))], none⟩])
  (.cond (.t 82)
  (.seq (.reg [⟨some 83, .mv, [.t 4], none⟩,
     ⟨some 84, .mv, [.t 83], none⟩,
     ⟨some 85, .fad 1, [.t 6], some (84, true)⟩,
     ⟨some 86, .load 1 false, [.t 85], some (84, true)⟩,
     ⟨some 87, .bin .eql, [.t 86, .c (.p (.v (.int .i64 0)))], some (84, true)⟩,
     ⟨some 88, .pick, [.t 84, .t 87, .c (.p (.v (.bool false)))], none⟩,
     ⟨some 4, .mv, [.t 88], none⟩])
    (.exit 1))
  .skip))
  (.seq (.reg [⟨some 89, .mv, [.t 4], none⟩,
   ⟨some 90, .mv, [.t 89], none⟩,
   ⟨some 91, .fad 0, [.t 6], some (90, true)⟩,
   ⟨some 92, .load 1 false, [.t 91], some (90, true)⟩,
   ⟨some 93, .len 1, [.t 92], some (90, true)⟩,
   ⟨some 94, .bin .leq, [.t 93, .c (.p (.v (.int .i64 12)))], some (90, true)⟩,
   ⟨some 95, .pick, [.t 90, .t 94, .c (.p (.v (.bool false)))], none⟩,
   ⟨some 96, .mv, [.t 95], none⟩,
   ⟨some 97, .fad 0, [.t 6], some (96, true)⟩,
   ⟨some 98, .load 1 false, [.t 97], some (96, true)⟩,
   ⟨some 99, .bin .neq, [.t 98, .c (.p (.v (.string ⟨#[101, 97, 99, 104]⟩)))], some (96, true)⟩,
   ⟨some 100, .pick, [.t 96, .t 99, .c (.p (.v (.bool false)))], none⟩,
   ⟨some 101, .mv, [.t 100], none⟩,
   ⟨some 102, .fad 1, [.t 6], some (101, true)⟩,
   ⟨some 103, .load 1 false, [.t 102], some (101, true)⟩,
   ⟨some 104, .bin .geq, [.t 103, .c (.p (.v (.int .i64 2)))], some (101, true)⟩,
   ⟨some 105, .pick, [.t 101, .t 104, .c (.p (.v (.bool false)))], none⟩,
   ⟨some 106, .mv, [.t 105], none⟩,
   ⟨some 107, .fad 1, [.t 6], some (106, true)⟩,
   ⟨some 108, .load 1 false, [.t 107], some (106, true)⟩,
   ⟨some 109, .bin .leq, [.t 108, .c (.p (.v (.int .i64 1000000)))], some (106, true)⟩,
   ⟨some 110, .pick, [.t 106, .t 109, .c (.p (.v (.bool false)))], none⟩,
   ⟨some 4, .mv, [.t 110], none⟩])
  (.seq (.reg [⟨some 7, .mv, [.c (.p (.v (.int .i64 0)))], none⟩])
  (.block 2
  (.loop
  (.seq (.seq (.reg [⟨some 111, .mv, [.t 7], none⟩,
   ⟨some 112, .mv, [.t 5], none⟩,
   ⟨some 113, .bin .lss, [.t 111, .t 112], none⟩])
  (.cond (.t 113)
  .skip
  (.exit 2)))
  (.seq (.block 3
  (.regd [⟨some 116, .mv, [.t 4], none⟩,
   ⟨some 117, .mv, [.t 116], none⟩,
   ⟨some 118, .mv, [.t 7], some (117, true)⟩,
   ⟨some 119, .fad 1, [.t 1], some (117, true)⟩,
   ⟨some 120, .aad 2 4, [.t 119, .t 118], some (117, true)⟩,
   ⟨some 121, .fad 0, [.t 120], some (117, true)⟩,
   ⟨some 122, .load 1 false, [.t 121], some (117, true)⟩,
   ⟨some 123, .fad 0, [.t 6], some (117, true)⟩,
   ⟨some 124, .load 1 false, [.t 123], some (117, true)⟩,
   ⟨some 125, .bin .neq, [.t 122, .t 124], some (117, true)⟩,
   ⟨some 126, .pick, [.t 117, .t 125, .c (.p (.v (.bool false)))], none⟩,
   ⟨some 4, .mv, [.t 126], none⟩]))
  (.reg [⟨some 114, .mv, [.t 7], none⟩,
   ⟨some 115, .bin .add, [.t 114, .c (.p (.v (.int .i64 1)))], none⟩,
   ⟨some 7, .mv, [.t 115], none⟩]))))))))))
  (.reg [⟨some 74, .mv, [.t 5], none⟩,
   ⟨some 75, .bin .add, [.t 74, .c (.p (.v (.int .i64 1)))], none⟩,
   ⟨some 5, .mv, [.t 75], none⟩]))))))
  (.seq (.reg [⟨some 127, .mv, [.t 4], none⟩,
   ⟨some 128, .mv, [.t 127], none⟩,
   ⟨some 129, .call 34, [], some (128, true)⟩,
   ⟨some 130, .pick, [.t 128, .t 129, .c (.p (.v (.bool false)))], none⟩,
   ⟨some 2, .mv, [.t 130], none⟩])
  .ret))))))
theorem ret8 {ps : List PV} {p : PV} (hn : Nat.ble ps.length 131 = true) (h : (∀ q ∈ ps, q.bd) → Run Try.prog (fun e s' => (∀ id, e ≠ .exit id) ∧ ∃ ns, s'.out [.t 2] = some (p, ns)) [] c8 (S (initL 0 ps) [])) : Ret Try.prog 8 ps p :=
  ret_run Try.func8 rfl (by kernel_rfl) rfl (by kernel_rfl) (by kernel_rfl) (by kernel_rfl) (by kernel_rfl) (Nat.le_of_ble_eq_true hn) h

/-- stevedore/stevedorelaw07.ItemsIs -/
def c9 : C :=
  (.seq (.reg [⟨some 1, .box, [.t 0], none⟩,
   ⟨some 2, .mv, [.c (.p (.v (.bool false)))], none⟩])
  (.seq (.regd [⟨some 3, .load 14 true, [.t 1], none⟩,
   ⟨some 4, .call 41, [.t 3], none⟩,
   ⟨some 5, .load 14 true, [.t 1], none⟩,
   ⟨some 6, .call 42, [.t 5], none⟩,
   ⟨some 7, .bin .eql, [.t 4, .t 6], none⟩,
   ⟨some 8, .mv, [.t 7], none⟩,
   ⟨some 9, .call 34, [], some (8, true)⟩,
   ⟨some 10, .pick, [.t 8, .t 9, .c (.p (.v (.bool false)))], none⟩,
   ⟨some 2, .mv, [.t 10], none⟩])
  .ret))
theorem ret9 {ps : List PV} {p : PV} (hn : Nat.ble ps.length 11 = true) (h : (∀ q ∈ ps, q.bd) → Run Try.prog (fun e s' => (∀ id, e ≠ .exit id) ∧ ∃ ns, s'.out [.t 2] = some (p, ns)) [] c9 (S (initL 0 ps) [])) : Ret Try.prog 9 ps p :=
  ret_run Try.func9 rfl (by kernel_rfl) rfl (by kernel_rfl) (by kernel_rfl) (by kernel_rfl) (by kernel_rfl) (Nat.le_of_ble_eq_true hn) h

/-- stevedore/stevedorelaw07.ItemsLooks -/
def c10 : C :=
  (.seq (.reg [⟨some 2, .box, [.t 0], none⟩,
   ⟨some 4, .mv, [.c (.p (.v (.bool false)))], none⟩])
  (.seq (.seq (.reg [⟨some 9, .load 15 true, [.t 2], none⟩,
   ⟨some 10, .call 28, [.t 9], none⟩,
   ⟨some 11, .un .not, [.t 10], none⟩])
  (.cond (.t 11)
  (.seq (.reg [⟨some 12, .call 34, [], none⟩,
     ⟨some 4, .mv, [.t 12], none⟩])
    .ret)
  .skip))
  (.seq (.reg [⟨some 14, .load 15 true, [.t 2], none⟩,
   ⟨some 15, .mv, [.t 1], none⟩,
   ⟨some 16, .call 38, [.t 14, .t 15], none⟩,
   ⟨some 13, .mv, [.t 16], none⟩,
   ⟨some 17, .ext 0, [.t 13], none⟩,
   ⟨some 18, .ext 1, [.t 13], none⟩,
   ⟨some 5, .alloc [.v (.string ⟨#[]⟩), .v (.string ⟨#[]⟩), .v (.int .i64 0), .v (.string ⟨#[]⟩), .v (.int .i64 0), .v (.string ⟨#[]⟩), .v (.int .i64 0), .v (.string ⟨#[]⟩), .v (.int .i64 0), .v (.int .i64 0), .v (.int .i64 0), .v (.bool false), .v (.bool false), .v (.bool false)], [], none⟩,
   ⟨none, .store 14, [.t 5, .t 17], none⟩,
   ⟨some 6, .mv, [.t 18], none⟩])
  (.seq (.reg [⟨some 20, .load 15 true, [.t 2], none⟩,
   ⟨some 21, .mv, [.t 1], none⟩,
   ⟨some 22, .call 39, [.t 20, .t 21], none⟩,
   ⟨some 19, .mv, [.t 22], none⟩,
   ⟨some 23, .ext 0, [.t 19], none⟩,
   ⟨some 24, .ext 1, [.t 19], none⟩,
   ⟨some 7, .alloc [.v (.string ⟨#[]⟩), .v (.string ⟨#[]⟩), .v (.int .i64 0), .v (.string ⟨#[]⟩), .v (.int .i64 0), .v (.string ⟨#[]⟩), .v (.int .i64 0), .v (.string ⟨#[]⟩), .v (.int .i64 0), .v (.int .i64 0), .v (.int .i64 0), .v (.bool false), .v (.bool false), .v (.bool false)], [], none⟩,
   ⟨none, .store 14, [.t 7, .t 23], none⟩,
   ⟨some 8, .mv, [.t 24], none⟩])
  (.seq (.reg [⟨some 25, .load 14 true, [.t 5], none⟩,
   ⟨some 26, .load 14 true, [.t 7], none⟩,
   ⟨some 27, .eqs false [.s, .s, .i .i64, .s, .i .i64, .s, .i .i64, .s, .i .i64, .i .i64, .i .i64, .b, .b, .b], [.t 25, .t 26], none⟩,
   ⟨some 28, .mv, [.t 27], none⟩,
   ⟨some 29, .mv, [.t 6], some (28, true)⟩,
   ⟨some 30, .mv, [.t 8], some (28, true)⟩,
   ⟨some 31, .beq false, [.t 29, .t 30], some (28, true)⟩,
   ⟨some 32, .pick, [.t 28, .t 31, .c (.p (.v (.bool false)))], none⟩,
   ⟨some 33, .mv, [.t 32], none⟩,
   ⟨some 34, .call 34, [], some (33, true)⟩,
   ⟨some 35, .pick, [.t 33, .t 34, .c (.p (.v (.bool false)))], none⟩,
   ⟨some 4, .mv, [.t 35], none⟩])
  .ret)))))
theorem ret10 {ps : List PV} {p : PV} (hn : Nat.ble ps.length 36 = true) (h : (∀ q ∈ ps, q.bd) → Run Try.prog (fun e s' => (∀ id, e ≠ .exit id) ∧ ∃ ns, s'.out [.t 4] = some (p, ns)) [] c10 (S (initL 0 ps) [])) : Ret Try.prog 10 ps p :=
  ret_run Try.func10 rfl (by kernel_rfl) rfl (by kernel_rfl) (by kernel_rfl) (by kernel_rfl) (by kernel_rfl) (Nat.le_of_ble_eq_true hn) h

/-- stevedore/stevedorelaw09.LotsAdds -/
def c11 : C :=
  (.seq (.reg [⟨some 3, .box, [.t 0], none⟩,
   ⟨some 4, .box, [.t 1], none⟩,
   ⟨some 6, .mv, [.c (.p (.v (.bool false)))], none⟩])
  (.seq (.seq (.reg [⟨some 12, .load 15 true, [.t 3], none⟩,
   ⟨some 13, .call 28, [.t 12], none⟩,
   ⟨some 14, .un .not, [.t 13], none⟩])
  (.cond (.t 14)
  (.seq (.reg [⟨some 15, .call 29, [], none⟩,
     ⟨some 6, .mv, [.t 15], none⟩])
    .ret)
  .skip))
  (.seq (.reg [⟨some 16, .load 15 true, [.t 3], none⟩,
   ⟨some 17, .call 35, [.t 16], none⟩,
   ⟨some 7, .alloc [.sl [] [], .sl [] [], .sl [] [], .sl [] [], .sl [] [], .sl [] [], .sl [] [], .sl [] [], .sl [] [], .sl [] [], .sl [] [], .sl [] [], .sl [] [], .sl [] [], .v (.int .i64 0)], [], none⟩,
   ⟨none, .store 15, [.t 7, .t 17], none⟩])
  (.seq (.reg [⟨some 19, .load 15 true, [.t 7], none⟩,
   ⟨some 20, .load 3 true, [.t 4], none⟩,
   ⟨some 21, .call 44, [.t 19, .t 20], none⟩,
   ⟨some 18, .mv, [.t 21], none⟩,
   ⟨some 22, .ext 0, [.t 18], none⟩,
   ⟨some 23, .ext 1, [.t 18], none⟩,
   ⟨some 8, .alloc [.sl [] [], .sl [] [], .sl [] [], .sl [] [], .sl [] [], .sl [] [], .sl [] [], .sl [] [], .sl [] [], .sl [] [], .sl [] [], .sl [] [], .sl [] [], .sl [] [], .v (.int .i64 0)], [], none⟩,
   ⟨none, .store 15, [.t 8, .t 22], none⟩,
   ⟨some 9, .mv, [.t 23], none⟩])
  (.seq (.reg [⟨some 25, .load 15 true, [.t 3], none⟩,
   ⟨some 26, .load 3 true, [.t 4], none⟩,
   ⟨some 27, .call 45, [.t 25, .t 26], none⟩,
   ⟨some 24, .mv, [.t 27], none⟩,
   ⟨some 28, .ext 0, [.t 24], none⟩,
   ⟨some 29, .ext 1, [.t 24], none⟩,
   ⟨some 10, .alloc [.sl [] [], .sl [] [], .sl [] [], .sl [] [], .sl [] [], .sl [] [], .sl [] [], .sl [] [], .sl [] [], .sl [] [], .sl [] [], .sl [] [], .sl [] [], .sl [] [], .v (.int .i64 0)], [], none⟩,
   ⟨none, .store 15, [.t 10, .t 28], none⟩,
   ⟨some 11, .mv, [.t 29], none⟩])
  (.seq (.regd [⟨some 30, .mv, [.t 9], none⟩,
   ⟨some 31, .mv, [.t 11], none⟩,
   ⟨some 32, .bin .eql, [.t 30, .t 31], none⟩,
   ⟨some 33, .mv, [.t 32], none⟩,
   ⟨some 34, .load 15 true, [.t 8], some (33, true)⟩,
   ⟨some 35, .load 15 true, [.t 10], some (33, true)⟩,
   ⟨some 36, .call 40, [.t 34, .t 35], some (33, true)⟩,
   ⟨some 37, .pick, [.t 33, .t 36, .c (.p (.v (.bool false)))], none⟩,
   ⟨some 38, .mv, [.t 37], none⟩,
   ⟨some 39, .load 15 true, [.t 7], some (38, true)⟩,
   ⟨some 40, .fad 0, [.t 4], some (38, true)⟩,
   ⟨some 41, .load 1 false, [.t 40], some (38, true)⟩,
   ⟨some 42, .fad 1, [.t 4], some (38, true)⟩,
   ⟨some 43, .load 1 false, [.t 42], some (38, true)⟩,
   ⟨some 44, .mv, [.t 2], some (38, true)⟩,
   ⟨some 45, .call 30, [.t 39, .t 41, .t 43, .t 44], some (38, true)⟩,
   ⟨some 46, .load 15 true, [.t 3], some (38, true)⟩,
   ⟨some 47, .fad 0, [.t 4], some (38, true)⟩,
   ⟨some 48, .load 1 false, [.t 47], some (38, true)⟩,
   ⟨some 49, .fad 1, [.t 4], some (38, true)⟩,
   ⟨some 50, .load 1 false, [.t 49], some (38, true)⟩,
   ⟨some 51, .mv, [.t 2], some (38, true)⟩,
   ⟨some 52, .call 33, [.t 46, .t 48, .t 50, .t 51], some (38, true)⟩,
   ⟨some 53, .bin .eql, [.t 45, .t 52], some (38, true)⟩,
   ⟨some 54, .pick, [.t 38, .t 53, .c (.p (.v (.bool false)))], none⟩,
   ⟨some 55, .mv, [.t 54], none⟩,
   ⟨some 56, .load 15 true, [.t 7], some (55, true)⟩,
   ⟨some 57, .fad 0, [.t 4], some (55, true)⟩,
   ⟨some 58, .load 1 false, [.t 57], some (55, true)⟩,
   ⟨some 59, .fad 1, [.t 4], some (55, true)⟩,
   ⟨some 60, .load 1 false, [.t 59], some (55, true)⟩,
   ⟨some 61, .call 31, [.t 56, .t 58, .t 60], some (55, true)⟩,
   ⟨some 62, .load 15 true, [.t 3], some (55, true)⟩,
   ⟨some 63, .fad 0, [.t 4], some (55, true)⟩,
   ⟨some 64, .load 1 false, [.t 63], some (55, true)⟩,
   ⟨some 65, .fad 1, [.t 4], some (55, true)⟩,
   ⟨some 66, .load 1 false, [.t 65], some (55, true)⟩,
   ⟨some 67, .call 32, [.t 62, .t 64, .t 66], some (55, true)⟩,
   ⟨some 68, .bin .eql, [.t 61, .t 67], some (55, true)⟩,
   ⟨some 69, .pick, [.t 55, .t 68, .c (.p (.v (.bool false)))], none⟩,
   ⟨some 70, .mv, [.t 69], none⟩,
   ⟨some 71, .load 15 true, [.t 7], some (70, true)⟩,
   ⟨some 72, .load 15 true, [.t 3], some (70, true)⟩,
   ⟨some 73, .call 43, [.t 71, .t 72], some (70, true)⟩,
   ⟨some 74, .pick, [.t 70, .t 73, .c (.p (.v (.bool false)))], none⟩,
   ⟨some 75, .mv, [.t 74], none⟩,
   ⟨some 76, .call 29, [], some (75, true)⟩,
   ⟨some 77, .pick, [.t 75, .t 76, .c (.p (.v (.bool false)))], none⟩,
   ⟨some 6, .mv, [.t 77], none⟩])
  .ret))))))
theorem ret11 {ps : List PV} {p : PV} (hn : Nat.ble ps.length 78 = true) (h : (∀ q ∈ ps, q.bd) → Run Try.prog (fun e s' => (∀ id, e ≠ .exit id) ∧ ∃ ns, s'.out [.t 6] = some (p, ns)) [] c11 (S (initL 0 ps) [])) : Ret Try.prog 11 ps p :=
  ret_run Try.func11 rfl (by kernel_rfl) rfl (by kernel_rfl) (by kernel_rfl) (by kernel_rfl) (by kernel_rfl) (Nat.le_of_ble_eq_true hn) h

/-- stevedore/stevedorelaw09.LotsFits -/
def c12 : C :=
  (.seq (.reg [⟨some 2, .box, [.t 0], none⟩,
   ⟨some 3, .box, [.t 1], none⟩,
   ⟨some 4, .mv, [.c (.p (.v (.bool false)))], none⟩])
  (.seq (.seq (.reg [⟨some 12, .load 15 true, [.t 2], none⟩,
   ⟨some 13, .call 28, [.t 12], none⟩,
   ⟨some 14, .un .not, [.t 13], none⟩])
  (.cond (.t 14)
  (.seq (.reg [⟨some 15, .call 29, [], none⟩,
     ⟨some 4, .mv, [.t 15], none⟩])
    .ret)
  .skip))
  (.seq (.reg [⟨some 17, .load 15 true, [.t 2], none⟩,
   ⟨some 18, .load 3 true, [.t 3], none⟩,
   ⟨some 19, .call 44, [.t 17, .t 18], none⟩,
   ⟨some 16, .mv, [.t 19], none⟩,
   ⟨some 20, .ext 0, [.t 16], none⟩,
   ⟨some 21, .ext 1, [.t 16], none⟩,
   ⟨some 5, .alloc [.sl [] [], .sl [] [], .sl [] [], .sl [] [], .sl [] [], .sl [] [], .sl [] [], .sl [] [], .sl [] [], .sl [] [], .sl [] [], .sl [] [], .sl [] [], .sl [] [], .v (.int .i64 0)], [], none⟩,
   ⟨none, .store 15, [.t 5, .t 20], none⟩,
   ⟨some 6, .mv, [.t 21], none⟩])
  (.seq (.seq (.reg [⟨some 22, .mv, [.t 6], none⟩,
   ⟨some 23, .bin .neq, [.t 22, .c (.p (.v (.int .i64 0)))], none⟩])
  (.cond (.t 23)
  (.seq (.reg [⟨some 24, .fad 1, [.t 5], none⟩,
     ⟨some 25, .load 1 false, [.t 24], none⟩,
     ⟨some 26, .len 0, [.t 25], none⟩,
     ⟨some 27, .bin .eql, [.t 26, .c (.p (.v (.int .i64 0)))], none⟩,
     ⟨some 28, .mv, [.t 27], none⟩,
     ⟨some 29, .call 29, [], some (28, true)⟩,
     ⟨some 30, .pick, [.t 28, .t 29, .c (.p (.v (.bool false)))], none⟩,
     ⟨some 4, .mv, [.t 30], none⟩])
    .ret)
  .skip))
  (.seq (.seq (.reg [⟨some 31, .fad 1, [.t 5], none⟩,
   ⟨some 32, .load 1 false, [.t 31], none⟩,
   ⟨some 33, .len 0, [.t 32], none⟩,
   ⟨some 34, .fad 1, [.t 2], none⟩,
   ⟨some 35, .load 1 false, [.t 34], none⟩,
   ⟨some 36, .len 0, [.t 35], none⟩,
   ⟨some 37, .bin .add, [.t 36, .c (.p (.v (.int .i64 1)))], none⟩,
   ⟨some 38, .bin .neq, [.t 33, .t 37], none⟩])
  (.cond (.t 38)
  (.seq (.reg [⟨some 4, .mv, [.c (.p (.v (.bool false)))], none⟩])
    .ret)
  .skip))
  (.seq (.reg [⟨some 39, .fad 2, [.t 3], none⟩,
   ⟨some 40, .load 1 false, [.t 39], none⟩,
   ⟨some 7, .mv, [.t 40], none⟩])
  (.seq (.seq (.reg [⟨some 41, .mv, [.t 7], none⟩,
   ⟨some 42, .bin .eql, [.t 41, .c (.p (.v (.int .i64 0)))], none⟩])
  (.cond (.t 42)
  (.reg [⟨some 7, .mv, [.c (.p (.v (.int .i64 100001)))], none⟩])
  .skip))
  (.seq (.reg [⟨some 8, .mv, [.c (.p (.v (.bool false)))], none⟩])
  (.seq (.seq (.reg [⟨some 9, .mv, [.c (.p (.v (.int .i64 0)))], none⟩])
  (.block 0
  (.loop
  (.seq (.seq (.reg [⟨some 43, .mv, [.t 9], none⟩,
   ⟨some 44, .fad 4, [.t 2], none⟩,
   ⟨some 45, .load 1 false, [.t 44], none⟩,
   ⟨some 46, .len 0, [.t 45], none⟩,
   ⟨some 47, .bin .lss, [.t 43, .t 46], none⟩])
  (.cond (.t 47)
  .skip
  (.exit 0)))
  (.seq (.block 1
  (.regd [⟨some 50, .mv, [.t 8], none⟩,
   ⟨some 51, .mv, [.t 50], none⟩,
   ⟨some 52, .fad 4, [.t 2], some (51, false)⟩,
   ⟨some 53, .load 1 false, [.t 52], some (51, false)⟩,
   ⟨some 54, .mv, [.t 9], some (51, false)⟩,
   ⟨some 55, .iad 6, [.t 53, .t 54], some (51, false)⟩,
   ⟨some 56, .fad 0, [.t 55], some (51, false)⟩,
   ⟨some 57, .fad 1, [.t 56], some (51, false)⟩,
   ⟨some 58, .load 1 false, [.t 57], some (51, false)⟩,
   ⟨some 59, .fad 0, [.t 3], some (51, false)⟩,
   ⟨some 60, .load 1 false, [.t 59], some (51, false)⟩,
   ⟨some 61, .bin .eql, [.t 58, .t 60], some (51, false)⟩,
   ⟨some 62, .mv, [.t 61], some (51, false)⟩,
   ⟨some 63, .fad 4, [.t 2], some (62, true)⟩,
   ⟨some 64, .load 1 false, [.t 63], some (62, true)⟩,
   ⟨some 65, .mv, [.t 9], some (62, true)⟩,
   ⟨some 66, .iad 6, [.t 64, .t 65], some (62, true)⟩,
   ⟨some 67, .fad 0, [.t 66], some (62, true)⟩,
   ⟨some 68, .fad 2, [.t 67], some (62, true)⟩,
   ⟨some 69, .load 1 false, [.t 68], some (62, true)⟩,
   ⟨some 70, .fad 1, [.t 3], some (62, true)⟩,
   ⟨some 71, .load 1 false, [.t 70], some (62, true)⟩,
   ⟨some 72, .bin .eql, [.t 69, .t 71], some (62, true)⟩,
   ⟨some 73, .pick, [.t 62, .t 72, .c (.p (.v (.bool false)))], some (51, false)⟩,
   ⟨some 74, .pick, [.t 51, .c (.p (.v (.bool true))), .t 73], none⟩,
   ⟨some 8, .mv, [.t 74], none⟩]))
  (.reg [⟨some 48, .mv, [.t 9], none⟩,
   ⟨some 49, .bin .add, [.t 48, .c (.p (.v (.int .i64 1)))], none⟩,
   ⟨some 9, .mv, [.t 49], none⟩]))))))
  (.seq (.reg [⟨some 76, .load 15 true, [.t 5], none⟩,
   ⟨some 77, .load 3 true, [.t 3], none⟩,
   ⟨some 78, .call 44, [.t 76, .t 77], none⟩,
   ⟨some 75, .mv, [.t 78], none⟩,
   ⟨some 79, .ext 0, [.t 75], none⟩,
   ⟨some 80, .ext 1, [.t 75], none⟩,
   ⟨some 10, .alloc [.sl [] [], .sl [] [], .sl [] [], .sl [] [], .sl [] [], .sl [] [], .sl [] [], .sl [] [], .sl [] [], .sl [] [], .sl [] [], .sl [] [], .sl [] [], .sl [] [], .v (.int .i64 0)], [], none⟩,
   ⟨none, .store 15, [.t 10, .t 79], none⟩,
   ⟨some 11, .mv, [.t 80], none⟩])
  (.seq (.reg [⟨some 81, .mv, [.t 8], none⟩,
   ⟨some 82, .mv, [.t 81], none⟩,
   ⟨some 83, .load 15 true, [.t 5], some (82, false)⟩,
   ⟨some 84, .fad 0, [.t 3], some (82, false)⟩,
   ⟨some 85, .load 1 false, [.t 84], some (82, false)⟩,
   ⟨some 86, .fad 1, [.t 3], some (82, false)⟩,
   ⟨some 87, .load 1 false, [.t 86], some (82, false)⟩,
   ⟨some 88, .call 30, [.t 83, .t 85, .t 87, .c (.p (.v (.int .i64 1)))], some (82, false)⟩,
   ⟨some 89, .bin .eql, [.t 88, .c (.p (.v (.int .i64 0)))], some (82, false)⟩,
   ⟨some 90, .pick, [.t 82, .c (.p (.v (.bool true))), .t 89], none⟩,
   ⟨some 91, .mv, [.t 90], none⟩,
   ⟨some 92, .load 15 true, [.t 5], some (91, true)⟩,
   ⟨some 93, .fad 0, [.t 3], some (91, true)⟩,
   ⟨some 94, .load 1 false, [.t 93], some (91, true)⟩,
   ⟨some 95, .fad 1, [.t 3], some (91, true)⟩,
   ⟨some 96, .load 1 false, [.t 95], some (91, true)⟩,
   ⟨some 97, .call 31, [.t 92, .t 94, .t 96], some (91, true)⟩,
   ⟨some 98, .mv, [.t 7], some (91, true)⟩,
   ⟨some 99, .bin .eql, [.t 97, .t 98], some (91, true)⟩,
   ⟨some 100, .pick, [.t 91, .t 99, .c (.p (.v (.bool false)))], none⟩,
   ⟨some 101, .mv, [.t 100], none⟩,
   ⟨some 102, .mv, [.t 11], some (101, true)⟩,
   ⟨some 103, .bin .eql, [.t 102, .c (.p (.v (.int .i64 11)))], some (101, true)⟩,
   ⟨some 104, .pick, [.t 101, .t 103, .c (.p (.v (.bool false)))], none⟩,
   ⟨some 105, .mv, [.t 104], none⟩,
   ⟨some 106, .call 29, [], some (105, true)⟩,
   ⟨some 107, .pick, [.t 105, .t 106, .c (.p (.v (.bool false)))], none⟩,
   ⟨some 4, .mv, [.t 107], none⟩])
  .ret)))))))))))
theorem ret12 {ps : List PV} {p : PV} (hn : Nat.ble ps.length 108 = true) (h : (∀ q ∈ ps, q.bd) → Run Try.prog (fun e s' => (∀ id, e ≠ .exit id) ∧ ∃ ns, s'.out [.t 4] = some (p, ns)) [] c12 (S (initL 0 ps) [])) : Ret Try.prog 12 ps p :=
  ret_run Try.func12 rfl (by kernel_rfl) rfl (by kernel_rfl) (by kernel_rfl) (by kernel_rfl) (by kernel_rfl) (Nat.le_of_ble_eq_true hn) h

end Go.Fw
