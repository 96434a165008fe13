/-
  The code of some functions, for the abstract machine. Printed by a program (wip/tools/mkir.py).
-/
import Derived.Test.YtghhmkogooancaaGreatFwU
import Derived.Test.YtghhmkogooancaaGreatProg
import Derived.KernelRfl
set_option linter.unusedVariables false
set_option maxRecDepth 100000
namespace Go.Fw
open Go.Proofs

/-- stevedore/counts.freeze -/
def c43 : C :=
  (.seq (.reg [⟨some 3, .box, [.t 0], none⟩,
  ⟨some 4, .box, [.t 1], none⟩,
  ⟨some 6, .alloc [.sl [] [], .sl [] [], .sl [] [], .sl [] [], .sl [] [], .sl [] [], .sl [] [], .sl [] [], .sl [] [], .sl [] [], .sl [] [], .sl [] [], .sl [] [], .sl [] [], .v (.int .i64 0)], [], none⟩,
  ⟨some 7, .mv, [.c (.p (.v (.int .i64 0)))], none⟩])
 (.seq (.reg [⟨some 10, .load 15 true, [.t 3], none⟩,
  ⟨some 11, .load 1 false, [.t 4], none⟩,
  ⟨some 12, .mv, [.t 2], none⟩,
  ⟨some 13, .call 87, [.t 10, .t 11, .t 12], none⟩,
  ⟨some 9, .mv, [.t 13], none⟩,
  ⟨some 14, .ext 0, [.t 9], none⟩,
  ⟨some 15, .ext 1, [.t 9], none⟩,
  ⟨none, .store 15, [.t 3, .t 14], none⟩,
  ⟨some 8, .mv, [.t 15], none⟩])
 (.seq (.seq (.reg [⟨some 16, .mv, [.t 8], none⟩,
  ⟨some 17, .bin .neq, [.t 16, .c (.p (.v (.int .i64 0)))], none⟩])
 (.cond (.t 17)
 (.seq (.reg [⟨some 18, .build [.sl [] [], .sl [] [], .sl [] [], .sl [] [], .sl [] [], .sl [] [], .sl [] [], .sl [] [], .sl [] [], .sl [] [], .sl [] [], .sl [] [], .sl [] [], .sl [] [], .v (.int .i64 0)] [], [], none⟩,
  ⟨some 19, .mv, [.t 8], none⟩,
  ⟨none, .store 15, [.t 6, .t 18], none⟩,
  ⟨some 7, .mv, [.t 19], none⟩])
 .ret)
 .skip))
 (.seq (.reg [⟨some 20, .fad 12, [.t 3], none⟩,
  ⟨some 21, .load 1 false, [.t 20], none⟩,
  ⟨some 22, .mkf 88, [.t 4], none⟩,
  ⟨some 23, .call 69, [.t 21, .t 22], none⟩,
  ⟨some 24, .fad 12, [.t 3], none⟩,
  ⟨none, .store 1, [.t 24, .t 23], none⟩])
 (.seq (.reg [⟨some 25, .load 15 true, [.t 3], none⟩,
  ⟨none, .store 15, [.t 6, .t 25], none⟩,
  ⟨some 7, .mv, [.c (.p (.v (.int .i64 0)))], none⟩])
 .ret)))))
theorem ret43 {ps : List PV} {p : PV} (hn : Nat.ble ps.length 26 = true) (h : (∀ q ∈ ps, q.bd) → Run Tryz.prog (fun e s' => (∀ id, e ≠ .exit id) ∧ ∃ ns, s'.out [.c 6 15 true, .t 7] = some (p, ns)) [] c43 (S (initL 0 ps) [])) : Ret Tryz.prog 43 ps p :=
  ret_run Tryz.func43 rfl (by kernel_rfl) rfl (by kernel_rfl) (by kernel_rfl) (by kernel_rfl) (by kernel_rfl) (Nat.le_of_ble_eq_true hn) h

/-- stevedore/stevedoreref21.without -/
def c45 : C :=
  (.seq (.reg [⟨some 2, .box, [.t 0], none⟩,
  ⟨some 4, .alloc [.sl [] [], .sl [] [], .sl [] [], .sl [] [], .sl [] [], .sl [] [], .sl [] [], .sl [] [], .sl [] [], .sl [] [], .sl [] [], .sl [] [], .sl [] [], .sl [] [], .v (.int .i64 0)], [], none⟩])
 (.seq (.reg [⟨some 5, .mv, [.c .nil], none⟩])
 (.seq (.seq (.reg [⟨some 6, .mv, [.c (.p (.v (.int .i64 0)))], none⟩])
 (.block 0
 (.loop
 (.seq (.seq (.reg [⟨some 7, .mv, [.t 6], none⟩,
  ⟨some 8, .fad 12, [.t 2], none⟩,
  ⟨some 9, .load 1 false, [.t 8], none⟩,
  ⟨some 10, .len 0, [.t 9], none⟩,
  ⟨some 11, .bin .lss, [.t 7, .t 10], none⟩])
 (.cond (.t 11)
 .skip
 (.exit 0)))
 (.seq (.block 1
 (.seq (.reg [⟨some 14, .fad 12, [.t 2], none⟩,
  ⟨some 15, .load 1 false, [.t 14], none⟩,
  ⟨some 16, .mv, [.t 6], none⟩,
  ⟨some 17, .iad 5, [.t 15, .t 16], none⟩,
  ⟨some 18, .fad 0, [.t 17], none⟩,
  ⟨some 19, .fad 0, [.t 18], none⟩,
  ⟨some 20, .load 1 false, [.t 19], none⟩,
  ⟨some 21, .mv, [.t 1], none⟩,
  ⟨some 22, .bin .neq, [.t 20, .t 21], none⟩])
 (.cond (.t 22)
 (.reg [⟨some 23, .mv, [.t 5], none⟩,
  ⟨some 24, .fad 12, [.t 2], none⟩,
  ⟨some 25, .load 1 false, [.t 24], none⟩,
  ⟨some 26, .mv, [.t 6], none⟩,
  ⟨some 27, .iad 5, [.t 25, .t 26], none⟩,
  ⟨some 28, .load 5 true, [.t 27], none⟩,
  ⟨some 29, .bsl 41 5 1 [.v (.string ⟨#[]⟩), .v (.string ⟨#[]⟩), .v (.string ⟨#[]⟩), .v (.int .i64 0), .v (.int .i64 0)] [0], [.t 28], none⟩,
  ⟨some 30, .app 41 5 64, [.t 23, .t 29], none⟩,
  ⟨some 5, .mv, [.t 30], none⟩])
 .skip)))
 (.reg [⟨some 12, .mv, [.t 6], none⟩,
  ⟨some 13, .bin .add, [.t 12, .c (.p (.v (.int .i64 1)))], none⟩,
  ⟨some 6, .mv, [.t 13], none⟩]))))))
 (.seq (.reg [⟨some 31, .mv, [.t 5], none⟩,
  ⟨some 32, .fad 12, [.t 2], none⟩,
  ⟨none, .store 1, [.t 32, .t 31], none⟩])
 (.seq (.reg [⟨some 33, .load 15 true, [.t 2], none⟩,
  ⟨none, .store 15, [.t 4, .t 33], none⟩])
 .ret)))))
theorem ret45 {ps : List PV} {p : PV} (hn : Nat.ble ps.length 34 = true) (h : (∀ q ∈ ps, q.bd) → Run Tryz.prog (fun e s' => (∀ id, e ≠ .exit id) ∧ ∃ ns, s'.out [.c 4 15 true] = some (p, ns)) [] c45 (S (initL 0 ps) [])) : Ret Tryz.prog 45 ps p :=
  ret_run Tryz.func45 rfl (by kernel_rfl) rfl (by kernel_rfl) (by kernel_rfl) (by kernel_rfl) (by kernel_rfl) (Nat.le_of_ble_eq_true hn) h

/-- stevedore/counts.Start -/
def c12 : C :=
  (.seq (.reg [⟨some 2, .box, [.t 0], none⟩,
  ⟨some 4, .alloc [.sl [] [], .sl [] [], .sl [] [], .sl [] [], .sl [] [], .sl [] [], .sl [] [], .sl [] [], .sl [] [], .sl [] [], .sl [] [], .sl [] [], .sl [] [], .sl [] [], .v (.int .i64 0)], [], none⟩,
  ⟨some 5, .mv, [.c (.p (.v (.int .i64 0)))], none⟩])
 (.seq (.reg [⟨some 6, .load 15 true, [.t 2], none⟩,
  ⟨some 7, .mv, [.t 1], none⟩,
  ⟨some 8, .call 43, [.t 6, .t 7, .c (.p (.v (.bool true)))], none⟩,
  ⟨some 9, .ext 0, [.t 8], none⟩,
  ⟨some 10, .ext 1, [.t 8], none⟩,
  ⟨none, .store 15, [.t 4, .t 9], none⟩,
  ⟨some 5, .mv, [.t 10], none⟩])
 .ret))
theorem ret12 {ps : List PV} {p : PV} (hn : Nat.ble ps.length 11 = true) (h : (∀ q ∈ ps, q.bd) → Run Tryz.prog (fun e s' => (∀ id, e ≠ .exit id) ∧ ∃ ns, s'.out [.c 4 15 true, .t 5] = some (p, ns)) [] c12 (S (initL 0 ps) [])) : Ret Tryz.prog 12 ps p :=
  ret_run Tryz.func12 rfl (by kernel_rfl) rfl (by kernel_rfl) (by kernel_rfl) (by kernel_rfl) (by kernel_rfl) (Nat.le_of_ble_eq_true hn) h

/-- stevedore/stevedoreref21.Start -/
def c13 : C :=
  (.seq (.reg [⟨some 2, .box, [.t 0], none⟩,
  ⟨some 4, .alloc [.sl [] [], .sl [] [], .sl [] [], .sl [] [], .sl [] [], .sl [] [], .sl [] [], .sl [] [], .sl [] [], .sl [] [], .sl [] [], .sl [] [], .sl [] [], .sl [] [], .v (.int .i64 0)], [], none⟩,
  ⟨some 5, .mv, [.c (.p (.v (.int .i64 0)))], none⟩])
 (.seq (.reg [⟨some 9, .load 15 true, [.t 2], none⟩,
  ⟨some 10, .mv, [.t 1], none⟩,
  ⟨some 11, .call 44, [.t 9, .t 10, .c (.p (.v (.bool true)))], none⟩,
  ⟨some 8, .mv, [.t 11], none⟩,
  ⟨some 12, .ext 0, [.t 8], none⟩,
  ⟨some 13, .ext 1, [.t 8], none⟩,
  ⟨some 6, .alloc [.sl [] [], .sl [] [], .sl [] [], .sl [] [], .sl [] [], .sl [] [], .sl [] [], .sl [] [], .sl [] [], .sl [] [], .sl [] [], .sl [] [], .sl [] [], .sl [] [], .v (.int .i64 0)], [], none⟩,
  ⟨none, .store 15, [.t 6, .t 12], none⟩,
  ⟨some 7, .mv, [.t 13], none⟩])
 (.seq (.seq (.reg [⟨some 14, .mv, [.t 7], none⟩,
  ⟨some 15, .bin .neq, [.t 14, .c (.p (.v (.int .i64 0)))], none⟩])
 (.cond (.t 15)
 (.seq (.reg [⟨some 16, .build [.sl [] [], .sl [] [], .sl [] [], .sl [] [], .sl [] [], .sl [] [], .sl [] [], .sl [] [], .sl [] [], .sl [] [], .sl [] [], .sl [] [], .sl [] [], .sl [] [], .v (.int .i64 0)] [], [], none⟩,
  ⟨some 17, .mv, [.t 7], none⟩,
  ⟨none, .store 15, [.t 4, .t 16], none⟩,
  ⟨some 5, .mv, [.t 17], none⟩])
 .ret)
 .skip))
 (.seq (.reg [⟨some 18, .load 15 true, [.t 6], none⟩,
  ⟨some 19, .mv, [.t 1], none⟩,
  ⟨some 20, .call 45, [.t 18, .t 19], none⟩,
  ⟨none, .store 15, [.t 4, .t 20], none⟩,
  ⟨some 5, .mv, [.c (.p (.v (.int .i64 0)))], none⟩])
 .ret))))
theorem ret13 {ps : List PV} {p : PV} (hn : Nat.ble ps.length 21 = true) (h : (∀ q ∈ ps, q.bd) → Run Tryz.prog (fun e s' => (∀ id, e ≠ .exit id) ∧ ∃ ns, s'.out [.c 4 15 true, .t 5] = some (p, ns)) [] c13 (S (initL 0 ps) [])) : Ret Tryz.prog 13 ps p :=
  ret_run Tryz.func13 rfl (by kernel_rfl) rfl (by kernel_rfl) (by kernel_rfl) (by kernel_rfl) (by kernel_rfl) (Nat.le_of_ble_eq_true hn) h

/-- stevedore/counts.Stop -/
def c19 : C :=
  (.seq (.reg [⟨some 2, .box, [.t 0], none⟩,
  ⟨some 4, .alloc [.sl [] [], .sl [] [], .sl [] [], .sl [] [], .sl [] [], .sl [] [], .sl [] [], .sl [] [], .sl [] [], .sl [] [], .sl [] [], .sl [] [], .sl [] [], .sl [] [], .v (.int .i64 0)], [], none⟩,
  ⟨some 5, .mv, [.c (.p (.v (.int .i64 0)))], none⟩])
 (.seq (.reg [⟨some 6, .load 15 true, [.t 2], none⟩,
  ⟨some 7, .mv, [.t 1], none⟩,
  ⟨some 8, .call 43, [.t 6, .t 7, .c (.p (.v (.bool false)))], none⟩,
  ⟨some 9, .ext 0, [.t 8], none⟩,
  ⟨some 10, .ext 1, [.t 8], none⟩,
  ⟨none, .store 15, [.t 4, .t 9], none⟩,
  ⟨some 5, .mv, [.t 10], none⟩])
 .ret))
theorem ret19 {ps : List PV} {p : PV} (hn : Nat.ble ps.length 11 = true) (h : (∀ q ∈ ps, q.bd) → Run Tryz.prog (fun e s' => (∀ id, e ≠ .exit id) ∧ ∃ ns, s'.out [.c 4 15 true, .t 5] = some (p, ns)) [] c19 (S (initL 0 ps) [])) : Ret Tryz.prog 19 ps p :=
  ret_run Tryz.func19 rfl (by kernel_rfl) rfl (by kernel_rfl) (by kernel_rfl) (by kernel_rfl) (by kernel_rfl) (Nat.le_of_ble_eq_true hn) h

/-- stevedore/stevedoreref21.Stop -/
def c20 : C :=
  (.seq (.reg [⟨some 2, .box, [.t 0], none⟩,
  ⟨some 4, .alloc [.sl [] [], .sl [] [], .sl [] [], .sl [] [], .sl [] [], .sl [] [], .sl [] [], .sl [] [], .sl [] [], .sl [] [], .sl [] [], .sl [] [], .sl [] [], .sl [] [], .v (.int .i64 0)], [], none⟩,
  ⟨some 5, .mv, [.c (.p (.v (.int .i64 0)))], none⟩])
 (.seq (.reg [⟨some 9, .load 15 true, [.t 2], none⟩,
  ⟨some 10, .mv, [.t 1], none⟩,
  ⟨some 11, .call 44, [.t 9, .t 10, .c (.p (.v (.bool false)))], none⟩,
  ⟨some 8, .mv, [.t 11], none⟩,
  ⟨some 12, .ext 0, [.t 8], none⟩,
  ⟨some 13, .ext 1, [.t 8], none⟩,
  ⟨some 6, .alloc [.sl [] [], .sl [] [], .sl [] [], .sl [] [], .sl [] [], .sl [] [], .sl [] [], .sl [] [], .sl [] [], .sl [] [], .sl [] [], .sl [] [], .sl [] [], .sl [] [], .v (.int .i64 0)], [], none⟩,
  ⟨none, .store 15, [.t 6, .t 12], none⟩,
  ⟨some 7, .mv, [.t 13], none⟩])
 (.seq (.seq (.reg [⟨some 14, .mv, [.t 7], none⟩,
  ⟨some 15, .bin .neq, [.t 14, .c (.p (.v (.int .i64 0)))], none⟩])
 (.cond (.t 15)
 (.seq (.reg [⟨some 16, .build [.sl [] [], .sl [] [], .sl [] [], .sl [] [], .sl [] [], .sl [] [], .sl [] [], .sl [] [], .sl [] [], .sl [] [], .sl [] [], .sl [] [], .sl [] [], .sl [] [], .v (.int .i64 0)] [], [], none⟩,
  ⟨some 17, .mv, [.t 7], none⟩,
  ⟨none, .store 15, [.t 4, .t 16], none⟩,
  ⟨some 5, .mv, [.t 17], none⟩])
 .ret)
 .skip))
 (.seq (.reg [⟨some 18, .load 15 true, [.t 6], none⟩,
  ⟨some 19, .mv, [.t 1], none⟩,
  ⟨some 20, .call 45, [.t 18, .t 19], none⟩,
  ⟨none, .store 15, [.t 4, .t 20], none⟩,
  ⟨some 5, .mv, [.c (.p (.v (.int .i64 0)))], none⟩])
 .ret))))
theorem ret20 {ps : List PV} {p : PV} (hn : Nat.ble ps.length 21 = true) (h : (∀ q ∈ ps, q.bd) → Run Tryz.prog (fun e s' => (∀ id, e ≠ .exit id) ∧ ∃ ns, s'.out [.c 4 15 true, .t 5] = some (p, ns)) [] c20 (S (initL 0 ps) [])) : Ret Tryz.prog 20 ps p :=
  ret_run Tryz.func20 rfl (by kernel_rfl) rfl (by kernel_rfl) (by kernel_rfl) (by kernel_rfl) (by kernel_rfl) (Nat.le_of_ble_eq_true hn) h

/-- stevedore/counts.frozen -/
def c60 : C :=
  (.seq (.reg [⟨some 2, .box, [.t 0], none⟩,
  ⟨some 4, .mv, [.c (.p (.v (.int .i64 0)))], none⟩])
 (.seq (.reg [⟨some 8, .load 15 true, [.t 2], none⟩,
  ⟨some 9, .mv, [.t 1], none⟩,
  ⟨some 10, .call 75, [.t 8, .t 9], none⟩,
  ⟨some 7, .mv, [.t 10], none⟩,
  ⟨some 11, .ext 0, [.t 7], none⟩,
  ⟨some 12, .ext 1, [.t 7], none⟩,
  ⟨some 5, .alloc [.v (.string ⟨#[]⟩), .v (.string ⟨#[]⟩), .v (.int .i64 0), .v (.int .i64 0), .v (.int .i64 0), .v (.int .i64 0), .v (.int .i64 0), .v (.bool false)], [], none⟩,
  ⟨none, .store 8, [.t 5, .t 11], none⟩,
  ⟨some 6, .mv, [.t 12], none⟩])
 (.seq (.block 0
 (.seq (.reg [⟨some 14, .mv, [.t 6], none⟩,
  ⟨some 15, .un .not, [.t 14], none⟩,
  ⟨some 13, .mv, [.t 15], none⟩])
 (.cond (.t 13)
 (.seq (.reg [⟨some 4, .mv, [.c (.p (.v (.int .i64 12)))], none⟩])
 .ret)
 (.seq (.reg [⟨some 17, .fad 7, [.t 5], none⟩,
  ⟨some 18, .load 1 false, [.t 17], none⟩,
  ⟨some 19, .un .not, [.t 18], none⟩,
  ⟨some 16, .mv, [.t 19], none⟩])
 (.cond (.t 16)
 (.seq (.reg [⟨some 4, .mv, [.c (.p (.v (.int .i64 13)))], none⟩])
 .ret)
 .skip)))))
 (.seq (.reg [⟨some 4, .mv, [.c (.p (.v (.int .i64 0)))], none⟩])
 .ret))))
theorem ret60 {ps : List PV} {p : PV} (hn : Nat.ble ps.length 20 = true) (h : (∀ q ∈ ps, q.bd) → Run Tryz.prog (fun e s' => (∀ id, e ≠ .exit id) ∧ ∃ ns, s'.out [.t 4] = some (p, ns)) [] c60 (S (initL 0 ps) [])) : Ret Tryz.prog 60 ps p :=
  ret_run Tryz.func60 rfl (by kernel_rfl) rfl (by kernel_rfl) (by kernel_rfl) (by kernel_rfl) (by kernel_rfl) (Nat.le_of_ble_eq_true hn) h

/-- stevedore/counts.Record -/
def c15 : C :=
  (.seq (.reg [⟨some 3, .box, [.t 0], none⟩,
  ⟨some 4, .box, [.t 1], none⟩,
  ⟨some 6, .alloc [.sl [] [], .sl [] [], .sl [] [], .sl [] [], .sl [] [], .sl [] [], .sl [] [], .sl [] [], .sl [] [], .sl [] [], .sl [] [], .sl [] [], .sl [] [], .sl [] [], .v (.int .i64 0)], [], none⟩,
  ⟨some 7, .mv, [.c (.p (.v (.int .i64 0)))], none⟩])
 (.seq (.seq (.reg [⟨some 13, .load 15 true, [.t 3], none⟩,
  ⟨some 14, .fad 0, [.t 4], none⟩,
  ⟨some 15, .load 1 false, [.t 14], none⟩,
  ⟨some 16, .call 60, [.t 13, .t 15], none⟩,
  ⟨some 8, .mv, [.t 16], none⟩])
 (.seq (.reg [⟨some 17, .mv, [.t 8], none⟩,
  ⟨some 18, .bin .neq, [.t 17, .c (.p (.v (.int .i64 0)))], none⟩])
 (.cond (.t 18)
 (.seq (.reg [⟨some 19, .build [.sl [] [], .sl [] [], .sl [] [], .sl [] [], .sl [] [], .sl [] [], .sl [] [], .sl [] [], .sl [] [], .sl [] [], .sl [] [], .sl [] [], .sl [] [], .sl [] [], .v (.int .i64 0)] [], [], none⟩,
  ⟨some 20, .mv, [.t 8], none⟩,
  ⟨none, .store 15, [.t 6, .t 19], none⟩,
  ⟨some 7, .mv, [.t 20], none⟩])
 .ret)
 .skip)))
 (.seq (.seq (.reg [⟨some 21, .load 15 true, [.t 3], none⟩,
  ⟨some 22, .fad 1, [.t 4], none⟩,
  ⟨some 23, .load 1 false, [.t 22], none⟩,
  ⟨some 24, .fad 2, [.t 4], none⟩,
  ⟨some 25, .load 1 false, [.t 24], none⟩,
  ⟨some 26, .call 61, [.t 21, .t 23, .t 25, .c (.p (.v (.int .i64 0)))], none⟩,
  ⟨some 9, .mv, [.t 26], none⟩])
 (.seq (.reg [⟨some 27, .mv, [.t 9], none⟩,
  ⟨some 28, .bin .neq, [.t 27, .c (.p (.v (.int .i64 0)))], none⟩,
  ⟨some 29, .mv, [.t 28], none⟩,
  ⟨some 30, .mv, [.t 9], some (29, true)⟩,
  ⟨some 31, .bin .neq, [.t 30, .c (.p (.v (.int .i64 22)))], some (29, true)⟩,
  ⟨some 32, .pick, [.t 29, .t 31, .c (.p (.v (.bool false)))], none⟩])
 (.cond (.t 32)
 (.seq (.reg [⟨some 33, .build [.sl [] [], .sl [] [], .sl [] [], .sl [] [], .sl [] [], .sl [] [], .sl [] [], .sl [] [], .sl [] [], .sl [] [], .sl [] [], .sl [] [], .sl [] [], .sl [] [], .v (.int .i64 0)] [], [], none⟩,
  ⟨some 34, .mv, [.t 9], none⟩,
  ⟨none, .store 15, [.t 6, .t 33], none⟩,
  ⟨some 7, .mv, [.t 34], none⟩])
 .ret)
 .skip)))
 (.seq (.reg [⟨some 35, .load 4 true, [.t 4], none⟩,
  ⟨some 36, .mv, [.t 2], none⟩,
  ⟨some 37, .build [.v (.string ⟨#[]⟩), .v (.string ⟨#[]⟩), .v (.string ⟨#[]⟩), .v (.int .i64 0), .v (.int .i64 0)] [(0, 4), (4, 1)], [.t 35, .t 36], none⟩,
  ⟨some 10, .alloc [.v (.string ⟨#[]⟩), .v (.string ⟨#[]⟩), .v (.string ⟨#[]⟩), .v (.int .i64 0), .v (.int .i64 0)], [], none⟩,
  ⟨none, .store 5, [.t 10, .t 37], none⟩])
 (.seq (.regd [⟨some 39, .call 62, [], none⟩,
  ⟨some 40, .fad 12, [.t 3], none⟩,
  ⟨some 41, .load 1 false, [.t 40], none⟩,
  ⟨some 42, .load 5 true, [.t 10], none⟩,
  ⟨some 43, .call 63, [.t 39, .t 41, .t 42], none⟩,
  ⟨some 38, .mv, [.t 43], none⟩,
  ⟨some 44, .ext 0, [.t 38], none⟩,
  ⟨some 45, .ext 1, [.t 38], none⟩,
  ⟨some 11, .mv, [.t 44], none⟩,
  ⟨some 12, .mv, [.t 45], none⟩])
 (.seq (.block 0
 (.seq (.reg [⟨some 47, .fad 3, [.t 4], none⟩,
  ⟨some 48, .load 1 false, [.t 47], none⟩,
  ⟨some 49, .bin .lss, [.t 48, .c (.p (.v (.int .i64 1)))], none⟩,
  ⟨some 50, .mv, [.t 49], none⟩,
  ⟨some 51, .fad 3, [.t 4], some (50, false)⟩,
  ⟨some 52, .load 1 false, [.t 51], some (50, false)⟩,
  ⟨some 53, .bin .gtr, [.t 52, .c (.p (.v (.int .i64 3)))], some (50, false)⟩,
  ⟨some 54, .pick, [.t 50, .c (.p (.v (.bool true))), .t 53], none⟩,
  ⟨some 46, .mv, [.t 54], none⟩])
 (.cond (.t 46)
 (.seq (.reg [⟨some 55, .build [.sl [] [], .sl [] [], .sl [] [], .sl [] [], .sl [] [], .sl [] [], .sl [] [], .sl [] [], .sl [] [], .sl [] [], .sl [] [], .sl [] [], .sl [] [], .sl [] [], .v (.int .i64 0)] [], [], none⟩,
  ⟨none, .store 15, [.t 6, .t 55], none⟩,
  ⟨some 7, .mv, [.c (.p (.v (.int .i64 31)))], none⟩])
 .ret)
 (.seq (.reg [⟨some 57, .mv, [.t 2], none⟩,
  ⟨some 58, .bin .lss, [.t 57, .c (.p (.v (.int .i64 0)))], none⟩,
  ⟨some 59, .mv, [.t 58], none⟩,
  ⟨some 60, .mv, [.t 2], some (59, false)⟩,
  ⟨some 61, .bin .gtr, [.t 60, .c (.p (.v (.int .i64 1000000000)))], some (59, false)⟩,
  ⟨some 62, .pick, [.t 59, .c (.p (.v (.bool true))), .t 61], none⟩,
  ⟨some 56, .mv, [.t 62], none⟩])
 (.cond (.t 56)
 (.seq (.reg [⟨some 63, .build [.sl [] [], .sl [] [], .sl [] [], .sl [] [], .sl [] [], .sl [] [], .sl [] [], .sl [] [], .sl [] [], .sl [] [], .sl [] [], .sl [] [], .sl [] [], .sl [] [], .v (.int .i64 0)] [], [], none⟩,
  ⟨none, .store 15, [.t 6, .t 63], none⟩,
  ⟨some 7, .mv, [.c (.p (.v (.int .i64 10)))], none⟩])
 .ret)
 (.seq (.reg [⟨some 65, .mv, [.t 12], none⟩,
  ⟨some 66, .un .not, [.t 65], none⟩,
  ⟨some 67, .mv, [.t 66], none⟩,
  ⟨some 68, .fad 12, [.t 3], some (67, true)⟩,
  ⟨some 69, .load 1 false, [.t 68], some (67, true)⟩,
  ⟨some 70, .len 0, [.t 69], some (67, true)⟩,
  ⟨some 71, .bin .geq, [.t 70, .c (.p (.v (.int .i64 64)))], some (67, true)⟩,
  ⟨some 72, .pick, [.t 67, .t 71, .c (.p (.v (.bool false)))], none⟩,
  ⟨some 64, .mv, [.t 72], none⟩])
 (.cond (.t 64)
 (.seq (.reg [⟨some 73, .build [.sl [] [], .sl [] [], .sl [] [], .sl [] [], .sl [] [], .sl [] [], .sl [] [], .sl [] [], .sl [] [], .sl [] [], .sl [] [], .sl [] [], .sl [] [], .sl [] [], .v (.int .i64 0)] [], [], none⟩,
  ⟨none, .store 15, [.t 6, .t 73], none⟩,
  ⟨some 7, .mv, [.c (.p (.v (.int .i64 14)))], none⟩])
 .ret)
 .skip)))))))
 (.seq (.regd [⟨some 74, .call 62, [], none⟩,
  ⟨some 75, .fad 12, [.t 3], none⟩,
  ⟨some 76, .load 1 false, [.t 75], none⟩,
  ⟨some 77, .load 5 true, [.t 10], none⟩,
  ⟨some 78, .call 64, [.t 74, .t 76, .t 77], none⟩,
  ⟨some 79, .fad 12, [.t 3], none⟩,
  ⟨none, .store 1, [.t 79, .t 78], none⟩])
 (.seq (.reg [⟨some 80, .load 15 true, [.t 3], none⟩,
  ⟨none, .store 15, [.t 6, .t 80], none⟩,
  ⟨some 7, .mv, [.c (.p (.v (.int .i64 0)))], none⟩])
 .ret))))))))
theorem ret15 {ps : List PV} {p : PV} (hn : Nat.ble ps.length 81 = true) (h : (∀ q ∈ ps, q.bd) → Run Tryz.prog (fun e s' => (∀ id, e ≠ .exit id) ∧ ∃ ns, s'.out [.c 6 15 true, .t 7] = some (p, ns)) [] c15 (S (initL 0 ps) [])) : Ret Tryz.prog 15 ps p :=
  ret_run Tryz.func15 rfl (by kernel_rfl) rfl (by kernel_rfl) (by kernel_rfl) (by kernel_rfl) (by kernel_rfl) (Nat.le_of_ble_eq_true hn) h

/-- stevedore/stevedoreref21.Record -/
def c16 : C :=
  (.seq (.reg [⟨some 3, .box, [.t 0], none⟩,
  ⟨some 4, .box, [.t 1], none⟩,
  ⟨some 6, .alloc [.sl [] [], .sl [] [], .sl [] [], .sl [] [], .sl [] [], .sl [] [], .sl [] [], .sl [] [], .sl [] [], .sl [] [], .sl [] [], .sl [] [], .sl [] [], .sl [] [], .v (.int .i64 0)], [], none⟩,
  ⟨some 7, .mv, [.c (.p (.v (.int .i64 0)))], none⟩])
 (.seq (.reg [⟨some 17, .load 15 true, [.t 3], none⟩,
  ⟨some 18, .fad 0, [.t 4], none⟩,
  ⟨some 19, .load 1 false, [.t 18], none⟩,
  ⟨some 20, .call 23, [.t 17, .t 19], none⟩,
  ⟨some 16, .mv, [.t 20], none⟩,
  ⟨some 21, .ext 0, [.t 16], none⟩,
  ⟨some 22, .ext 1, [.t 16], none⟩,
  ⟨some 8, .alloc [.v (.string ⟨#[]⟩), .v (.string ⟨#[]⟩), .v (.int .i64 0), .v (.int .i64 0), .v (.int .i64 0), .v (.int .i64 0), .v (.int .i64 0), .v (.bool false)], [], none⟩,
  ⟨none, .store 8, [.t 8, .t 21], none⟩,
  ⟨some 9, .mv, [.t 22], none⟩])
 (.seq (.seq (.reg [⟨some 23, .mv, [.t 9], none⟩,
  ⟨some 24, .un .not, [.t 23], none⟩])
 (.cond (.t 24)
 (.seq (.reg [⟨some 25, .build [.sl [] [], .sl [] [], .sl [] [], .sl [] [], .sl [] [], .sl [] [], .sl [] [], .sl [] [], .sl [] [], .sl [] [], .sl [] [], .sl [] [], .sl [] [], .sl [] [], .v (.int .i64 0)] [], [], none⟩,
  ⟨none, .store 15, [.t 6, .t 25], none⟩,
  ⟨some 7, .mv, [.c (.p (.v (.int .i64 12)))], none⟩])
 .ret)
 .skip))
 (.seq (.seq (.reg [⟨some 26, .fad 7, [.t 8], none⟩,
  ⟨some 27, .load 1 false, [.t 26], none⟩,
  ⟨some 28, .un .not, [.t 27], none⟩])
 (.cond (.t 28)
 (.seq (.reg [⟨some 29, .build [.sl [] [], .sl [] [], .sl [] [], .sl [] [], .sl [] [], .sl [] [], .sl [] [], .sl [] [], .sl [] [], .sl [] [], .sl [] [], .sl [] [], .sl [] [], .sl [] [], .v (.int .i64 0)] [], [], none⟩,
  ⟨none, .store 15, [.t 6, .t 29], none⟩,
  ⟨some 7, .mv, [.c (.p (.v (.int .i64 13)))], none⟩])
 .ret)
 .skip))
 (.seq (.reg [⟨some 31, .load 15 true, [.t 3], none⟩,
  ⟨some 32, .fad 1, [.t 4], none⟩,
  ⟨some 33, .load 1 false, [.t 32], none⟩,
  ⟨some 34, .call 65, [.t 31, .t 33], none⟩,
  ⟨some 30, .mv, [.t 34], none⟩,
  ⟨some 35, .ext 0, [.t 30], none⟩,
  ⟨some 36, .ext 1, [.t 30], none⟩,
  ⟨some 10, .alloc [.v (.string ⟨#[]⟩), .v (.string ⟨#[]⟩), .v (.int .i64 0), .v (.string ⟨#[]⟩), .v (.int .i64 0), .v (.string ⟨#[]⟩), .v (.int .i64 0), .v (.string ⟨#[]⟩), .v (.int .i64 0), .v (.int .i64 0), .v (.int .i64 0), .v (.bool false), .v (.bool false), .v (.bool false)], [], none⟩,
  ⟨none, .store 14, [.t 10, .t 35], none⟩,
  ⟨some 11, .mv, [.t 36], none⟩])
 (.seq (.seq (.reg [⟨some 37, .mv, [.t 11], none⟩,
  ⟨some 38, .un .not, [.t 37], none⟩])
 (.cond (.t 38)
 (.seq (.reg [⟨some 39, .build [.sl [] [], .sl [] [], .sl [] [], .sl [] [], .sl [] [], .sl [] [], .sl [] [], .sl [] [], .sl [] [], .sl [] [], .sl [] [], .sl [] [], .sl [] [], .sl [] [], .v (.int .i64 0)] [], [], none⟩,
  ⟨none, .store 15, [.t 6, .t 39], none⟩,
  ⟨some 7, .mv, [.c (.p (.v (.int .i64 12)))], none⟩])
 .ret)
 .skip))
 (.seq (.reg [⟨some 41, .load 15 true, [.t 3], none⟩,
  ⟨some 42, .fad 1, [.t 4], none⟩,
  ⟨some 43, .load 1 false, [.t 42], none⟩,
  ⟨some 44, .fad 2, [.t 4], none⟩,
  ⟨some 45, .load 1 false, [.t 44], none⟩,
  ⟨some 46, .call 66, [.t 41, .t 43, .t 45], none⟩,
  ⟨some 40, .mv, [.t 46], none⟩,
  ⟨some 47, .ext 0, [.t 40], none⟩,
  ⟨some 48, .ext 1, [.t 40], none⟩,
  ⟨some 12, .alloc [.v (.string ⟨#[]⟩), .v (.string ⟨#[]⟩), .v (.int .i64 0)], [], none⟩,
  ⟨none, .store 3, [.t 12, .t 47], none⟩,
  ⟨some 13, .mv, [.t 48], none⟩])
 (.seq (.seq (.reg [⟨some 49, .fad 11, [.t 10], none⟩,
  ⟨some 50, .load 1 false, [.t 49], none⟩,
  ⟨some 51, .mv, [.t 50], none⟩,
  ⟨some 52, .mv, [.t 13], some (51, true)⟩,
  ⟨some 53, .un .not, [.t 52], some (51, true)⟩,
  ⟨some 54, .pick, [.t 51, .t 53, .c (.p (.v (.bool false)))], none⟩,
  ⟨some 55, .mv, [.t 54], none⟩,
  ⟨some 56, .fad 11, [.t 10], some (55, false)⟩,
  ⟨some 57, .load 1 false, [.t 56], some (55, false)⟩,
  ⟨some 58, .un .not, [.t 57], some (55, false)⟩,
  ⟨some 59, .mv, [.t 58], some (55, false)⟩,
  ⟨some 60, .fad 2, [.t 4], some (59, true)⟩,
  ⟨some 61, .load 1 false, [.t 60], some (59, true)⟩,
  ⟨some 62, .bin .neq, [.t 61, .c (.p (.v (.string ⟨#[]⟩)))], some (59, true)⟩,
  ⟨some 63, .pick, [.t 59, .t 62, .c (.p (.v (.bool false)))], some (55, false)⟩,
  ⟨some 64, .pick, [.t 55, .c (.p (.v (.bool true))), .t 63], none⟩])
 (.cond (.t 64)
 (.seq (.reg [⟨some 65, .build [.sl [] [], .sl [] [], .sl [] [], .sl [] [], .sl [] [], .sl [] [], .sl [] [], .sl [] [], .sl [] [], .sl [] [], .sl [] [], .sl [] [], .sl [] [], .sl [] [], .v (.int .i64 0)] [], [], none⟩,
  ⟨none, .store 15, [.t 6, .t 65], none⟩,
  ⟨some 7, .mv, [.c (.p (.v (.int .i64 21)))], none⟩])
 .ret)
 .skip))
 (.seq (.seq (.reg [⟨some 66, .fad 3, [.t 4], none⟩,
  ⟨some 67, .load 1 false, [.t 66], none⟩,
  ⟨some 68, .bin .neq, [.t 67, .c (.p (.v (.int .i64 1)))], none⟩,
  ⟨some 69, .mv, [.t 68], none⟩,
  ⟨some 70, .fad 3, [.t 4], some (69, true)⟩,
  ⟨some 71, .load 1 false, [.t 70], some (69, true)⟩,
  ⟨some 72, .bin .neq, [.t 71, .c (.p (.v (.int .i64 2)))], some (69, true)⟩,
  ⟨some 73, .pick, [.t 69, .t 72, .c (.p (.v (.bool false)))], none⟩,
  ⟨some 74, .mv, [.t 73], none⟩,
  ⟨some 75, .fad 3, [.t 4], some (74, true)⟩,
  ⟨some 76, .load 1 false, [.t 75], some (74, true)⟩,
  ⟨some 77, .bin .neq, [.t 76, .c (.p (.v (.int .i64 3)))], some (74, true)⟩,
  ⟨some 78, .pick, [.t 74, .t 77, .c (.p (.v (.bool false)))], none⟩])
 (.cond (.t 78)
 (.seq (.reg [⟨some 79, .build [.sl [] [], .sl [] [], .sl [] [], .sl [] [], .sl [] [], .sl [] [], .sl [] [], .sl [] [], .sl [] [], .sl [] [], .sl [] [], .sl [] [], .sl [] [], .sl [] [], .v (.int .i64 0)] [], [], none⟩,
  ⟨none, .store 15, [.t 6, .t 79], none⟩,
  ⟨some 7, .mv, [.c (.p (.v (.int .i64 31)))], none⟩])
 .ret)
 .skip))
 (.seq (.seq (.reg [⟨some 80, .mv, [.t 2], none⟩,
  ⟨some 81, .bin .lss, [.t 80, .c (.p (.v (.int .i64 0)))], none⟩,
  ⟨some 82, .mv, [.t 81], none⟩,
  ⟨some 83, .mv, [.t 2], some (82, false)⟩,
  ⟨some 84, .bin .gtr, [.t 83, .c (.p (.v (.int .i64 1000000000)))], some (82, false)⟩,
  ⟨some 85, .pick, [.t 82, .c (.p (.v (.bool true))), .t 84], none⟩])
 (.cond (.t 85)
 (.seq (.reg [⟨some 86, .build [.sl [] [], .sl [] [], .sl [] [], .sl [] [], .sl [] [], .sl [] [], .sl [] [], .sl [] [], .sl [] [], .sl [] [], .sl [] [], .sl [] [], .sl [] [], .sl [] [], .v (.int .i64 0)] [], [], none⟩,
  ⟨none, .store 15, [.t 6, .t 86], none⟩,
  ⟨some 7, .mv, [.c (.p (.v (.int .i64 10)))], none⟩])
 .ret)
 .skip))
 (.seq (.reg [⟨some 14, .mv, [.c (.p (.v (.bool false)))], none⟩])
 (.seq (.seq (.reg [⟨some 15, .mv, [.c (.p (.v (.int .i64 0)))], none⟩])
 (.block 0
 (.loop
 (.seq (.seq (.reg [⟨some 87, .mv, [.t 15], none⟩,
  ⟨some 88, .fad 12, [.t 3], none⟩,
  ⟨some 89, .load 1 false, [.t 88], none⟩,
  ⟨some 90, .len 0, [.t 89], none⟩,
  ⟨some 91, .bin .lss, [.t 87, .t 90], none⟩])
 (.cond (.t 91)
 .skip
 (.exit 0)))
 (.seq (.block 1
 (.regd [⟨some 94, .mv, [.t 14], none⟩,
  ⟨some 95, .mv, [.t 94], none⟩,
  ⟨some 96, .fad 12, [.t 3], some (95, false)⟩,
  ⟨some 97, .load 1 false, [.t 96], some (95, false)⟩,
  ⟨some 98, .mv, [.t 15], some (95, false)⟩,
  ⟨some 99, .iad 5, [.t 97, .t 98], some (95, false)⟩,
  ⟨some 100, .fad 0, [.t 99], some (95, false)⟩,
  ⟨some 101, .load 4 true, [.t 100], some (95, false)⟩,
  ⟨some 102, .load 4 true, [.t 4], some (95, false)⟩,
  ⟨some 103, .eqs false [.s, .s, .s, .i .i64], [.t 101, .t 102], some (95, false)⟩,
  ⟨some 104, .pick, [.t 95, .c (.p (.v (.bool true))), .t 103], none⟩,
  ⟨some 14, .mv, [.t 104], none⟩]))
 (.reg [⟨some 92, .mv, [.t 15], none⟩,
  ⟨some 93, .bin .add, [.t 92, .c (.p (.v (.int .i64 1)))], none⟩,
  ⟨some 15, .mv, [.t 93], none⟩]))))))
 (.seq (.seq (.reg [⟨some 105, .mv, [.t 14], none⟩,
  ⟨some 106, .un .not, [.t 105], none⟩,
  ⟨some 107, .mv, [.t 106], none⟩,
  ⟨some 108, .fad 12, [.t 3], some (107, true)⟩,
  ⟨some 109, .load 1 false, [.t 108], some (107, true)⟩,
  ⟨some 110, .len 0, [.t 109], some (107, true)⟩,
  ⟨some 111, .bin .geq, [.t 110, .c (.p (.v (.int .i64 64)))], some (107, true)⟩,
  ⟨some 112, .pick, [.t 107, .t 111, .c (.p (.v (.bool false)))], none⟩])
 (.cond (.t 112)
 (.seq (.reg [⟨some 113, .build [.sl [] [], .sl [] [], .sl [] [], .sl [] [], .sl [] [], .sl [] [], .sl [] [], .sl [] [], .sl [] [], .sl [] [], .sl [] [], .sl [] [], .sl [] [], .sl [] [], .v (.int .i64 0)] [], [], none⟩,
  ⟨none, .store 15, [.t 6, .t 113], none⟩,
  ⟨some 7, .mv, [.c (.p (.v (.int .i64 14)))], none⟩])
 .ret)
 .skip))
 (.seq (.reg [⟨some 114, .load 15 true, [.t 3], none⟩,
  ⟨some 115, .load 4 true, [.t 4], none⟩,
  ⟨some 116, .mv, [.t 2], none⟩,
  ⟨some 117, .build [.v (.string ⟨#[]⟩), .v (.string ⟨#[]⟩), .v (.string ⟨#[]⟩), .v (.int .i64 0), .v (.int .i64 0)] [(0, 4), (4, 1)], [.t 115, .t 116], none⟩,
  ⟨some 118, .call 67, [.t 114, .t 117], none⟩,
  ⟨none, .store 15, [.t 6, .t 118], none⟩,
  ⟨some 7, .mv, [.c (.p (.v (.int .i64 0)))], none⟩])
 .ret))))))))))))))
theorem ret16 {ps : List PV} {p : PV} (hn : Nat.ble ps.length 119 = true) (h : (∀ q ∈ ps, q.bd) → Run Tryz.prog (fun e s' => (∀ id, e ≠ .exit id) ∧ ∃ ns, s'.out [.c 6 15 true, .t 7] = some (p, ns)) [] c16 (S (initL 0 ps) [])) : Ret Tryz.prog 16 ps p :=
  ret_run Tryz.func16 rfl (by kernel_rfl) rfl (by kernel_rfl) (by kernel_rfl) (by kernel_rfl) (by kernel_rfl) (Nat.le_of_ble_eq_true hn) h

/-- stevedore/table.Keep[stevedore/api.Counted] -/
def c69 : C :=
  (.seq (.reg [⟨some 4, .mv, [.c .nil], none⟩])
 (.seq (.reg [⟨some 5, .mv, [.c .nil], none⟩])
 (.seq (.seq (.reg [⟨some 8, .mv, [.t 0], none⟩,
  ⟨some 9, .len 0, [.t 8], none⟩,
  ⟨some 10, .mv, [.c (.p (.v (.int .i64 0)))], none⟩])
 (.block 0
 (.loop
 (.seq (.reg [⟨some 11, .bin .lss, [.t 10, .t 9], none⟩])
 (.seq (.cond (.t 11)
 .skip
 (.exit 0))
 (.seq (.block 1
 (.seq (.reg [⟨some 12, .iad 5, [.t 8, .t 10], none⟩,
  ⟨some 13, .load 5 true, [.t 12], none⟩,
  ⟨some 7, .alloc [.v (.string ⟨#[]⟩), .v (.string ⟨#[]⟩), .v (.string ⟨#[]⟩), .v (.int .i64 0), .v (.int .i64 0)], [], none⟩,
  ⟨none, .store 5, [.t 7, .t 13], none⟩])
 (.seq (.reg [⟨some 14, .mv, [.t 1], none⟩,
  ⟨some 15, .load 5 true, [.t 7], none⟩,
  ⟨some 16, .callv, [.t 14, .t 15], none⟩])
 (.cond (.t 16)
 (.reg [⟨some 17, .mv, [.t 5], none⟩,
  ⟨some 18, .load 5 true, [.t 7], none⟩,
  ⟨some 19, .bsl 41 5 1 [.v (.string ⟨#[]⟩), .v (.string ⟨#[]⟩), .v (.string ⟨#[]⟩), .v (.int .i64 0), .v (.int .i64 0)] [0], [.t 18], none⟩,
  ⟨some 20, .app 41 5 64, [.t 17, .t 19], none⟩,
  ⟨some 5, .mv, [.t 20], none⟩])
 .skip))))
 (.reg [⟨some 21, .bin .add, [.t 10, .c (.p (.v (.int .i64 1)))], none⟩,
  ⟨some 10, .mv, [.t 21], none⟩])))))))
 (.seq (.reg [⟨some 22, .mv, [.t 5], none⟩,
  ⟨some 4, .mv, [.t 22], none⟩])
 .ret))))
theorem ret69 {ps : List PV} {p : PV} (hn : Nat.ble ps.length 23 = true) (h : (∀ q ∈ ps, q.bd) → Run Tryz.prog (fun e s' => (∀ id, e ≠ .exit id) ∧ ∃ ns, s'.out [.t 4] = some (p, ns)) [] c69 (S (initL 0 ps) [])) : Ret Tryz.prog 69 ps p :=
  ret_run Tryz.func69 rfl (by kernel_rfl) rfl (by kernel_rfl) (by kernel_rfl) (by kernel_rfl) (by kernel_rfl) (Nat.le_of_ble_eq_true hn) h

theorem row69 {ps : List PV} {ty es : Nat} {zs : List (List PV)} (hn : Nat.ble ps.length 23 = true) (h : (∀ q ∈ ps, q.bd) → Run Tryz.prog (fun e s' => (∀ id, e ≠ .exit id) ∧ ((s'.t 4 = .nil ∧ zs = []) ∨ ∃ n, s'.t 4 = .row n zs.length ∧ s'.o n = some (.row ty es zs false))) [] c69 (S (initL 0 ps) [])) : RetN Tryz.prog 69 ps ty es zs :=
  retN_run Tryz.func69 rfl (by kernel_rfl) rfl rfl (by decide) (by kernel_rfl) (by kernel_rfl) (by kernel_rfl) (Nat.le_of_ble_eq_true hn) h

/-- stevedore/counts.Close$1 -/
def c70 : C :=
  (.seq (.reg [⟨some 2, .box, [.t 0], none⟩,
  ⟨some 3, .mv, [.c (.p (.v (.bool false)))], none⟩])
 (.seq (.reg [⟨some 4, .fad 0, [.t 2], none⟩,
  ⟨some 5, .fad 0, [.t 4], none⟩,
  ⟨some 6, .load 1 false, [.t 5], none⟩,
  ⟨some 7, .load 1 false, [.t 1], none⟩,
  ⟨some 8, .bin .eql, [.t 6, .t 7], none⟩,
  ⟨some 3, .mv, [.t 8], none⟩])
 .ret))
theorem ret70 {ps : List PV} {p : PV} (hn : Nat.ble ps.length 9 = true) (h : (∀ q ∈ ps, q.bd) → Run Tryz.prog (fun e s' => (∀ id, e ≠ .exit id) ∧ ∃ ns, s'.out [.t 3] = some (p, ns)) [] c70 (S (initL 0 ps) [])) : Ret Tryz.prog 70 ps p :=
  ret_run Tryz.func70 rfl (by kernel_rfl) rfl (by kernel_rfl) (by kernel_rfl) (by kernel_rfl) (by kernel_rfl) (Nat.le_of_ble_eq_true hn) h

/-- stevedore/counts.set -/
def c71 : C :=
  (.seq (.reg [⟨some 2, .box, [.t 0], none⟩,
  ⟨some 3, .box, [.t 1], none⟩,
  ⟨some 4, .alloc [.sl [] [], .sl [] [], .sl [] [], .sl [] [], .sl [] [], .sl [] [], .sl [] [], .sl [] [], .sl [] [], .sl [] [], .sl [] [], .sl [] [], .sl [] [], .sl [] [], .v (.int .i64 0)], [], none⟩,
  ⟨some 5, .mv, [.c (.p (.v (.int .i64 0)))], none⟩])
 (.seq (.reg [⟨some 13, .load 15 true, [.t 2], none⟩,
  ⟨some 14, .fad 0, [.t 3], none⟩,
  ⟨some 15, .load 4 true, [.t 14], none⟩,
  ⟨some 16, .call 25, [.t 13, .t 15], none⟩,
  ⟨some 12, .mv, [.t 16], none⟩,
  ⟨some 17, .ext 0, [.t 12], none⟩,
  ⟨some 18, .ext 1, [.t 12], none⟩,
  ⟨some 6, .alloc [.v (.string ⟨#[]⟩), .v (.string ⟨#[]⟩), .v (.string ⟨#[]⟩), .v (.int .i64 0), .v (.int .i64 0), .v (.int .i64 0)], [], none⟩,
  ⟨none, .store 6, [.t 6, .t 17], none⟩,
  ⟨some 7, .mv, [.t 18], none⟩])
 (.seq (.block 0
 (.seq (.reg [⟨some 20, .fad 5, [.t 6], none⟩,
  ⟨some 21, .load 1 false, [.t 20], none⟩,
  ⟨some 22, .fad 4, [.t 3], none⟩,
  ⟨some 23, .load 1 false, [.t 22], none⟩,
  ⟨some 24, .bin .gtr, [.t 21, .t 23], none⟩,
  ⟨some 19, .mv, [.t 24], none⟩])
 (.cond (.t 19)
 (.seq (.reg [⟨some 25, .build [.sl [] [], .sl [] [], .sl [] [], .sl [] [], .sl [] [], .sl [] [], .sl [] [], .sl [] [], .sl [] [], .sl [] [], .sl [] [], .sl [] [], .sl [] [], .sl [] [], .v (.int .i64 0)] [], [], none⟩,
  ⟨none, .store 15, [.t 4, .t 25], none⟩,
  ⟨some 5, .mv, [.c (.p (.v (.int .i64 28)))], none⟩])
 .ret)
 (.seq (.reg [⟨some 27, .mv, [.t 7], none⟩,
  ⟨some 28, .un .not, [.t 27], none⟩,
  ⟨some 29, .mv, [.t 28], none⟩,
  ⟨some 30, .fad 4, [.t 3], some (29, true)⟩,
  ⟨some 31, .load 1 false, [.t 30], some (29, true)⟩,
  ⟨some 32, .bin .gtr, [.t 31, .c (.p (.v (.int .i64 0)))], some (29, true)⟩,
  ⟨some 33, .pick, [.t 29, .t 32, .c (.p (.v (.bool false)))], none⟩,
  ⟨some 34, .mv, [.t 33], none⟩,
  ⟨some 35, .fad 4, [.t 2], some (34, true)⟩,
  ⟨some 36, .load 1 false, [.t 35], some (34, true)⟩,
  ⟨some 37, .len 0, [.t 36], some (34, true)⟩,
  ⟨some 38, .bin .geq, [.t 37, .c (.p (.v (.int .i64 256)))], some (34, true)⟩,
  ⟨some 39, .pick, [.t 34, .t 38, .c (.p (.v (.bool false)))], none⟩,
  ⟨some 26, .mv, [.t 39], none⟩])
 (.cond (.t 26)
 (.seq (.reg [⟨some 40, .build [.sl [] [], .sl [] [], .sl [] [], .sl [] [], .sl [] [], .sl [] [], .sl [] [], .sl [] [], .sl [] [], .sl [] [], .sl [] [], .sl [] [], .sl [] [], .sl [] [], .v (.int .i64 0)] [], [], none⟩,
  ⟨none, .store 15, [.t 4, .t 40], none⟩,
  ⟨some 5, .mv, [.c (.p (.v (.int .i64 16)))], none⟩])
 .ret)
 .skip)))))
 (.seq (.reg [⟨some 41, .fad 4, [.t 3], none⟩,
  ⟨some 42, .load 1 false, [.t 41], none⟩,
  ⟨some 43, .fad 4, [.t 6], none⟩,
  ⟨some 44, .load 1 false, [.t 43], none⟩,
  ⟨some 45, .bin .sub, [.t 42, .t 44], none⟩,
  ⟨some 8, .mv, [.t 45], none⟩])
 (.seq (.regs [⟨some 46, .fad 0, [.t 3], none⟩,
  ⟨some 47, .load 4 true, [.t 46], none⟩,
  ⟨some 48, .fad 4, [.t 3], none⟩,
  ⟨some 49, .load 1 false, [.t 48], none⟩,
  ⟨some 50, .fad 0, [.t 6], none⟩,
  ⟨none, .store 4, [.t 50, .t 47], none⟩,
  ⟨some 51, .fad 4, [.t 6], none⟩,
  ⟨none, .store 1, [.t 51, .t 49], none⟩] [(3, 5)])
 (.seq (.seq (.reg [⟨some 52, .fad 4, [.t 3], none⟩,
  ⟨some 53, .load 1 false, [.t 52], none⟩,
  ⟨some 54, .bin .eql, [.t 53, .c (.p (.v (.int .i64 0)))], none⟩])
 (.cond (.t 54)
 (.regd [⟨some 55, .call 85, [], none⟩,
  ⟨some 56, .fad 4, [.t 2], none⟩,
  ⟨some 57, .load 1 false, [.t 56], none⟩,
  ⟨some 58, .load 6 true, [.t 6], none⟩,
  ⟨some 59, .call 100, [.t 55, .t 57, .t 58], none⟩,
  ⟨some 60, .fad 4, [.t 2], none⟩,
  ⟨none, .store 1, [.t 60, .t 59], none⟩])
 (.regd [⟨some 61, .call 85, [], none⟩,
  ⟨some 62, .fad 4, [.t 2], none⟩,
  ⟨some 63, .load 1 false, [.t 62], none⟩,
  ⟨some 64, .load 6 true, [.t 6], none⟩,
  ⟨some 65, .call 101, [.t 61, .t 63, .t 64], none⟩,
  ⟨some 66, .fad 4, [.t 2], none⟩,
  ⟨none, .store 1, [.t 66, .t 65], none⟩])))
 (.seq (.reg [⟨some 67, .fad 0, [.t 3], none⟩,
  ⟨some 68, .fad 1, [.t 67], none⟩,
  ⟨some 69, .load 1 false, [.t 68], none⟩,
  ⟨some 70, .fad 0, [.t 3], none⟩,
  ⟨some 71, .fad 2, [.t 70], none⟩,
  ⟨some 72, .load 1 false, [.t 71], none⟩,
  ⟨some 73, .build [.v (.string ⟨#[]⟩), .v (.string ⟨#[]⟩), .v (.int .i64 0), .v (.int .i64 0), .v (.int .i64 0), .v (.int .i64 0)] [(0, 1), (1, 1)], [.t 69, .t 72], none⟩,
  ⟨some 9, .alloc [.v (.string ⟨#[]⟩), .v (.string ⟨#[]⟩), .v (.int .i64 0), .v (.int .i64 0), .v (.int .i64 0), .v (.int .i64 0)], [], none⟩,
  ⟨none, .store 6, [.t 9, .t 73], none⟩])
 (.seq (.regd [⟨some 75, .call 102, [], none⟩,
  ⟨some 76, .fad 13, [.t 2], none⟩,
  ⟨some 77, .load 1 false, [.t 76], none⟩,
  ⟨some 78, .load 6 true, [.t 9], none⟩,
  ⟨some 79, .call 103, [.t 75, .t 77, .t 78], none⟩,
  ⟨some 74, .mv, [.t 79], none⟩,
  ⟨some 80, .ext 0, [.t 74], none⟩,
  ⟨some 81, .ext 1, [.t 74], none⟩,
  ⟨some 10, .mv, [.t 80], none⟩,
  ⟨some 11, .mv, [.t 81], none⟩])
 (.seq (.seq (.reg [⟨some 82, .mv, [.t 11], none⟩])
 (.cond (.t 82)
 (.reg [⟨some 83, .fad 13, [.t 2], none⟩,
  ⟨some 84, .load 1 false, [.t 83], none⟩,
  ⟨some 85, .mv, [.t 10], none⟩,
  ⟨some 86, .iad 6, [.t 84, .t 85], none⟩,
  ⟨some 87, .load 6 true, [.t 86], none⟩,
  ⟨none, .store 6, [.t 9, .t 87], none⟩])
 .skip))
 (.seq (.seq (.reg [⟨some 88, .mv, [.t 11], none⟩,
  ⟨some 89, .mv, [.t 88], none⟩,
  ⟨some 90, .mv, [.t 8], some (89, false)⟩,
  ⟨some 91, .bin .neq, [.t 90, .c (.p (.v (.int .i64 0)))], some (89, false)⟩,
  ⟨some 92, .pick, [.t 89, .c (.p (.v (.bool true))), .t 91], none⟩])
 (.cond (.t 92)
 (.seq (.reg [⟨some 93, .fad 5, [.t 9], none⟩,
  ⟨some 94, .load 1 false, [.t 93], none⟩,
  ⟨some 95, .mv, [.t 8], none⟩,
  ⟨some 96, .bin .add, [.t 94, .t 95], none⟩,
  ⟨some 97, .fad 5, [.t 9], none⟩,
  ⟨none, .store 1, [.t 97, .t 96], none⟩])
 (.regd [⟨some 98, .call 102, [], none⟩,
  ⟨some 99, .fad 13, [.t 2], none⟩,
  ⟨some 100, .load 1 false, [.t 99], none⟩,
  ⟨some 101, .load 6 true, [.t 9], none⟩,
  ⟨some 102, .call 104, [.t 98, .t 100, .t 101], none⟩,
  ⟨some 103, .fad 13, [.t 2], none⟩,
  ⟨none, .store 1, [.t 103, .t 102], none⟩]))
 .skip))
 (.seq (.reg [⟨some 104, .load 15 true, [.t 2], none⟩,
  ⟨none, .store 15, [.t 4, .t 104], none⟩,
  ⟨some 5, .mv, [.c (.p (.v (.int .i64 0)))], none⟩])
 .ret)))))))))))
theorem ret71 {ps : List PV} {p : PV} (hn : Nat.ble ps.length 105 = true) (h : (∀ q ∈ ps, q.bd) → Run Tryz.prog (fun e s' => (∀ id, e ≠ .exit id) ∧ ∃ ns, s'.out [.c 4 15 true, .t 5] = some (p, ns)) [] c71 (S (initL 0 ps) [])) : Ret Tryz.prog 71 ps p :=
  ret_run Tryz.func71 rfl (by kernel_rfl) rfl (by kernel_rfl) (by kernel_rfl) (by kernel_rfl) (by kernel_rfl) (Nat.le_of_ble_eq_true hn) h

/-- stevedore/counts.Close$2 -/
def c72 : C :=
  (.seq (.reg [⟨some 2, .box, [.t 0], none⟩,
  ⟨some 3, .mv, [.c (.p (.v (.bool false)))], none⟩])
 (.seq (.reg [⟨some 7, .load 15 true, [.t 1], none⟩,
  ⟨some 8, .fad 0, [.t 2], none⟩,
  ⟨some 9, .fad 1, [.t 8], none⟩,
  ⟨some 10, .load 1 false, [.t 9], none⟩,
  ⟨some 11, .call 73, [.t 7, .t 10], none⟩,
  ⟨some 6, .mv, [.t 11], none⟩,
  ⟨some 12, .ext 0, [.t 6], none⟩,
  ⟨some 13, .ext 1, [.t 6], none⟩,
  ⟨some 4, .alloc [.v (.string ⟨#[]⟩), .v (.string ⟨#[]⟩), .v (.int .i64 0), .v (.string ⟨#[]⟩), .v (.int .i64 0), .v (.string ⟨#[]⟩), .v (.int .i64 0), .v (.string ⟨#[]⟩), .v (.int .i64 0), .v (.int .i64 0), .v (.int .i64 0), .v (.bool false), .v (.bool false), .v (.bool false)], [], none⟩,
  ⟨none, .store 14, [.t 4, .t 12], none⟩,
  ⟨some 5, .mv, [.t 13], none⟩])
 (.seq (.reg [⟨some 14, .fad 12, [.t 4], none⟩,
  ⟨some 15, .load 1 false, [.t 14], none⟩,
  ⟨some 16, .mv, [.t 15], none⟩,
  ⟨some 17, .load 15 true, [.t 1], some (16, true)⟩,
  ⟨some 18, .fad 0, [.t 2], some (16, true)⟩,
  ⟨some 19, .fad 1, [.t 18], some (16, true)⟩,
  ⟨some 20, .load 1 false, [.t 19], some (16, true)⟩,
  ⟨some 21, .fad 0, [.t 2], some (16, true)⟩,
  ⟨some 22, .fad 2, [.t 21], some (16, true)⟩,
  ⟨some 23, .load 1 false, [.t 22], some (16, true)⟩,
  ⟨some 24, .call 74, [.t 17, .t 20, .t 23], some (16, true)⟩,
  ⟨some 25, .bin .gtr, [.t 24, .c (.p (.v (.int .i64 1)))], some (16, true)⟩,
  ⟨some 26, .pick, [.t 16, .t 25, .c (.p (.v (.bool false)))], none⟩,
  ⟨some 3, .mv, [.t 26], none⟩])
 .ret)))
theorem ret72 {ps : List PV} {p : PV} (hn : Nat.ble ps.length 27 = true) (h : (∀ q ∈ ps, q.bd) → Run Tryz.prog (fun e s' => (∀ id, e ≠ .exit id) ∧ ∃ ns, s'.out [.t 3] = some (p, ns)) [] c72 (S (initL 0 ps) [])) : Ret Tryz.prog 72 ps p :=
  ret_run Tryz.func72 rfl (by kernel_rfl) rfl (by kernel_rfl) (by kernel_rfl) (by kernel_rfl) (by kernel_rfl) (Nat.le_of_ble_eq_true hn) h

/-- stevedore/counts.freeze$1 -/
def c88 : C :=
  (.seq (.reg [⟨some 2, .box, [.t 0], none⟩,
  ⟨some 3, .mv, [.c (.p (.v (.bool false)))], none⟩])
 (.seq (.reg [⟨some 4, .fad 0, [.t 2], none⟩,
  ⟨some 5, .fad 0, [.t 4], none⟩,
  ⟨some 6, .load 1 false, [.t 5], none⟩,
  ⟨some 7, .load 1 false, [.t 1], none⟩,
  ⟨some 8, .bin .neq, [.t 6, .t 7], none⟩,
  ⟨some 3, .mv, [.t 8], none⟩])
 .ret))
theorem ret88 {ps : List PV} {p : PV} (hn : Nat.ble ps.length 9 = true) (h : (∀ q ∈ ps, q.bd) → Run Tryz.prog (fun e s' => (∀ id, e ≠ .exit id) ∧ ∃ ns, s'.out [.t 3] = some (p, ns)) [] c88 (S (initL 0 ps) [])) : Ret Tryz.prog 88 ps p :=
  ret_run Tryz.func88 rfl (by kernel_rfl) rfl (by kernel_rfl) (by kernel_rfl) (by kernel_rfl) (by kernel_rfl) (Nat.le_of_ble_eq_true hn) h

/-- slices.ContainsFunc[[]stevedore/api.Counted,stevedore/api.Counted] -/
def c76 : C :=
  (.seq (.reg [⟨some 4, .mv, [.c (.p (.v (.bool false)))], none⟩])
 (.seq (.reg [⟨some 5, .mv, [.t 0], none⟩,
  ⟨some 6, .mv, [.t 1], none⟩,
  ⟨some 7, .call 93, [.t 5, .t 6], none⟩,
  ⟨some 8, .bin .geq, [.t 7, .c (.p (.v (.int .i64 0)))], none⟩,
  ⟨some 4, .mv, [.t 8], none⟩])
 .ret))
theorem ret76 {ps : List PV} {p : PV} (hn : Nat.ble ps.length 9 = true) (h : (∀ q ∈ ps, q.bd) → Run Tryz.prog (fun e s' => (∀ id, e ≠ .exit id) ∧ ∃ ns, s'.out [.t 4] = some (p, ns)) [] c76 (S (initL 0 ps) [])) : Ret Tryz.prog 76 ps p :=
  ret_run Tryz.func76 rfl (by kernel_rfl) rfl (by kernel_rfl) (by kernel_rfl) (by kernel_rfl) (by kernel_rfl) (Nat.le_of_ble_eq_true hn) h

/-- stevedore/counts.Close -/
def c17 : C :=
  (.seq (.reg [⟨some 3, .box, [.t 0], none⟩,
  ⟨some 4, .box, [.t 1], none⟩,
  ⟨some 6, .alloc [.sl [] [], .sl [] [], .sl [] [], .sl [] [], .sl [] [], .sl [] [], .sl [] [], .sl [] [], .sl [] [], .sl [] [], .sl [] [], .sl [] [], .sl [] [], .sl [] [], .v (.int .i64 0)], [], none⟩,
  ⟨some 7, .mv, [.c (.p (.v (.int .i64 0)))], none⟩])
 (.seq (.seq (.reg [⟨some 19, .mv, [.t 2], none⟩,
  ⟨some 20, .call 68, [.t 19], none⟩,
  ⟨some 8, .mv, [.t 20], none⟩])
 (.seq (.reg [⟨some 21, .mv, [.t 8], none⟩,
  ⟨some 22, .bin .neq, [.t 21, .c (.p (.v (.int .i64 0)))], none⟩])
 (.cond (.t 22)
 (.seq (.reg [⟨some 23, .build [.sl [] [], .sl [] [], .sl [] [], .sl [] [], .sl [] [], .sl [] [], .sl [] [], .sl [] [], .sl [] [], .sl [] [], .sl [] [], .sl [] [], .sl [] [], .sl [] [], .v (.int .i64 0)] [], [], none⟩,
  ⟨some 24, .mv, [.t 8], none⟩,
  ⟨none, .store 15, [.t 6, .t 23], none⟩,
  ⟨some 7, .mv, [.t 24], none⟩])
 .ret)
 .skip)))
 (.seq (.seq (.reg [⟨some 25, .load 15 true, [.t 3], none⟩,
  ⟨some 26, .load 1 false, [.t 4], none⟩,
  ⟨some 27, .call 60, [.t 25, .t 26], none⟩,
  ⟨some 9, .mv, [.t 27], none⟩])
 (.seq (.reg [⟨some 28, .mv, [.t 9], none⟩,
  ⟨some 29, .bin .neq, [.t 28, .c (.p (.v (.int .i64 0)))], none⟩])
 (.cond (.t 29)
 (.seq (.reg [⟨some 30, .build [.sl [] [], .sl [] [], .sl [] [], .sl [] [], .sl [] [], .sl [] [], .sl [] [], .sl [] [], .sl [] [], .sl [] [], .sl [] [], .sl [] [], .sl [] [], .sl [] [], .v (.int .i64 0)] [], [], none⟩,
  ⟨some 31, .mv, [.t 9], none⟩,
  ⟨none, .store 15, [.t 6, .t 30], none⟩,
  ⟨some 7, .mv, [.t 31], none⟩])
 .ret)
 .skip)))
 (.seq (.reg [⟨some 32, .fad 12, [.t 3], none⟩,
  ⟨some 33, .load 1 false, [.t 32], none⟩,
  ⟨some 34, .mkf 70, [.t 4], none⟩,
  ⟨some 35, .call 69, [.t 33, .t 34], none⟩,
  ⟨some 10, .mv, [.t 35], none⟩])
 (.seq (.seq (.reg [⟨some 36, .mv, [.t 10], none⟩,
  ⟨some 37, .len 0, [.t 36], none⟩,
  ⟨some 38, .mv, [.c (.p (.v (.int .i64 0)))], none⟩])
 (.block 0
 (.loop
 (.seq (.reg [⟨some 39, .bin .lss, [.t 38, .t 37], none⟩])
 (.seq (.cond (.t 39)
 .skip
 (.exit 0))
 (.seq (.block 1
 (.seq (.reg [⟨some 40, .iad 5, [.t 36, .t 38], none⟩,
  ⟨some 41, .load 5 true, [.t 40], none⟩,
  ⟨some 12, .alloc [.v (.string ⟨#[]⟩), .v (.string ⟨#[]⟩), .v (.string ⟨#[]⟩), .v (.int .i64 0), .v (.int .i64 0)], [], none⟩,
  ⟨none, .store 5, [.t 12, .t 41], none⟩])
 (.seq (.reg [⟨some 13, .mv, [.c (.p (.v (.int .i64 0)))], none⟩])
 (.seq (.reg [⟨some 43, .load 15 true, [.t 3], none⟩,
  ⟨some 44, .load 5 true, [.t 12], none⟩,
  ⟨some 45, .call 71, [.t 43, .t 44], none⟩,
  ⟨some 42, .mv, [.t 45], none⟩,
  ⟨some 46, .ext 0, [.t 42], none⟩,
  ⟨some 47, .ext 1, [.t 42], none⟩,
  ⟨none, .store 15, [.t 3, .t 46], none⟩,
  ⟨some 13, .mv, [.t 47], none⟩])
 (.seq (.reg [⟨some 48, .mv, [.t 13], none⟩,
  ⟨some 49, .bin .neq, [.t 48, .c (.p (.v (.int .i64 0)))], none⟩])
 (.cond (.t 49)
 (.seq (.reg [⟨some 50, .build [.sl [] [], .sl [] [], .sl [] [], .sl [] [], .sl [] [], .sl [] [], .sl [] [], .sl [] [], .sl [] [], .sl [] [], .sl [] [], .sl [] [], .sl [] [], .sl [] [], .v (.int .i64 0)] [], [], none⟩,
  ⟨some 51, .mv, [.t 13], none⟩,
  ⟨none, .store 15, [.t 6, .t 50], none⟩,
  ⟨some 7, .mv, [.t 51], none⟩])
 .ret)
 .skip))))))
 (.reg [⟨some 52, .bin .add, [.t 38, .c (.p (.v (.int .i64 1)))], none⟩,
  ⟨some 38, .mv, [.t 52], none⟩])))))))
 (.seq (.reg [⟨some 53, .mkf 72, [.t 3], none⟩,
  ⟨some 14, .mv, [.t 53], none⟩])
 (.seq (.reg [⟨some 55, .load 15 true, [.t 3], none⟩,
  ⟨some 56, .load 1 false, [.t 4], none⟩,
  ⟨some 57, .call 75, [.t 55, .t 56], none⟩,
  ⟨some 54, .mv, [.t 57], none⟩,
  ⟨some 58, .ext 0, [.t 54], none⟩,
  ⟨some 59, .ext 1, [.t 54], none⟩,
  ⟨some 15, .alloc [.v (.string ⟨#[]⟩), .v (.string ⟨#[]⟩), .v (.int .i64 0), .v (.int .i64 0), .v (.int .i64 0), .v (.int .i64 0), .v (.int .i64 0), .v (.bool false)], [], none⟩,
  ⟨none, .store 8, [.t 15, .t 58], none⟩,
  ⟨some 16, .mv, [.t 59], none⟩])
 (.seq (.reg [⟨some 61, .load 15 true, [.t 3], none⟩,
  ⟨some 62, .load 1 false, [.t 4], none⟩,
  ⟨some 63, .call 24, [.t 61, .t 62], none⟩,
  ⟨some 60, .mv, [.t 63], none⟩,
  ⟨some 64, .ext 0, [.t 60], none⟩,
  ⟨some 65, .ext 1, [.t 60], none⟩,
  ⟨some 17, .mv, [.t 64], none⟩,
  ⟨some 18, .mv, [.t 65], none⟩])
 (.seq (.block 2
 (.seq (.reg [⟨some 67, .mv, [.t 10], none⟩,
  ⟨some 68, .mv, [.t 14], none⟩,
  ⟨some 69, .call 76, [.t 67, .t 68], none⟩,
  ⟨some 66, .mv, [.t 69], none⟩])
 (.cond (.t 66)
 (.seq (.reg [⟨some 70, .build [.sl [] [], .sl [] [], .sl [] [], .sl [] [], .sl [] [], .sl [] [], .sl [] [], .sl [] [], .sl [] [], .sl [] [], .sl [] [], .sl [] [], .sl [] [], .sl [] [], .v (.int .i64 0)] [], [], none⟩,
  ⟨none, .store 15, [.t 6, .t 70], none⟩,
  ⟨some 7, .mv, [.c (.p (.v (.int .i64 22)))], none⟩])
 .ret)
 (.seq (.reg [⟨some 72, .mv, [.t 17], none⟩,
  ⟨some 73, .fad 5, [.t 15], none⟩,
  ⟨some 74, .load 1 false, [.t 73], none⟩,
  ⟨some 75, .bin .gtr, [.t 72, .t 74], none⟩,
  ⟨some 76, .mv, [.t 75], none⟩,
  ⟨some 77, .mv, [.t 18], some (76, false)⟩,
  ⟨some 78, .fad 6, [.t 15], some (76, false)⟩,
  ⟨some 79, .load 1 false, [.t 78], some (76, false)⟩,
  ⟨some 80, .bin .gtr, [.t 77, .t 79], some (76, false)⟩,
  ⟨some 81, .pick, [.t 76, .c (.p (.v (.bool true))), .t 80], none⟩,
  ⟨some 71, .mv, [.t 81], none⟩])
 (.cond (.t 71)
 (.seq (.reg [⟨some 82, .build [.sl [] [], .sl [] [], .sl [] [], .sl [] [], .sl [] [], .sl [] [], .sl [] [], .sl [] [], .sl [] [], .sl [] [], .sl [] [], .sl [] [], .sl [] [], .sl [] [], .v (.int .i64 0)] [], [], none⟩,
  ⟨none, .store 15, [.t 6, .t 82], none⟩,
  ⟨some 7, .mv, [.c (.p (.v (.int .i64 26)))], none⟩])
 .ret)
 .skip)))))
 (.seq (.reg [⟨some 83, .load 15 true, [.t 3], none⟩,
  ⟨some 84, .load 1 false, [.t 4], none⟩,
  ⟨some 85, .call 19, [.t 83, .t 84], none⟩,
  ⟨some 86, .ext 0, [.t 85], none⟩,
  ⟨some 87, .ext 1, [.t 85], none⟩,
  ⟨none, .store 15, [.t 6, .t 86], none⟩,
  ⟨some 7, .mv, [.t 87], none⟩])
 .ret))))))))))
theorem ret17 {ps : List PV} {p : PV} (hn : Nat.ble ps.length 88 = true) (h : (∀ q ∈ ps, q.bd) → Run Tryz.prog (fun e s' => (∀ id, e ≠ .exit id) ∧ ∃ ns, s'.out [.c 6 15 true, .t 7] = some (p, ns)) [] c17 (S (initL 0 ps) [])) : Ret Tryz.prog 17 ps p :=
  ret_run Tryz.func17 rfl (by kernel_rfl) rfl (by kernel_rfl) (by kernel_rfl) (by kernel_rfl) (by kernel_rfl) (Nat.le_of_ble_eq_true hn) h

/-- stevedore/stevedoreref21.Close -/
def c18 : C :=
  (.seq (.reg [⟨some 3, .box, [.t 0], none⟩,
  ⟨some 6, .alloc [.sl [] [], .sl [] [], .sl [] [], .sl [] [], .sl [] [], .sl [] [], .sl [] [], .sl [] [], .sl [] [], .sl [] [], .sl [] [], .sl [] [], .sl [] [], .sl [] [], .v (.int .i64 0)], [], none⟩,
  ⟨some 7, .mv, [.c (.p (.v (.int .i64 0)))], none⟩])
 (.seq (.reg [⟨some 23, .mv, [.t 2], none⟩,
  ⟨some 24, .call 77, [.t 23], none⟩,
  ⟨some 8, .mv, [.t 24], none⟩])
 (.seq (.seq (.reg [⟨some 25, .mv, [.t 8], none⟩,
  ⟨some 26, .bin .neq, [.t 25, .c (.p (.v (.int .i64 0)))], none⟩])
 (.cond (.t 26)
 (.seq (.reg [⟨some 27, .build [.sl [] [], .sl [] [], .sl [] [], .sl [] [], .sl [] [], .sl [] [], .sl [] [], .sl [] [], .sl [] [], .sl [] [], .sl [] [], .sl [] [], .sl [] [], .sl [] [], .v (.int .i64 0)] [], [], none⟩,
  ⟨some 28, .mv, [.t 8], none⟩,
  ⟨none, .store 15, [.t 6, .t 27], none⟩,
  ⟨some 7, .mv, [.t 28], none⟩])
 .ret)
 .skip))
 (.seq (.reg [⟨some 30, .load 15 true, [.t 3], none⟩,
  ⟨some 31, .mv, [.t 1], none⟩,
  ⟨some 32, .call 23, [.t 30, .t 31], none⟩,
  ⟨some 29, .mv, [.t 32], none⟩,
  ⟨some 33, .ext 0, [.t 29], none⟩,
  ⟨some 34, .ext 1, [.t 29], none⟩,
  ⟨some 9, .alloc [.v (.string ⟨#[]⟩), .v (.string ⟨#[]⟩), .v (.int .i64 0), .v (.int .i64 0), .v (.int .i64 0), .v (.int .i64 0), .v (.int .i64 0), .v (.bool false)], [], none⟩,
  ⟨none, .store 8, [.t 9, .t 33], none⟩,
  ⟨some 10, .mv, [.t 34], none⟩])
 (.seq (.seq (.reg [⟨some 35, .mv, [.t 10], none⟩,
  ⟨some 36, .un .not, [.t 35], none⟩])
 (.cond (.t 36)
 (.seq (.reg [⟨some 37, .build [.sl [] [], .sl [] [], .sl [] [], .sl [] [], .sl [] [], .sl [] [], .sl [] [], .sl [] [], .sl [] [], .sl [] [], .sl [] [], .sl [] [], .sl [] [], .sl [] [], .v (.int .i64 0)] [], [], none⟩,
  ⟨none, .store 15, [.t 6, .t 37], none⟩,
  ⟨some 7, .mv, [.c (.p (.v (.int .i64 12)))], none⟩])
 .ret)
 .skip))
 (.seq (.seq (.reg [⟨some 38, .fad 7, [.t 9], none⟩,
  ⟨some 39, .load 1 false, [.t 38], none⟩,
  ⟨some 40, .un .not, [.t 39], none⟩])
 (.cond (.t 40)
 (.seq (.reg [⟨some 41, .build [.sl [] [], .sl [] [], .sl [] [], .sl [] [], .sl [] [], .sl [] [], .sl [] [], .sl [] [], .sl [] [], .sl [] [], .sl [] [], .sl [] [], .sl [] [], .sl [] [], .v (.int .i64 0)] [], [], none⟩,
  ⟨none, .store 15, [.t 6, .t 41], none⟩,
  ⟨some 7, .mv, [.c (.p (.v (.int .i64 13)))], none⟩])
 .ret)
 .skip))
 (.seq (.reg [⟨some 42, .fad 12, [.t 3], none⟩,
  ⟨some 43, .load 1 false, [.t 42], none⟩,
  ⟨some 11, .mv, [.t 43], none⟩])
 (.seq (.seq (.reg [⟨some 12, .mv, [.c (.p (.v (.int .i64 0)))], none⟩])
 (.block 0
 (.loop
 (.seq (.seq (.reg [⟨some 44, .mv, [.t 12], none⟩,
  ⟨some 45, .mv, [.t 11], none⟩,
  ⟨some 46, .len 0, [.t 45], none⟩,
  ⟨some 47, .bin .lss, [.t 44, .t 46], none⟩])
 (.cond (.t 47)
 .skip
 (.exit 0)))
 (.seq (.block 1
 (.seq (.reg [⟨some 50, .mv, [.t 11], none⟩,
  ⟨some 51, .mv, [.t 12], none⟩,
  ⟨some 52, .iad 5, [.t 50, .t 51], none⟩,
  ⟨some 53, .load 5 true, [.t 52], none⟩,
  ⟨some 13, .alloc [.v (.string ⟨#[]⟩), .v (.string ⟨#[]⟩), .v (.string ⟨#[]⟩), .v (.int .i64 0), .v (.int .i64 0)], [], none⟩,
  ⟨none, .store 5, [.t 13, .t 53], none⟩])
 (.seq (.seq (.reg [⟨some 54, .fad 0, [.t 13], none⟩,
  ⟨some 55, .fad 0, [.t 54], none⟩,
  ⟨some 56, .load 1 false, [.t 55], none⟩,
  ⟨some 57, .mv, [.t 1], none⟩,
  ⟨some 58, .bin .neq, [.t 56, .t 57], none⟩])
 (.cond (.t 58)
 (.exit 1)
 .skip))
 (.seq (.reg [⟨some 60, .load 15 true, [.t 3], none⟩,
  ⟨some 61, .fad 0, [.t 13], none⟩,
  ⟨some 62, .load 4 true, [.t 61], none⟩,
  ⟨some 63, .call 78, [.t 60, .t 62], none⟩,
  ⟨some 59, .mv, [.t 63], none⟩,
  ⟨some 64, .ext 0, [.t 59], none⟩,
  ⟨some 65, .ext 1, [.t 59], none⟩,
  ⟨some 14, .alloc [.v (.string ⟨#[]⟩), .v (.string ⟨#[]⟩), .v (.string ⟨#[]⟩), .v (.int .i64 0), .v (.int .i64 0), .v (.int .i64 0)], [], none⟩,
  ⟨none, .store 6, [.t 14, .t 64], none⟩,
  ⟨some 15, .mv, [.t 65], none⟩])
 (.seq (.seq (.reg [⟨some 66, .fad 5, [.t 14], none⟩,
  ⟨some 67, .load 1 false, [.t 66], none⟩,
  ⟨some 68, .fad 4, [.t 13], none⟩,
  ⟨some 69, .load 1 false, [.t 68], none⟩,
  ⟨some 70, .bin .gtr, [.t 67, .t 69], none⟩])
 (.cond (.t 70)
 (.seq (.reg [⟨some 71, .build [.sl [] [], .sl [] [], .sl [] [], .sl [] [], .sl [] [], .sl [] [], .sl [] [], .sl [] [], .sl [] [], .sl [] [], .sl [] [], .sl [] [], .sl [] [], .sl [] [], .v (.int .i64 0)] [], [], none⟩,
  ⟨none, .store 15, [.t 6, .t 71], none⟩,
  ⟨some 7, .mv, [.c (.p (.v (.int .i64 28)))], none⟩])
 .ret)
 .skip))
 (.seq (.seq (.reg [⟨some 72, .mv, [.t 15], none⟩,
  ⟨some 73, .un .not, [.t 72], none⟩,
  ⟨some 74, .mv, [.t 73], none⟩,
  ⟨some 75, .fad 4, [.t 13], some (74, true)⟩,
  ⟨some 76, .load 1 false, [.t 75], some (74, true)⟩,
  ⟨some 77, .bin .gtr, [.t 76, .c (.p (.v (.int .i64 0)))], some (74, true)⟩,
  ⟨some 78, .pick, [.t 74, .t 77, .c (.p (.v (.bool false)))], none⟩,
  ⟨some 79, .mv, [.t 78], none⟩,
  ⟨some 80, .fad 4, [.t 3], some (79, true)⟩,
  ⟨some 81, .load 1 false, [.t 80], some (79, true)⟩,
  ⟨some 82, .len 0, [.t 81], some (79, true)⟩,
  ⟨some 83, .bin .geq, [.t 82, .c (.p (.v (.int .i64 256)))], some (79, true)⟩,
  ⟨some 84, .pick, [.t 79, .t 83, .c (.p (.v (.bool false)))], none⟩])
 (.cond (.t 84)
 (.seq (.reg [⟨some 85, .build [.sl [] [], .sl [] [], .sl [] [], .sl [] [], .sl [] [], .sl [] [], .sl [] [], .sl [] [], .sl [] [], .sl [] [], .sl [] [], .sl [] [], .sl [] [], .sl [] [], .v (.int .i64 0)] [], [], none⟩,
  ⟨none, .store 15, [.t 6, .t 85], none⟩,
  ⟨some 7, .mv, [.c (.p (.v (.int .i64 16)))], none⟩])
 .ret)
 .skip))
 (.seq (.reg [⟨some 86, .fad 4, [.t 13], none⟩,
  ⟨some 87, .load 1 false, [.t 86], none⟩,
  ⟨some 88, .fad 4, [.t 14], none⟩,
  ⟨some 89, .load 1 false, [.t 88], none⟩,
  ⟨some 90, .bin .sub, [.t 87, .t 89], none⟩,
  ⟨some 16, .mv, [.t 90], none⟩])
 (.seq (.reg [⟨some 91, .fad 0, [.t 13], none⟩,
  ⟨some 92, .load 4 true, [.t 91], none⟩,
  ⟨some 93, .fad 0, [.t 14], none⟩,
  ⟨none, .store 4, [.t 93, .t 92], none⟩])
 (.seq (.reg [⟨some 94, .fad 4, [.t 13], none⟩,
  ⟨some 95, .load 1 false, [.t 94], none⟩,
  ⟨some 96, .fad 4, [.t 14], none⟩,
  ⟨none, .store 1, [.t 96, .t 95], none⟩])
 (.seq (.reg [⟨some 97, .load 15 true, [.t 3], none⟩,
  ⟨some 98, .load 6 true, [.t 14], none⟩,
  ⟨some 99, .call 79, [.t 97, .t 98], none⟩,
  ⟨none, .store 15, [.t 3, .t 99], none⟩])
 (.seq (.reg [⟨some 101, .load 15 true, [.t 3], none⟩,
  ⟨some 102, .fad 0, [.t 13], none⟩,
  ⟨some 103, .fad 1, [.t 102], none⟩,
  ⟨some 104, .load 1 false, [.t 103], none⟩,
  ⟨some 105, .fad 0, [.t 13], none⟩,
  ⟨some 106, .fad 2, [.t 105], none⟩,
  ⟨some 107, .load 1 false, [.t 106], none⟩,
  ⟨some 108, .call 80, [.t 101, .t 104, .t 107], none⟩,
  ⟨some 100, .mv, [.t 108], none⟩,
  ⟨some 109, .ext 0, [.t 100], none⟩,
  ⟨some 110, .ext 1, [.t 100], none⟩,
  ⟨some 17, .alloc [.v (.string ⟨#[]⟩), .v (.string ⟨#[]⟩), .v (.int .i64 0), .v (.int .i64 0), .v (.int .i64 0), .v (.int .i64 0)], [], none⟩,
  ⟨none, .store 6, [.t 17, .t 109], none⟩,
  ⟨some 18, .mv, [.t 110], none⟩])
 (.seq (.reg [⟨some 111, .mv, [.t 18], none⟩,
  ⟨some 112, .mv, [.t 111], none⟩,
  ⟨some 113, .mv, [.t 16], some (112, false)⟩,
  ⟨some 114, .bin .neq, [.t 113, .c (.p (.v (.int .i64 0)))], some (112, false)⟩,
  ⟨some 115, .pick, [.t 112, .c (.p (.v (.bool true))), .t 114], none⟩])
 (.cond (.t 115)
 (.seq (.reg [⟨some 116, .fad 5, [.t 17], none⟩,
  ⟨some 117, .load 1 false, [.t 116], none⟩,
  ⟨some 118, .mv, [.t 16], none⟩,
  ⟨some 119, .bin .add, [.t 117, .t 118], none⟩,
  ⟨some 120, .fad 5, [.t 17], none⟩,
  ⟨none, .store 1, [.t 120, .t 119], none⟩])
 (.reg [⟨some 121, .load 15 true, [.t 3], none⟩,
  ⟨some 122, .load 6 true, [.t 17], none⟩,
  ⟨some 123, .call 81, [.t 121, .t 122], none⟩,
  ⟨none, .store 15, [.t 3, .t 123], none⟩]))
 .skip)))))))))))))
 (.reg [⟨some 48, .mv, [.t 12], none⟩,
  ⟨some 49, .bin .add, [.t 48, .c (.p (.v (.int .i64 1)))], none⟩,
  ⟨some 12, .mv, [.t 49], none⟩]))))))
 (.seq (.seq (.reg [⟨some 19, .mv, [.c (.p (.v (.int .i64 0)))], none⟩])
 (.block 2
 (.loop
 (.seq (.seq (.reg [⟨some 124, .mv, [.t 19], none⟩,
  ⟨some 125, .mv, [.t 11], none⟩,
  ⟨some 126, .len 0, [.t 125], none⟩,
  ⟨some 127, .bin .lss, [.t 124, .t 126], none⟩])
 (.cond (.t 127)
 .skip
 (.exit 2)))
 (.seq (.block 3
 (.seq (.reg [⟨some 130, .mv, [.t 11], none⟩,
  ⟨some 131, .mv, [.t 19], none⟩,
  ⟨some 132, .iad 5, [.t 130, .t 131], none⟩,
  ⟨some 133, .load 5 true, [.t 132], none⟩,
  ⟨some 20, .alloc [.v (.string ⟨#[]⟩), .v (.string ⟨#[]⟩), .v (.string ⟨#[]⟩), .v (.int .i64 0), .v (.int .i64 0)], [], none⟩,
  ⟨none, .store 5, [.t 20, .t 133], none⟩])
 (.seq (.reg [⟨some 135, .load 15 true, [.t 3], none⟩,
  ⟨some 136, .fad 0, [.t 20], none⟩,
  ⟨some 137, .fad 1, [.t 136], none⟩,
  ⟨some 138, .load 1 false, [.t 137], none⟩,
  ⟨some 139, .call 65, [.t 135, .t 138], none⟩,
  ⟨some 134, .mv, [.t 139], none⟩,
  ⟨some 140, .ext 0, [.t 134], none⟩,
  ⟨some 141, .ext 1, [.t 134], none⟩,
  ⟨some 21, .alloc [.v (.string ⟨#[]⟩), .v (.string ⟨#[]⟩), .v (.int .i64 0), .v (.string ⟨#[]⟩), .v (.int .i64 0), .v (.string ⟨#[]⟩), .v (.int .i64 0), .v (.string ⟨#[]⟩), .v (.int .i64 0), .v (.int .i64 0), .v (.int .i64 0), .v (.bool false), .v (.bool false), .v (.bool false)], [], none⟩,
  ⟨none, .store 14, [.t 21, .t 140], none⟩,
  ⟨some 22, .mv, [.t 141], none⟩])
 (.seq (.reg [⟨some 142, .fad 0, [.t 20], none⟩,
  ⟨some 143, .fad 0, [.t 142], none⟩,
  ⟨some 144, .load 1 false, [.t 143], none⟩,
  ⟨some 145, .mv, [.t 1], none⟩,
  ⟨some 146, .bin .eql, [.t 144, .t 145], none⟩,
  ⟨some 147, .mv, [.t 146], none⟩,
  ⟨some 148, .fad 12, [.t 21], some (147, true)⟩,
  ⟨some 149, .load 1 false, [.t 148], some (147, true)⟩,
  ⟨some 150, .pick, [.t 147, .t 149, .c (.p (.v (.bool false)))], none⟩,
  ⟨some 151, .mv, [.t 150], none⟩,
  ⟨some 152, .load 15 true, [.t 3], some (151, true)⟩,
  ⟨some 153, .fad 0, [.t 20], some (151, true)⟩,
  ⟨some 154, .fad 1, [.t 153], some (151, true)⟩,
  ⟨some 155, .load 1 false, [.t 154], some (151, true)⟩,
  ⟨some 156, .fad 0, [.t 20], some (151, true)⟩,
  ⟨some 157, .fad 2, [.t 156], some (151, true)⟩,
  ⟨some 158, .load 1 false, [.t 157], some (151, true)⟩,
  ⟨some 159, .call 82, [.t 152, .t 155, .t 158], some (151, true)⟩,
  ⟨some 160, .bin .gtr, [.t 159, .c (.p (.v (.int .i64 1)))], some (151, true)⟩,
  ⟨some 161, .pick, [.t 151, .t 160, .c (.p (.v (.bool false)))], none⟩])
 (.cond (.t 161)
 (.seq (.reg [⟨some 162, .build [.sl [] [], .sl [] [], .sl [] [], .sl [] [], .sl [] [], .sl [] [], .sl [] [], .sl [] [], .sl [] [], .sl [] [], .sl [] [], .sl [] [], .sl [] [], .sl [] [], .v (.int .i64 0)] [], [], none⟩,
  ⟨none, .store 15, [.t 6, .t 162], none⟩,
  ⟨some 7, .mv, [.c (.p (.v (.int .i64 22)))], none⟩])
 .ret)
 .skip)))))
 (.reg [⟨some 128, .mv, [.t 19], none⟩,
  ⟨some 129, .bin .add, [.t 128, .c (.p (.v (.int .i64 1)))], none⟩,
  ⟨some 19, .mv, [.t 129], none⟩]))))))
 (.seq (.seq (.reg [⟨some 163, .load 15 true, [.t 3], none⟩,
  ⟨some 164, .load 8 true, [.t 9], none⟩,
  ⟨some 165, .call 83, [.t 163, .t 164], none⟩])
 (.cond (.t 165)
 (.seq (.reg [⟨some 166, .build [.sl [] [], .sl [] [], .sl [] [], .sl [] [], .sl [] [], .sl [] [], .sl [] [], .sl [] [], .sl [] [], .sl [] [], .sl [] [], .sl [] [], .sl [] [], .sl [] [], .v (.int .i64 0)] [], [], none⟩,
  ⟨none, .store 15, [.t 6, .t 166], none⟩,
  ⟨some 7, .mv, [.c (.p (.v (.int .i64 26)))], none⟩])
 .ret)
 .skip))
 (.seq (.reg [⟨some 167, .load 15 true, [.t 3], none⟩,
  ⟨some 168, .mv, [.t 1], none⟩,
  ⟨some 169, .call 20, [.t 167, .t 168], none⟩,
  ⟨some 170, .ext 0, [.t 169], none⟩,
  ⟨some 171, .ext 1, [.t 169], none⟩,
  ⟨none, .store 15, [.t 6, .t 170], none⟩,
  ⟨some 7, .mv, [.t 171], none⟩])
 .ret)))))))))))
theorem ret18 {ps : List PV} {p : PV} (hn : Nat.ble ps.length 172 = true) (h : (∀ q ∈ ps, q.bd) → Run Tryz.prog (fun e s' => (∀ id, e ≠ .exit id) ∧ ∃ ns, s'.out [.c 6 15 true, .t 7] = some (p, ns)) [] c18 (S (initL 0 ps) [])) : Ret Tryz.prog 18 ps p :=
  ret_run Tryz.func18 rfl (by kernel_rfl) rfl (by kernel_rfl) (by kernel_rfl) (by kernel_rfl) (by kernel_rfl) (Nat.le_of_ble_eq_true hn) h

end Go.Fw
