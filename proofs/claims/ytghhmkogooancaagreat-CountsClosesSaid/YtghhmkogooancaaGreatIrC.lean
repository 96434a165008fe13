/-
  The code of some functions, for the abstract machine. Printed by a program (wip/tools/mkir.py).
-/
import Derived.Test.YtghhmkogooancaaGreatFwU
import Derived.Test.YtghhmkogooancaaGreatProg
import Derived.KernelRfl
set_option linter.unusedVariables false
set_option maxRecDepth 100000
namespace Go.Fw
open Go.Proofs

/-- (stevedore/table.Table[stevedore/api.Bin]).Put -/
def c119 : C :=
  (.seq (.reg [⟨some 3, .box, [.t 0], none⟩,
  ⟨some 5, .box, [.t 2], none⟩,
  ⟨some 6, .mv, [.c .nil], none⟩])
 (.seq (.reg [⟨some 11, .mv, [.t 1], none⟩,
  ⟨some 12, .calln 147, [.t 11], none⟩,
  ⟨some 7, .mv, [.t 12], none⟩])
 (.seq (.seq (.reg [⟨some 14, .load 1 true, [.t 3], none⟩,
  ⟨some 15, .mv, [.t 1], none⟩,
  ⟨some 16, .load 8 true, [.t 5], none⟩,
  ⟨some 17, .call 108, [.t 14, .t 15, .t 16], none⟩,
  ⟨some 13, .mv, [.t 17], none⟩,
  ⟨some 18, .ext 0, [.t 13], none⟩,
  ⟨some 19, .ext 1, [.t 13], none⟩,
  ⟨some 8, .mv, [.t 18], none⟩,
  ⟨some 9, .mv, [.t 19], none⟩])
 (.seq (.reg [⟨some 20, .mv, [.t 9], none⟩])
 (.cond (.t 20)
 (.seq (.reg [⟨some 21, .mv, [.t 7], none⟩,
  ⟨some 22, .mv, [.t 8], none⟩,
  ⟨some 23, .load 8 true, [.t 5], none⟩,
  ⟨some 24, .iad 8, [.t 21, .t 22], none⟩,
  ⟨none, .store 8, [.t 24, .t 23], none⟩])
 (.seq (.reg [⟨some 25, .mv, [.t 7], none⟩,
  ⟨some 6, .mv, [.t 25], none⟩])
 .ret))
 .skip)))
 (.seq (.reg [⟨some 26, .mv, [.t 1], none⟩,
  ⟨some 27, .mkf 148, [.t 3, .t 5], none⟩,
  ⟨some 28, .call 144, [.t 26, .t 27], none⟩,
  ⟨some 10, .mv, [.t 28], none⟩])
 (.seq (.seq (.reg [⟨some 29, .mv, [.t 10], none⟩,
  ⟨some 30, .bin .lss, [.t 29, .c (.p (.v (.int .i64 0)))], none⟩])
 (.cond (.t 30)
 (.reg [⟨some 31, .mv, [.t 1], none⟩,
  ⟨some 32, .len 0, [.t 31], none⟩,
  ⟨some 10, .mv, [.t 32], none⟩])
 .skip))
 (.seq (.reg [⟨some 33, .mv, [.t 7], none⟩,
  ⟨some 34, .mv, [.t 10], none⟩,
  ⟨some 35, .load 8 true, [.t 5], none⟩,
  ⟨some 36, .bsl 53 8 1 [.v (.string ⟨#[]⟩), .v (.string ⟨#[]⟩), .v (.int .i64 0), .v (.int .i64 0), .v (.int .i64 0), .v (.int .i64 0), .v (.int .i64 0), .v (.bool false)] [0], [.t 35], none⟩,
  ⟨some 37, .calli 149, [.t 33, .t 34, .t 36], none⟩,
  ⟨some 6, .mv, [.t 37], none⟩])
 .ret))))))
theorem ret119 {ps : List PV} {p : PV} (hn : Nat.ble ps.length 38 = true) (h : (∀ q ∈ ps, q.bd) → Run Tryz.prog (fun e s' => (∀ id, e ≠ .exit id) ∧ ∃ ns, s'.out [.t 6] = some (p, ns)) [] c119 (S (initL 0 ps) [])) : Ret Tryz.prog 119 ps p :=
  ret_run Tryz.func119 rfl (by kernel_rfl) rfl (by kernel_rfl) (by kernel_rfl) (by kernel_rfl) (by kernel_rfl) (Nat.le_of_ble_eq_true hn) h

theorem row119 {ps : List PV} {ty es : Nat} {zs : List (List PV)} (hn : Nat.ble ps.length 38 = true) (h : (∀ q ∈ ps, q.bd) → Run Tryz.prog (fun e s' => (∀ id, e ≠ .exit id) ∧ ((s'.t 6 = .nil ∧ zs = []) ∨ ∃ n, s'.t 6 = .row n zs.length ∧ s'.o n = some (.row ty es zs false))) [] c119 (S (initL 0 ps) [])) : RetN Tryz.prog 119 ps ty es zs :=
  retN_run Tryz.func119 rfl (by kernel_rfl) rfl rfl (by decide) (by kernel_rfl) (by kernel_rfl) (by kernel_rfl) (Nat.le_of_ble_eq_true hn) h

/-- (stevedore/table.Table[stevedore/api.Counted]).Put -/
def c64 : C :=
  (.seq (.reg [⟨some 3, .box, [.t 0], none⟩,
  ⟨some 5, .box, [.t 2], none⟩,
  ⟨some 6, .mv, [.c .nil], none⟩])
 (.seq (.reg [⟨some 11, .mv, [.t 1], none⟩,
  ⟨some 12, .calln 95, [.t 11], none⟩,
  ⟨some 7, .mv, [.t 12], none⟩])
 (.seq (.seq (.reg [⟨some 14, .load 1 true, [.t 3], none⟩,
  ⟨some 15, .mv, [.t 1], none⟩,
  ⟨some 16, .load 5 true, [.t 5], none⟩,
  ⟨some 17, .call 63, [.t 14, .t 15, .t 16], none⟩,
  ⟨some 13, .mv, [.t 17], none⟩,
  ⟨some 18, .ext 0, [.t 13], none⟩,
  ⟨some 19, .ext 1, [.t 13], none⟩,
  ⟨some 8, .mv, [.t 18], none⟩,
  ⟨some 9, .mv, [.t 19], none⟩])
 (.seq (.reg [⟨some 20, .mv, [.t 9], none⟩])
 (.cond (.t 20)
 (.seq (.reg [⟨some 21, .mv, [.t 7], none⟩,
  ⟨some 22, .mv, [.t 8], none⟩,
  ⟨some 23, .load 5 true, [.t 5], none⟩,
  ⟨some 24, .iad 5, [.t 21, .t 22], none⟩,
  ⟨none, .store 5, [.t 24, .t 23], none⟩])
 (.seq (.reg [⟨some 25, .mv, [.t 7], none⟩,
  ⟨some 6, .mv, [.t 25], none⟩])
 .ret))
 .skip)))
 (.seq (.reg [⟨some 26, .mv, [.t 1], none⟩,
  ⟨some 27, .mkf 96, [.t 3, .t 5], none⟩,
  ⟨some 28, .call 93, [.t 26, .t 27], none⟩,
  ⟨some 10, .mv, [.t 28], none⟩])
 (.seq (.seq (.reg [⟨some 29, .mv, [.t 10], none⟩,
  ⟨some 30, .bin .lss, [.t 29, .c (.p (.v (.int .i64 0)))], none⟩])
 (.cond (.t 30)
 (.reg [⟨some 31, .mv, [.t 1], none⟩,
  ⟨some 32, .len 0, [.t 31], none⟩,
  ⟨some 10, .mv, [.t 32], none⟩])
 .skip))
 (.seq (.reg [⟨some 33, .mv, [.t 7], none⟩,
  ⟨some 34, .mv, [.t 10], none⟩,
  ⟨some 35, .load 5 true, [.t 5], none⟩,
  ⟨some 36, .bsl 41 5 1 [.v (.string ⟨#[]⟩), .v (.string ⟨#[]⟩), .v (.string ⟨#[]⟩), .v (.int .i64 0), .v (.int .i64 0)] [0], [.t 35], none⟩,
  ⟨some 37, .calli 97, [.t 33, .t 34, .t 36], none⟩,
  ⟨some 6, .mv, [.t 37], none⟩])
 .ret))))))
theorem ret64 {ps : List PV} {p : PV} (hn : Nat.ble ps.length 38 = true) (h : (∀ q ∈ ps, q.bd) → Run Tryz.prog (fun e s' => (∀ id, e ≠ .exit id) ∧ ∃ ns, s'.out [.t 6] = some (p, ns)) [] c64 (S (initL 0 ps) [])) : Ret Tryz.prog 64 ps p :=
  ret_run Tryz.func64 rfl (by kernel_rfl) rfl (by kernel_rfl) (by kernel_rfl) (by kernel_rfl) (by kernel_rfl) (Nat.le_of_ble_eq_true hn) h

theorem row64 {ps : List PV} {ty es : Nat} {zs : List (List PV)} (hn : Nat.ble ps.length 38 = true) (h : (∀ q ∈ ps, q.bd) → Run Tryz.prog (fun e s' => (∀ id, e ≠ .exit id) ∧ ((s'.t 6 = .nil ∧ zs = []) ∨ ∃ n, s'.t 6 = .row n zs.length ∧ s'.o n = some (.row ty es zs false))) [] c64 (S (initL 0 ps) [])) : RetN Tryz.prog 64 ps ty es zs :=
  retN_run Tryz.func64 rfl (by kernel_rfl) rfl rfl (by decide) (by kernel_rfl) (by kernel_rfl) (by kernel_rfl) (Nat.le_of_ble_eq_true hn) h

/-- (stevedore/table.Table[stevedore/api.Quant]).Put -/
def c101 : C :=
  (.seq (.reg [⟨some 3, .box, [.t 0], none⟩,
  ⟨some 5, .box, [.t 2], none⟩,
  ⟨some 6, .mv, [.c .nil], none⟩])
 (.seq (.reg [⟨some 11, .mv, [.t 1], none⟩,
  ⟨some 12, .calln 130, [.t 11], none⟩,
  ⟨some 7, .mv, [.t 12], none⟩])
 (.seq (.seq (.reg [⟨some 14, .load 1 true, [.t 3], none⟩,
  ⟨some 15, .mv, [.t 1], none⟩,
  ⟨some 16, .load 6 true, [.t 5], none⟩,
  ⟨some 17, .call 86, [.t 14, .t 15, .t 16], none⟩,
  ⟨some 13, .mv, [.t 17], none⟩,
  ⟨some 18, .ext 0, [.t 13], none⟩,
  ⟨some 19, .ext 1, [.t 13], none⟩,
  ⟨some 8, .mv, [.t 18], none⟩,
  ⟨some 9, .mv, [.t 19], none⟩])
 (.seq (.reg [⟨some 20, .mv, [.t 9], none⟩])
 (.cond (.t 20)
 (.seq (.reg [⟨some 21, .mv, [.t 7], none⟩,
  ⟨some 22, .mv, [.t 8], none⟩,
  ⟨some 23, .load 6 true, [.t 5], none⟩,
  ⟨some 24, .iad 6, [.t 21, .t 22], none⟩,
  ⟨none, .store 6, [.t 24, .t 23], none⟩])
 (.seq (.reg [⟨some 25, .mv, [.t 7], none⟩,
  ⟨some 6, .mv, [.t 25], none⟩])
 .ret))
 .skip)))
 (.seq (.reg [⟨some 26, .mv, [.t 1], none⟩,
  ⟨some 27, .mkf 132, [.t 3, .t 5], none⟩,
  ⟨some 28, .call 117, [.t 26, .t 27], none⟩,
  ⟨some 10, .mv, [.t 28], none⟩])
 (.seq (.seq (.reg [⟨some 29, .mv, [.t 10], none⟩,
  ⟨some 30, .bin .lss, [.t 29, .c (.p (.v (.int .i64 0)))], none⟩])
 (.cond (.t 30)
 (.reg [⟨some 31, .mv, [.t 1], none⟩,
  ⟨some 32, .len 0, [.t 31], none⟩,
  ⟨some 10, .mv, [.t 32], none⟩])
 .skip))
 (.seq (.reg [⟨some 33, .mv, [.t 7], none⟩,
  ⟨some 34, .mv, [.t 10], none⟩,
  ⟨some 35, .load 6 true, [.t 5], none⟩,
  ⟨some 36, .bsl 59 6 1 [.v (.string ⟨#[]⟩), .v (.string ⟨#[]⟩), .v (.string ⟨#[]⟩), .v (.int .i64 0), .v (.int .i64 0), .v (.int .i64 0)] [0], [.t 35], none⟩,
  ⟨some 37, .calli 133, [.t 33, .t 34, .t 36], none⟩,
  ⟨some 6, .mv, [.t 37], none⟩])
 .ret))))))
theorem ret101 {ps : List PV} {p : PV} (hn : Nat.ble ps.length 38 = true) (h : (∀ q ∈ ps, q.bd) → Run Tryz.prog (fun e s' => (∀ id, e ≠ .exit id) ∧ ∃ ns, s'.out [.t 6] = some (p, ns)) [] c101 (S (initL 0 ps) [])) : Ret Tryz.prog 101 ps p :=
  ret_run Tryz.func101 rfl (by kernel_rfl) rfl (by kernel_rfl) (by kernel_rfl) (by kernel_rfl) (by kernel_rfl) (Nat.le_of_ble_eq_true hn) h

theorem row101 {ps : List PV} {ty es : Nat} {zs : List (List PV)} (hn : Nat.ble ps.length 38 = true) (h : (∀ q ∈ ps, q.bd) → Run Tryz.prog (fun e s' => (∀ id, e ≠ .exit id) ∧ ((s'.t 6 = .nil ∧ zs = []) ∨ ∃ n, s'.t 6 = .row n zs.length ∧ s'.o n = some (.row ty es zs false))) [] c101 (S (initL 0 ps) [])) : RetN Tryz.prog 101 ps ty es zs :=
  retN_run Tryz.func101 rfl (by kernel_rfl) rfl rfl (by decide) (by kernel_rfl) (by kernel_rfl) (by kernel_rfl) (Nat.le_of_ble_eq_true hn) h

/-- (stevedore/table.Table[stevedore/api.Total]).Put -/
def c104 : C :=
  (.seq (.reg [⟨some 3, .box, [.t 0], none⟩,
  ⟨some 5, .box, [.t 2], none⟩,
  ⟨some 6, .mv, [.c .nil], none⟩])
 (.seq (.reg [⟨some 11, .mv, [.t 1], none⟩,
  ⟨some 12, .calln 137, [.t 11], none⟩,
  ⟨some 7, .mv, [.t 12], none⟩])
 (.seq (.seq (.reg [⟨some 14, .load 1 true, [.t 3], none⟩,
  ⟨some 15, .mv, [.t 1], none⟩,
  ⟨some 16, .load 6 true, [.t 5], none⟩,
  ⟨some 17, .call 103, [.t 14, .t 15, .t 16], none⟩,
  ⟨some 13, .mv, [.t 17], none⟩,
  ⟨some 18, .ext 0, [.t 13], none⟩,
  ⟨some 19, .ext 1, [.t 13], none⟩,
  ⟨some 8, .mv, [.t 18], none⟩,
  ⟨some 9, .mv, [.t 19], none⟩])
 (.seq (.reg [⟨some 20, .mv, [.t 9], none⟩])
 (.cond (.t 20)
 (.seq (.reg [⟨some 21, .mv, [.t 7], none⟩,
  ⟨some 22, .mv, [.t 8], none⟩,
  ⟨some 23, .load 6 true, [.t 5], none⟩,
  ⟨some 24, .iad 6, [.t 21, .t 22], none⟩,
  ⟨none, .store 6, [.t 24, .t 23], none⟩])
 (.seq (.reg [⟨some 25, .mv, [.t 7], none⟩,
  ⟨some 6, .mv, [.t 25], none⟩])
 .ret))
 .skip)))
 (.seq (.reg [⟨some 26, .mv, [.t 1], none⟩,
  ⟨some 27, .mkf 138, [.t 3, .t 5], none⟩,
  ⟨some 28, .call 135, [.t 26, .t 27], none⟩,
  ⟨some 10, .mv, [.t 28], none⟩])
 (.seq (.seq (.reg [⟨some 29, .mv, [.t 10], none⟩,
  ⟨some 30, .bin .lss, [.t 29, .c (.p (.v (.int .i64 0)))], none⟩])
 (.cond (.t 30)
 (.reg [⟨some 31, .mv, [.t 1], none⟩,
  ⟨some 32, .len 0, [.t 31], none⟩,
  ⟨some 10, .mv, [.t 32], none⟩])
 .skip))
 (.seq (.reg [⟨some 33, .mv, [.t 7], none⟩,
  ⟨some 34, .mv, [.t 10], none⟩,
  ⟨some 35, .load 6 true, [.t 5], none⟩,
  ⟨some 36, .bsl 69 6 1 [.v (.string ⟨#[]⟩), .v (.string ⟨#[]⟩), .v (.int .i64 0), .v (.int .i64 0), .v (.int .i64 0), .v (.int .i64 0)] [0], [.t 35], none⟩,
  ⟨some 37, .calli 139, [.t 33, .t 34, .t 36], none⟩,
  ⟨some 6, .mv, [.t 37], none⟩])
 .ret))))))
theorem ret104 {ps : List PV} {p : PV} (hn : Nat.ble ps.length 38 = true) (h : (∀ q ∈ ps, q.bd) → Run Tryz.prog (fun e s' => (∀ id, e ≠ .exit id) ∧ ∃ ns, s'.out [.t 6] = some (p, ns)) [] c104 (S (initL 0 ps) [])) : Ret Tryz.prog 104 ps p :=
  ret_run Tryz.func104 rfl (by kernel_rfl) rfl (by kernel_rfl) (by kernel_rfl) (by kernel_rfl) (by kernel_rfl) (Nat.le_of_ble_eq_true hn) h

theorem row104 {ps : List PV} {ty es : Nat} {zs : List (List PV)} (hn : Nat.ble ps.length 38 = true) (h : (∀ q ∈ ps, q.bd) → Run Tryz.prog (fun e s' => (∀ id, e ≠ .exit id) ∧ ((s'.t 6 = .nil ∧ zs = []) ∨ ∃ n, s'.t 6 = .row n zs.length ∧ s'.o n = some (.row ty es zs false))) [] c104 (S (initL 0 ps) [])) : RetN Tryz.prog 104 ps ty es zs :=
  retN_run Tryz.func104 rfl (by kernel_rfl) rfl rfl (by decide) (by kernel_rfl) (by kernel_rfl) (by kernel_rfl) (Nat.le_of_ble_eq_true hn) h

/-- (stevedore/table.Table[stevedore/api.Quant]).Drop -/
def c100 : C :=
  (.seq (.reg [⟨some 3, .box, [.t 0], none⟩,
  ⟨some 5, .box, [.t 2], none⟩,
  ⟨some 6, .mv, [.c .nil], none⟩])
 (.seq (.reg [⟨some 10, .mv, [.t 1], none⟩,
  ⟨some 11, .calln 130, [.t 10], none⟩,
  ⟨some 7, .mv, [.t 11], none⟩])
 (.seq (.seq (.reg [⟨some 13, .load 1 true, [.t 3], none⟩,
  ⟨some 14, .mv, [.t 1], none⟩,
  ⟨some 15, .load 6 true, [.t 5], none⟩,
  ⟨some 16, .call 86, [.t 13, .t 14, .t 15], none⟩,
  ⟨some 12, .mv, [.t 16], none⟩,
  ⟨some 17, .ext 0, [.t 12], none⟩,
  ⟨some 18, .ext 1, [.t 12], none⟩,
  ⟨some 8, .mv, [.t 17], none⟩,
  ⟨some 9, .mv, [.t 18], none⟩])
 (.seq (.reg [⟨some 19, .mv, [.t 9], none⟩])
 (.cond (.t 19)
 (.reg [⟨some 20, .mv, [.t 7], none⟩,
  ⟨some 21, .mv, [.t 8], none⟩,
  ⟨some 22, .mv, [.t 8], none⟩,
  ⟨some 23, .bin .add, [.t 22, .c (.p (.v (.int .i64 1)))], none⟩,
  ⟨some 24, .calli 131, [.t 20, .t 21, .t 23], none⟩,
  ⟨some 7, .mv, [.t 24], none⟩])
 .skip)))
 (.seq (.reg [⟨some 25, .mv, [.t 7], none⟩,
  ⟨some 6, .mv, [.t 25], none⟩])
 .ret))))
theorem ret100 {ps : List PV} {p : PV} (hn : Nat.ble ps.length 26 = true) (h : (∀ q ∈ ps, q.bd) → Run Tryz.prog (fun e s' => (∀ id, e ≠ .exit id) ∧ ∃ ns, s'.out [.t 6] = some (p, ns)) [] c100 (S (initL 0 ps) [])) : Ret Tryz.prog 100 ps p :=
  ret_run Tryz.func100 rfl (by kernel_rfl) rfl (by kernel_rfl) (by kernel_rfl) (by kernel_rfl) (by kernel_rfl) (Nat.le_of_ble_eq_true hn) h

theorem row100 {ps : List PV} {ty es : Nat} {zs : List (List PV)} (hn : Nat.ble ps.length 26 = true) (h : (∀ q ∈ ps, q.bd) → Run Tryz.prog (fun e s' => (∀ id, e ≠ .exit id) ∧ ((s'.t 6 = .nil ∧ zs = []) ∨ ∃ n, s'.t 6 = .row n zs.length ∧ s'.o n = some (.row ty es zs false))) [] c100 (S (initL 0 ps) [])) : RetN Tryz.prog 100 ps ty es zs :=
  retN_run Tryz.func100 rfl (by kernel_rfl) rfl rfl (by decide) (by kernel_rfl) (by kernel_rfl) (by kernel_rfl) (Nat.le_of_ble_eq_true hn) h

/-- (stevedore/table.Table[stevedore/api.Bin]).Put$1 -/
def c148 : C :=
  (.seq (.reg [⟨some 3, .box, [.t 0], none⟩,
  ⟨some 4, .mv, [.c (.p (.v (.bool false)))], none⟩])
 (.seq (.reg [⟨some 5, .fad 0, [.t 1], none⟩,
  ⟨some 6, .load 1 false, [.t 5], none⟩,
  ⟨some 7, .load 8 true, [.t 3], none⟩,
  ⟨some 8, .load 8 true, [.t 2], none⟩,
  ⟨some 9, .callv, [.t 6, .t 7, .t 8], none⟩,
  ⟨some 10, .bin .gtr, [.t 9, .c (.p (.v (.int .i64 0)))], none⟩,
  ⟨some 4, .mv, [.t 10], none⟩])
 .ret))
theorem ret148 {ps : List PV} {p : PV} (hn : Nat.ble ps.length 11 = true) (h : (∀ q ∈ ps, q.bd) → Run Tryz.prog (fun e s' => (∀ id, e ≠ .exit id) ∧ ∃ ns, s'.out [.t 4] = some (p, ns)) [] c148 (S (initL 0 ps) [])) : Ret Tryz.prog 148 ps p :=
  ret_run Tryz.func148 rfl (by kernel_rfl) rfl (by kernel_rfl) (by kernel_rfl) (by kernel_rfl) (by kernel_rfl) (Nat.le_of_ble_eq_true hn) h

/-- (stevedore/table.Table[stevedore/api.Counted]).Put$1 -/
def c96 : C :=
  (.seq (.reg [⟨some 3, .box, [.t 0], none⟩,
  ⟨some 4, .mv, [.c (.p (.v (.bool false)))], none⟩])
 (.seq (.reg [⟨some 5, .fad 0, [.t 1], none⟩,
  ⟨some 6, .load 1 false, [.t 5], none⟩,
  ⟨some 7, .load 5 true, [.t 3], none⟩,
  ⟨some 8, .load 5 true, [.t 2], none⟩,
  ⟨some 9, .callv, [.t 6, .t 7, .t 8], none⟩,
  ⟨some 10, .bin .gtr, [.t 9, .c (.p (.v (.int .i64 0)))], none⟩,
  ⟨some 4, .mv, [.t 10], none⟩])
 .ret))
theorem ret96 {ps : List PV} {p : PV} (hn : Nat.ble ps.length 11 = true) (h : (∀ q ∈ ps, q.bd) → Run Tryz.prog (fun e s' => (∀ id, e ≠ .exit id) ∧ ∃ ns, s'.out [.t 4] = some (p, ns)) [] c96 (S (initL 0 ps) [])) : Ret Tryz.prog 96 ps p :=
  ret_run Tryz.func96 rfl (by kernel_rfl) rfl (by kernel_rfl) (by kernel_rfl) (by kernel_rfl) (by kernel_rfl) (Nat.le_of_ble_eq_true hn) h

/-- (stevedore/table.Table[stevedore/api.Quant]).Put$1 -/
def c132 : C :=
  (.seq (.reg [⟨some 3, .box, [.t 0], none⟩,
  ⟨some 4, .mv, [.c (.p (.v (.bool false)))], none⟩])
 (.seq (.reg [⟨some 5, .fad 0, [.t 1], none⟩,
  ⟨some 6, .load 1 false, [.t 5], none⟩,
  ⟨some 7, .load 6 true, [.t 3], none⟩,
  ⟨some 8, .load 6 true, [.t 2], none⟩,
  ⟨some 9, .callv, [.t 6, .t 7, .t 8], none⟩,
  ⟨some 10, .bin .gtr, [.t 9, .c (.p (.v (.int .i64 0)))], none⟩,
  ⟨some 4, .mv, [.t 10], none⟩])
 .ret))
theorem ret132 {ps : List PV} {p : PV} (hn : Nat.ble ps.length 11 = true) (h : (∀ q ∈ ps, q.bd) → Run Tryz.prog (fun e s' => (∀ id, e ≠ .exit id) ∧ ∃ ns, s'.out [.t 4] = some (p, ns)) [] c132 (S (initL 0 ps) [])) : Ret Tryz.prog 132 ps p :=
  ret_run Tryz.func132 rfl (by kernel_rfl) rfl (by kernel_rfl) (by kernel_rfl) (by kernel_rfl) (by kernel_rfl) (Nat.le_of_ble_eq_true hn) h

/-- (stevedore/table.Table[stevedore/api.Total]).Put$1 -/
def c138 : C :=
  (.seq (.reg [⟨some 3, .box, [.t 0], none⟩,
  ⟨some 4, .mv, [.c (.p (.v (.bool false)))], none⟩])
 (.seq (.reg [⟨some 5, .fad 0, [.t 1], none⟩,
  ⟨some 6, .load 1 false, [.t 5], none⟩,
  ⟨some 7, .load 6 true, [.t 3], none⟩,
  ⟨some 8, .load 6 true, [.t 2], none⟩,
  ⟨some 9, .callv, [.t 6, .t 7, .t 8], none⟩,
  ⟨some 10, .bin .gtr, [.t 9, .c (.p (.v (.int .i64 0)))], none⟩,
  ⟨some 4, .mv, [.t 10], none⟩])
 .ret))
theorem ret138 {ps : List PV} {p : PV} (hn : Nat.ble ps.length 11 = true) (h : (∀ q ∈ ps, q.bd) → Run Tryz.prog (fun e s' => (∀ id, e ≠ .exit id) ∧ ∃ ns, s'.out [.t 4] = some (p, ns)) [] c138 (S (initL 0 ps) [])) : Ret Tryz.prog 138 ps p :=
  ret_run Tryz.func138 rfl (by kernel_rfl) rfl (by kernel_rfl) (by kernel_rfl) (by kernel_rfl) (by kernel_rfl) (Nat.le_of_ble_eq_true hn) h

/-- slices.IndexFunc[[]stevedore/api.Bin,stevedore/api.Bin] -/
def c144 : C :=
  (.seq (.reg [⟨some 4, .mv, [.c (.p (.v (.int .i64 0)))], none⟩])
 (.seq (.seq (.reg [⟨some 6, .mv, [.t 0], none⟩,
  ⟨some 7, .len 0, [.t 6], none⟩,
  ⟨some 8, .mv, [.c (.p (.v (.int .i64 0)))], none⟩])
 (.block 0
 (.loop
 (.seq (.reg [⟨some 9, .bin .lss, [.t 8, .t 7], none⟩])
 (.seq (.cond (.t 9)
 .skip
 (.exit 0))
 (.seq (.block 1
 (.seq (.reg [⟨some 10, .mv, [.t 8], none⟩,
  ⟨some 5, .mv, [.t 10], none⟩])
 (.seq (.reg [⟨some 11, .mv, [.t 1], none⟩,
  ⟨some 12, .mv, [.t 0], none⟩,
  ⟨some 13, .mv, [.t 5], none⟩,
  ⟨some 14, .iad 8, [.t 12, .t 13], none⟩,
  ⟨some 15, .load 8 true, [.t 14], none⟩,
  ⟨some 16, .callv, [.t 11, .t 15], none⟩])
 (.cond (.t 16)
 (.seq (.reg [⟨some 17, .mv, [.t 5], none⟩,
  ⟨some 4, .mv, [.t 17], none⟩])
 .ret)
 .skip))))
 (.reg [⟨some 18, .bin .add, [.t 8, .c (.p (.v (.int .i64 1)))], none⟩,
  ⟨some 8, .mv, [.t 18], none⟩])))))))
 (.seq (.reg [⟨some 4, .mv, [.c (.p (.v (.int .i64 (-1))))], none⟩])
 .ret)))
theorem ret144 {ps : List PV} {p : PV} (hn : Nat.ble ps.length 19 = true) (h : (∀ q ∈ ps, q.bd) → Run Tryz.prog (fun e s' => (∀ id, e ≠ .exit id) ∧ ∃ ns, s'.out [.t 4] = some (p, ns)) [] c144 (S (initL 0 ps) [])) : Ret Tryz.prog 144 ps p :=
  ret_run Tryz.func144 rfl (by kernel_rfl) rfl (by kernel_rfl) (by kernel_rfl) (by kernel_rfl) (by kernel_rfl) (Nat.le_of_ble_eq_true hn) h

/-- (stevedore/table.Table[stevedore/api.Bin]).Find$1 -/
def c145 : C :=
  (.seq (.reg [⟨some 3, .box, [.t 0], none⟩,
  ⟨some 4, .mv, [.c (.p (.v (.bool false)))], none⟩])
 (.seq (.reg [⟨some 5, .fad 0, [.t 1], none⟩,
  ⟨some 6, .load 1 false, [.t 5], none⟩,
  ⟨some 7, .load 8 true, [.t 3], none⟩,
  ⟨some 8, .load 8 true, [.t 2], none⟩,
  ⟨some 9, .callv, [.t 6, .t 7, .t 8], none⟩,
  ⟨some 10, .bin .eql, [.t 9, .c (.p (.v (.int .i64 0)))], none⟩,
  ⟨some 4, .mv, [.t 10], none⟩])
 .ret))
theorem ret145 {ps : List PV} {p : PV} (hn : Nat.ble ps.length 11 = true) (h : (∀ q ∈ ps, q.bd) → Run Tryz.prog (fun e s' => (∀ id, e ≠ .exit id) ∧ ∃ ns, s'.out [.t 4] = some (p, ns)) [] c145 (S (initL 0 ps) [])) : Ret Tryz.prog 145 ps p :=
  ret_run Tryz.func145 rfl (by kernel_rfl) rfl (by kernel_rfl) (by kernel_rfl) (by kernel_rfl) (by kernel_rfl) (Nat.le_of_ble_eq_true hn) h

/-- (stevedore/table.Table[stevedore/api.Bin]).Find -/
def c108 : C :=
  (.seq (.reg [⟨some 3, .box, [.t 0], none⟩,
  ⟨some 5, .box, [.t 2], none⟩,
  ⟨some 6, .mv, [.c (.p (.v (.int .i64 0)))], none⟩,
  ⟨some 7, .mv, [.c (.p (.v (.bool false)))], none⟩])
 (.seq (.seq (.reg [⟨some 9, .mv, [.t 1], none⟩,
  ⟨some 10, .mkf 145, [.t 3, .t 5], none⟩,
  ⟨some 11, .call 144, [.t 9, .t 10], none⟩,
  ⟨some 8, .mv, [.t 11], none⟩])
 (.seq (.reg [⟨some 12, .mv, [.t 8], none⟩,
  ⟨some 13, .bin .geq, [.t 12, .c (.p (.v (.int .i64 0)))], none⟩])
 (.cond (.t 13)
 (.seq (.reg [⟨some 14, .mv, [.t 8], none⟩,
  ⟨some 6, .mv, [.t 14], none⟩,
  ⟨some 7, .mv, [.c (.p (.v (.bool true)))], none⟩])
 .ret)
 .skip)))
 (.seq (.reg [⟨some 6, .mv, [.c (.p (.v (.int .i64 0)))], none⟩,
  ⟨some 7, .mv, [.c (.p (.v (.bool false)))], none⟩])
 .ret)))
theorem ret108 {ps : List PV} {p : PV} (hn : Nat.ble ps.length 15 = true) (h : (∀ q ∈ ps, q.bd) → Run Tryz.prog (fun e s' => (∀ id, e ≠ .exit id) ∧ ∃ ns, s'.out [.t 6, .t 7] = some (p, ns)) [] c108 (S (initL 0 ps) [])) : Ret Tryz.prog 108 ps p :=
  ret_run Tryz.func108 rfl (by kernel_rfl) rfl (by kernel_rfl) (by kernel_rfl) (by kernel_rfl) (by kernel_rfl) (Nat.le_of_ble_eq_true hn) h

/-- slices.IndexFunc[[]stevedore/api.Counted,stevedore/api.Counted] -/
def c93 : C :=
  (.seq (.reg [⟨some 4, .mv, [.c (.p (.v (.int .i64 0)))], none⟩])
 (.seq (.seq (.reg [⟨some 6, .mv, [.t 0], none⟩,
  ⟨some 7, .len 0, [.t 6], none⟩,
  ⟨some 8, .mv, [.c (.p (.v (.int .i64 0)))], none⟩])
 (.block 0
 (.loop
 (.seq (.reg [⟨some 9, .bin .lss, [.t 8, .t 7], none⟩])
 (.seq (.cond (.t 9)
 .skip
 (.exit 0))
 (.seq (.block 1
 (.seq (.reg [⟨some 10, .mv, [.t 8], none⟩,
  ⟨some 5, .mv, [.t 10], none⟩])
 (.seq (.reg [⟨some 11, .mv, [.t 1], none⟩,
  ⟨some 12, .mv, [.t 0], none⟩,
  ⟨some 13, .mv, [.t 5], none⟩,
  ⟨some 14, .iad 5, [.t 12, .t 13], none⟩,
  ⟨some 15, .load 5 true, [.t 14], none⟩,
  ⟨some 16, .callv, [.t 11, .t 15], none⟩])
 (.cond (.t 16)
 (.seq (.reg [⟨some 17, .mv, [.t 5], none⟩,
  ⟨some 4, .mv, [.t 17], none⟩])
 .ret)
 .skip))))
 (.reg [⟨some 18, .bin .add, [.t 8, .c (.p (.v (.int .i64 1)))], none⟩,
  ⟨some 8, .mv, [.t 18], none⟩])))))))
 (.seq (.reg [⟨some 4, .mv, [.c (.p (.v (.int .i64 (-1))))], none⟩])
 .ret)))
theorem ret93 {ps : List PV} {p : PV} (hn : Nat.ble ps.length 19 = true) (h : (∀ q ∈ ps, q.bd) → Run Tryz.prog (fun e s' => (∀ id, e ≠ .exit id) ∧ ∃ ns, s'.out [.t 4] = some (p, ns)) [] c93 (S (initL 0 ps) [])) : Ret Tryz.prog 93 ps p :=
  ret_run Tryz.func93 rfl (by kernel_rfl) rfl (by kernel_rfl) (by kernel_rfl) (by kernel_rfl) (by kernel_rfl) (Nat.le_of_ble_eq_true hn) h

/-- (stevedore/table.Table[stevedore/api.Counted]).Find$1 -/
def c94 : C :=
  (.seq (.reg [⟨some 3, .box, [.t 0], none⟩,
  ⟨some 4, .mv, [.c (.p (.v (.bool false)))], none⟩])
 (.seq (.reg [⟨some 5, .fad 0, [.t 1], none⟩,
  ⟨some 6, .load 1 false, [.t 5], none⟩,
  ⟨some 7, .load 5 true, [.t 3], none⟩,
  ⟨some 8, .load 5 true, [.t 2], none⟩,
  ⟨some 9, .callv, [.t 6, .t 7, .t 8], none⟩,
  ⟨some 10, .bin .eql, [.t 9, .c (.p (.v (.int .i64 0)))], none⟩,
  ⟨some 4, .mv, [.t 10], none⟩])
 .ret))
theorem ret94 {ps : List PV} {p : PV} (hn : Nat.ble ps.length 11 = true) (h : (∀ q ∈ ps, q.bd) → Run Tryz.prog (fun e s' => (∀ id, e ≠ .exit id) ∧ ∃ ns, s'.out [.t 4] = some (p, ns)) [] c94 (S (initL 0 ps) [])) : Ret Tryz.prog 94 ps p :=
  ret_run Tryz.func94 rfl (by kernel_rfl) rfl (by kernel_rfl) (by kernel_rfl) (by kernel_rfl) (by kernel_rfl) (Nat.le_of_ble_eq_true hn) h

/-- (stevedore/table.Table[stevedore/api.Counted]).Find -/
def c63 : C :=
  (.seq (.reg [⟨some 3, .box, [.t 0], none⟩,
  ⟨some 5, .box, [.t 2], none⟩,
  ⟨some 6, .mv, [.c (.p (.v (.int .i64 0)))], none⟩,
  ⟨some 7, .mv, [.c (.p (.v (.bool false)))], none⟩])
 (.seq (.seq (.reg [⟨some 9, .mv, [.t 1], none⟩,
  ⟨some 10, .mkf 94, [.t 3, .t 5], none⟩,
  ⟨some 11, .call 93, [.t 9, .t 10], none⟩,
  ⟨some 8, .mv, [.t 11], none⟩])
 (.seq (.reg [⟨some 12, .mv, [.t 8], none⟩,
  ⟨some 13, .bin .geq, [.t 12, .c (.p (.v (.int .i64 0)))], none⟩])
 (.cond (.t 13)
 (.seq (.reg [⟨some 14, .mv, [.t 8], none⟩,
  ⟨some 6, .mv, [.t 14], none⟩,
  ⟨some 7, .mv, [.c (.p (.v (.bool true)))], none⟩])
 .ret)
 .skip)))
 (.seq (.reg [⟨some 6, .mv, [.c (.p (.v (.int .i64 0)))], none⟩,
  ⟨some 7, .mv, [.c (.p (.v (.bool false)))], none⟩])
 .ret)))
theorem ret63 {ps : List PV} {p : PV} (hn : Nat.ble ps.length 15 = true) (h : (∀ q ∈ ps, q.bd) → Run Tryz.prog (fun e s' => (∀ id, e ≠ .exit id) ∧ ∃ ns, s'.out [.t 6, .t 7] = some (p, ns)) [] c63 (S (initL 0 ps) [])) : Ret Tryz.prog 63 ps p :=
  ret_run Tryz.func63 rfl (by kernel_rfl) rfl (by kernel_rfl) (by kernel_rfl) (by kernel_rfl) (by kernel_rfl) (Nat.le_of_ble_eq_true hn) h

/-- slices.IndexFunc[[]stevedore/api.Quant,stevedore/api.Quant] -/
def c117 : C :=
  (.seq (.reg [⟨some 4, .mv, [.c (.p (.v (.int .i64 0)))], none⟩])
 (.seq (.seq (.reg [⟨some 6, .mv, [.t 0], none⟩,
  ⟨some 7, .len 0, [.t 6], none⟩,
  ⟨some 8, .mv, [.c (.p (.v (.int .i64 0)))], none⟩])
 (.block 0
 (.loop
 (.seq (.reg [⟨some 9, .bin .lss, [.t 8, .t 7], none⟩])
 (.seq (.cond (.t 9)
 .skip
 (.exit 0))
 (.seq (.block 1
 (.seq (.reg [⟨some 10, .mv, [.t 8], none⟩,
  ⟨some 5, .mv, [.t 10], none⟩])
 (.seq (.reg [⟨some 11, .mv, [.t 1], none⟩,
  ⟨some 12, .mv, [.t 0], none⟩,
  ⟨some 13, .mv, [.t 5], none⟩,
  ⟨some 14, .iad 6, [.t 12, .t 13], none⟩,
  ⟨some 15, .load 6 true, [.t 14], none⟩,
  ⟨some 16, .callv, [.t 11, .t 15], none⟩])
 (.cond (.t 16)
 (.seq (.reg [⟨some 17, .mv, [.t 5], none⟩,
  ⟨some 4, .mv, [.t 17], none⟩])
 .ret)
 .skip))))
 (.reg [⟨some 18, .bin .add, [.t 8, .c (.p (.v (.int .i64 1)))], none⟩,
  ⟨some 8, .mv, [.t 18], none⟩])))))))
 (.seq (.reg [⟨some 4, .mv, [.c (.p (.v (.int .i64 (-1))))], none⟩])
 .ret)))
theorem ret117 {ps : List PV} {p : PV} (hn : Nat.ble ps.length 19 = true) (h : (∀ q ∈ ps, q.bd) → Run Tryz.prog (fun e s' => (∀ id, e ≠ .exit id) ∧ ∃ ns, s'.out [.t 4] = some (p, ns)) [] c117 (S (initL 0 ps) [])) : Ret Tryz.prog 117 ps p :=
  ret_run Tryz.func117 rfl (by kernel_rfl) rfl (by kernel_rfl) (by kernel_rfl) (by kernel_rfl) (by kernel_rfl) (Nat.le_of_ble_eq_true hn) h

/-- (stevedore/table.Table[stevedore/api.Quant]).Find$1 -/
def c118 : C :=
  (.seq (.reg [⟨some 3, .box, [.t 0], none⟩,
  ⟨some 4, .mv, [.c (.p (.v (.bool false)))], none⟩])
 (.seq (.reg [⟨some 5, .fad 0, [.t 1], none⟩,
  ⟨some 6, .load 1 false, [.t 5], none⟩,
  ⟨some 7, .load 6 true, [.t 3], none⟩,
  ⟨some 8, .load 6 true, [.t 2], none⟩,
  ⟨some 9, .callv, [.t 6, .t 7, .t 8], none⟩,
  ⟨some 10, .bin .eql, [.t 9, .c (.p (.v (.int .i64 0)))], none⟩,
  ⟨some 4, .mv, [.t 10], none⟩])
 .ret))
theorem ret118 {ps : List PV} {p : PV} (hn : Nat.ble ps.length 11 = true) (h : (∀ q ∈ ps, q.bd) → Run Tryz.prog (fun e s' => (∀ id, e ≠ .exit id) ∧ ∃ ns, s'.out [.t 4] = some (p, ns)) [] c118 (S (initL 0 ps) [])) : Ret Tryz.prog 118 ps p :=
  ret_run Tryz.func118 rfl (by kernel_rfl) rfl (by kernel_rfl) (by kernel_rfl) (by kernel_rfl) (by kernel_rfl) (Nat.le_of_ble_eq_true hn) h

/-- (stevedore/table.Table[stevedore/api.Quant]).Find -/
def c86 : C :=
  (.seq (.reg [⟨some 3, .box, [.t 0], none⟩,
  ⟨some 5, .box, [.t 2], none⟩,
  ⟨some 6, .mv, [.c (.p (.v (.int .i64 0)))], none⟩,
  ⟨some 7, .mv, [.c (.p (.v (.bool false)))], none⟩])
 (.seq (.seq (.reg [⟨some 9, .mv, [.t 1], none⟩,
  ⟨some 10, .mkf 118, [.t 3, .t 5], none⟩,
  ⟨some 11, .call 117, [.t 9, .t 10], none⟩,
  ⟨some 8, .mv, [.t 11], none⟩])
 (.seq (.reg [⟨some 12, .mv, [.t 8], none⟩,
  ⟨some 13, .bin .geq, [.t 12, .c (.p (.v (.int .i64 0)))], none⟩])
 (.cond (.t 13)
 (.seq (.reg [⟨some 14, .mv, [.t 8], none⟩,
  ⟨some 6, .mv, [.t 14], none⟩,
  ⟨some 7, .mv, [.c (.p (.v (.bool true)))], none⟩])
 .ret)
 .skip)))
 (.seq (.reg [⟨some 6, .mv, [.c (.p (.v (.int .i64 0)))], none⟩,
  ⟨some 7, .mv, [.c (.p (.v (.bool false)))], none⟩])
 .ret)))
theorem ret86 {ps : List PV} {p : PV} (hn : Nat.ble ps.length 15 = true) (h : (∀ q ∈ ps, q.bd) → Run Tryz.prog (fun e s' => (∀ id, e ≠ .exit id) ∧ ∃ ns, s'.out [.t 6, .t 7] = some (p, ns)) [] c86 (S (initL 0 ps) [])) : Ret Tryz.prog 86 ps p :=
  ret_run Tryz.func86 rfl (by kernel_rfl) rfl (by kernel_rfl) (by kernel_rfl) (by kernel_rfl) (by kernel_rfl) (Nat.le_of_ble_eq_true hn) h

/-- slices.IndexFunc[[]stevedore/api.Total,stevedore/api.Total] -/
def c135 : C :=
  (.seq (.reg [⟨some 4, .mv, [.c (.p (.v (.int .i64 0)))], none⟩])
 (.seq (.seq (.reg [⟨some 6, .mv, [.t 0], none⟩,
  ⟨some 7, .len 0, [.t 6], none⟩,
  ⟨some 8, .mv, [.c (.p (.v (.int .i64 0)))], none⟩])
 (.block 0
 (.loop
 (.seq (.reg [⟨some 9, .bin .lss, [.t 8, .t 7], none⟩])
 (.seq (.cond (.t 9)
 .skip
 (.exit 0))
 (.seq (.block 1
 (.seq (.reg [⟨some 10, .mv, [.t 8], none⟩,
  ⟨some 5, .mv, [.t 10], none⟩])
 (.seq (.reg [⟨some 11, .mv, [.t 1], none⟩,
  ⟨some 12, .mv, [.t 0], none⟩,
  ⟨some 13, .mv, [.t 5], none⟩,
  ⟨some 14, .iad 6, [.t 12, .t 13], none⟩,
  ⟨some 15, .load 6 true, [.t 14], none⟩,
  ⟨some 16, .callv, [.t 11, .t 15], none⟩])
 (.cond (.t 16)
 (.seq (.reg [⟨some 17, .mv, [.t 5], none⟩,
  ⟨some 4, .mv, [.t 17], none⟩])
 .ret)
 .skip))))
 (.reg [⟨some 18, .bin .add, [.t 8, .c (.p (.v (.int .i64 1)))], none⟩,
  ⟨some 8, .mv, [.t 18], none⟩])))))))
 (.seq (.reg [⟨some 4, .mv, [.c (.p (.v (.int .i64 (-1))))], none⟩])
 .ret)))
theorem ret135 {ps : List PV} {p : PV} (hn : Nat.ble ps.length 19 = true) (h : (∀ q ∈ ps, q.bd) → Run Tryz.prog (fun e s' => (∀ id, e ≠ .exit id) ∧ ∃ ns, s'.out [.t 4] = some (p, ns)) [] c135 (S (initL 0 ps) [])) : Ret Tryz.prog 135 ps p :=
  ret_run Tryz.func135 rfl (by kernel_rfl) rfl (by kernel_rfl) (by kernel_rfl) (by kernel_rfl) (by kernel_rfl) (Nat.le_of_ble_eq_true hn) h

/-- (stevedore/table.Table[stevedore/api.Total]).Find$1 -/
def c136 : C :=
  (.seq (.reg [⟨some 3, .box, [.t 0], none⟩,
  ⟨some 4, .mv, [.c (.p (.v (.bool false)))], none⟩])
 (.seq (.reg [⟨some 5, .fad 0, [.t 1], none⟩,
  ⟨some 6, .load 1 false, [.t 5], none⟩,
  ⟨some 7, .load 6 true, [.t 3], none⟩,
  ⟨some 8, .load 6 true, [.t 2], none⟩,
  ⟨some 9, .callv, [.t 6, .t 7, .t 8], none⟩,
  ⟨some 10, .bin .eql, [.t 9, .c (.p (.v (.int .i64 0)))], none⟩,
  ⟨some 4, .mv, [.t 10], none⟩])
 .ret))
theorem ret136 {ps : List PV} {p : PV} (hn : Nat.ble ps.length 11 = true) (h : (∀ q ∈ ps, q.bd) → Run Tryz.prog (fun e s' => (∀ id, e ≠ .exit id) ∧ ∃ ns, s'.out [.t 4] = some (p, ns)) [] c136 (S (initL 0 ps) [])) : Ret Tryz.prog 136 ps p :=
  ret_run Tryz.func136 rfl (by kernel_rfl) rfl (by kernel_rfl) (by kernel_rfl) (by kernel_rfl) (by kernel_rfl) (Nat.le_of_ble_eq_true hn) h

/-- (stevedore/table.Table[stevedore/api.Total]).Find -/
def c103 : C :=
  (.seq (.reg [⟨some 3, .box, [.t 0], none⟩,
  ⟨some 5, .box, [.t 2], none⟩,
  ⟨some 6, .mv, [.c (.p (.v (.int .i64 0)))], none⟩,
  ⟨some 7, .mv, [.c (.p (.v (.bool false)))], none⟩])
 (.seq (.seq (.reg [⟨some 9, .mv, [.t 1], none⟩,
  ⟨some 10, .mkf 136, [.t 3, .t 5], none⟩,
  ⟨some 11, .call 135, [.t 9, .t 10], none⟩,
  ⟨some 8, .mv, [.t 11], none⟩])
 (.seq (.reg [⟨some 12, .mv, [.t 8], none⟩,
  ⟨some 13, .bin .geq, [.t 12, .c (.p (.v (.int .i64 0)))], none⟩])
 (.cond (.t 13)
 (.seq (.reg [⟨some 14, .mv, [.t 8], none⟩,
  ⟨some 6, .mv, [.t 14], none⟩,
  ⟨some 7, .mv, [.c (.p (.v (.bool true)))], none⟩])
 .ret)
 .skip)))
 (.seq (.reg [⟨some 6, .mv, [.c (.p (.v (.int .i64 0)))], none⟩,
  ⟨some 7, .mv, [.c (.p (.v (.bool false)))], none⟩])
 .ret)))
theorem ret103 {ps : List PV} {p : PV} (hn : Nat.ble ps.length 15 = true) (h : (∀ q ∈ ps, q.bd) → Run Tryz.prog (fun e s' => (∀ id, e ≠ .exit id) ∧ ∃ ns, s'.out [.t 6, .t 7] = some (p, ns)) [] c103 (S (initL 0 ps) [])) : Ret Tryz.prog 103 ps p :=
  ret_run Tryz.func103 rfl (by kernel_rfl) rfl (by kernel_rfl) (by kernel_rfl) (by kernel_rfl) (by kernel_rfl) (Nat.le_of_ble_eq_true hn) h

/-- stevedore/stevedorerows.Texts -/
def c146 : C :=
  (.seq (.reg [⟨some 4, .mv, [.c (.p (.v (.int .i64 0)))], none⟩])
 (.seq (.seq (.reg [⟨some 5, .mv, [.c (.p (.v (.int .i64 0)))], none⟩])
 (.block 0
 (.loop
 (.seq (.seq (.reg [⟨some 6, .mv, [.t 5], none⟩,
  ⟨some 7, .mv, [.t 0], none⟩,
  ⟨some 8, .len 0, [.t 7], none⟩,
  ⟨some 9, .bin .lss, [.t 6, .t 8], none⟩])
 (.cond (.t 9)
 .skip
 (.exit 0)))
 (.seq (.block 1
 (.seq (.seq (.regd [⟨some 12, .mv, [.t 0], none⟩,
  ⟨some 13, .mv, [.t 5], none⟩,
  ⟨some 14, .iad 1, [.t 12, .t 13], none⟩,
  ⟨some 15, .load 1 false, [.t 14], none⟩,
  ⟨some 16, .mv, [.t 1], none⟩,
  ⟨some 17, .mv, [.t 5], none⟩,
  ⟨some 18, .iad 1, [.t 16, .t 17], none⟩,
  ⟨some 19, .load 1 false, [.t 18], none⟩,
  ⟨some 20, .bin .lss, [.t 15, .t 19], none⟩])
 (.cond (.t 20)
 (.seq (.reg [⟨some 4, .mv, [.c (.p (.v (.int .i64 (-1))))], none⟩])
 .ret)
 .skip))
 (.seq (.regd [⟨some 21, .mv, [.t 0], none⟩,
  ⟨some 22, .mv, [.t 5], none⟩,
  ⟨some 23, .iad 1, [.t 21, .t 22], none⟩,
  ⟨some 24, .load 1 false, [.t 23], none⟩,
  ⟨some 25, .mv, [.t 1], none⟩,
  ⟨some 26, .mv, [.t 5], none⟩,
  ⟨some 27, .iad 1, [.t 25, .t 26], none⟩,
  ⟨some 28, .load 1 false, [.t 27], none⟩,
  ⟨some 29, .bin .gtr, [.t 24, .t 28], none⟩])
 (.cond (.t 29)
 (.seq (.reg [⟨some 4, .mv, [.c (.p (.v (.int .i64 1)))], none⟩])
 .ret)
 .skip))))
 (.reg [⟨some 10, .mv, [.t 5], none⟩,
  ⟨some 11, .bin .add, [.t 10, .c (.p (.v (.int .i64 1)))], none⟩,
  ⟨some 5, .mv, [.t 11], none⟩]))))))
 (.seq (.reg [⟨some 4, .mv, [.c (.p (.v (.int .i64 0)))], none⟩])
 .ret)))
theorem ret146 {ps : List PV} {p : PV} (hn : Nat.ble ps.length 30 = true) (h : (∀ q ∈ ps, q.bd) → Run Tryz.prog (fun e s' => (∀ id, e ≠ .exit id) ∧ ∃ ns, s'.out [.t 4] = some (p, ns)) [] c146 (S (initL 0 ps) [])) : Ret Tryz.prog 146 ps p :=
  ret_run Tryz.func146 rfl (by kernel_rfl) rfl (by kernel_rfl) (by kernel_rfl) (by kernel_rfl) (by kernel_rfl) (Nat.le_of_ble_eq_true hn) h

/-- stevedore/stevedorerows.bins -/
def c121 : C :=
  (.seq (.reg [⟨some 2, .box, [.t 0], none⟩,
  ⟨some 3, .box, [.t 1], none⟩,
  ⟨some 4, .mv, [.c (.p (.v (.int .i64 0)))], none⟩])
 (.seq (.reg [⟨some 5, .fad 0, [.t 2], none⟩,
  ⟨some 6, .load 1 false, [.t 5], none⟩,
  ⟨some 7, .bsl 9 1 1 [.v (.string ⟨#[]⟩)] [0], [.t 6], none⟩,
  ⟨some 8, .fad 0, [.t 3], none⟩,
  ⟨some 9, .load 1 false, [.t 8], none⟩,
  ⟨some 10, .bsl 9 1 1 [.v (.string ⟨#[]⟩)] [0], [.t 9], none⟩,
  ⟨some 11, .call 146, [.t 7, .t 10], none⟩,
  ⟨some 4, .mv, [.t 11], none⟩])
 .ret))
theorem ret121 {ps : List PV} {p : PV} (hn : Nat.ble ps.length 12 = true) (h : (∀ q ∈ ps, q.bd) → Run Tryz.prog (fun e s' => (∀ id, e ≠ .exit id) ∧ ∃ ns, s'.out [.t 4] = some (p, ns)) [] c121 (S (initL 0 ps) [])) : Ret Tryz.prog 121 ps p :=
  ret_run Tryz.func121 rfl (by kernel_rfl) rfl (by kernel_rfl) (by kernel_rfl) (by kernel_rfl) (by kernel_rfl) (Nat.le_of_ble_eq_true hn) h

/-- stevedore/stevedorerows.quants -/
def c110 : C :=
  (.seq (.reg [⟨some 2, .box, [.t 0], none⟩,
  ⟨some 3, .box, [.t 1], none⟩,
  ⟨some 4, .mv, [.c (.p (.v (.int .i64 0)))], none⟩])
 (.seq (.reg [⟨some 5, .fad 0, [.t 2], none⟩,
  ⟨some 6, .load 4 true, [.t 5], none⟩,
  ⟨some 7, .fad 0, [.t 3], none⟩,
  ⟨some 8, .load 4 true, [.t 7], none⟩,
  ⟨some 9, .call 129, [.t 6, .t 8], none⟩,
  ⟨some 4, .mv, [.t 9], none⟩])
 .ret))
theorem ret110 {ps : List PV} {p : PV} (hn : Nat.ble ps.length 10 = true) (h : (∀ q ∈ ps, q.bd) → Run Tryz.prog (fun e s' => (∀ id, e ≠ .exit id) ∧ ∃ ns, s'.out [.t 4] = some (p, ns)) [] c110 (S (initL 0 ps) [])) : Ret Tryz.prog 110 ps p :=
  ret_run Tryz.func110 rfl (by kernel_rfl) rfl (by kernel_rfl) (by kernel_rfl) (by kernel_rfl) (by kernel_rfl) (Nat.le_of_ble_eq_true hn) h

/-- stevedore/stevedorerows.counted -/
def c99 : C :=
  (.seq (.reg [⟨some 2, .box, [.t 0], none⟩,
  ⟨some 3, .box, [.t 1], none⟩,
  ⟨some 4, .mv, [.c (.p (.v (.int .i64 0)))], none⟩])
 (.seq (.reg [⟨some 5, .fad 0, [.t 2], none⟩,
  ⟨some 6, .load 4 true, [.t 5], none⟩,
  ⟨some 7, .fad 0, [.t 3], none⟩,
  ⟨some 8, .load 4 true, [.t 7], none⟩,
  ⟨some 9, .call 129, [.t 6, .t 8], none⟩,
  ⟨some 4, .mv, [.t 9], none⟩])
 .ret))
theorem ret99 {ps : List PV} {p : PV} (hn : Nat.ble ps.length 10 = true) (h : (∀ q ∈ ps, q.bd) → Run Tryz.prog (fun e s' => (∀ id, e ≠ .exit id) ∧ ∃ ns, s'.out [.t 4] = some (p, ns)) [] c99 (S (initL 0 ps) [])) : Ret Tryz.prog 99 ps p :=
  ret_run Tryz.func99 rfl (by kernel_rfl) rfl (by kernel_rfl) (by kernel_rfl) (by kernel_rfl) (by kernel_rfl) (Nat.le_of_ble_eq_true hn) h

/-- stevedore/stevedorerows.totals -/
def c113 : C :=
  (.seq (.reg [⟨some 2, .box, [.t 0], none⟩,
  ⟨some 3, .box, [.t 1], none⟩,
  ⟨some 4, .mv, [.c (.p (.v (.int .i64 0)))], none⟩])
 (.seq (.reg [⟨some 5, .fad 0, [.t 2], none⟩,
  ⟨some 6, .load 1 false, [.t 5], none⟩,
  ⟨some 7, .fad 1, [.t 2], none⟩,
  ⟨some 8, .load 1 false, [.t 7], none⟩,
  ⟨some 9, .bsl 9 1 2 [.v (.string ⟨#[]⟩)] [0, 1], [.t 6, .t 8], none⟩,
  ⟨some 10, .fad 0, [.t 3], none⟩,
  ⟨some 11, .load 1 false, [.t 10], none⟩,
  ⟨some 12, .fad 1, [.t 3], none⟩,
  ⟨some 13, .load 1 false, [.t 12], none⟩,
  ⟨some 14, .bsl 9 1 2 [.v (.string ⟨#[]⟩)] [0, 1], [.t 11, .t 13], none⟩,
  ⟨some 15, .call 146, [.t 9, .t 14], none⟩,
  ⟨some 4, .mv, [.t 15], none⟩])
 .ret))
theorem ret113 {ps : List PV} {p : PV} (hn : Nat.ble ps.length 16 = true) (h : (∀ q ∈ ps, q.bd) → Run Tryz.prog (fun e s' => (∀ id, e ≠ .exit id) ∧ ∃ ns, s'.out [.t 4] = some (p, ns)) [] c113 (S (initL 0 ps) [])) : Ret Tryz.prog 113 ps p :=
  ret_run Tryz.func113 rfl (by kernel_rfl) rfl (by kernel_rfl) (by kernel_rfl) (by kernel_rfl) (by kernel_rfl) (Nat.le_of_ble_eq_true hn) h

/-- stevedore/stevedorerows.Keys -/
def c129 : C :=
  (.seq (.reg [⟨some 2, .box, [.t 0], none⟩,
  ⟨some 3, .box, [.t 1], none⟩,
  ⟨some 4, .mv, [.c (.p (.v (.int .i64 0)))], none⟩])
 (.seq (.reg [⟨some 6, .fad 0, [.t 2], none⟩,
  ⟨some 7, .load 1 false, [.t 6], none⟩,
  ⟨some 8, .fad 1, [.t 2], none⟩,
  ⟨some 9, .load 1 false, [.t 8], none⟩,
  ⟨some 10, .fad 2, [.t 2], none⟩,
  ⟨some 11, .load 1 false, [.t 10], none⟩,
  ⟨some 12, .bsl 9 1 3 [.v (.string ⟨#[]⟩)] [0, 1, 2], [.t 7, .t 9, .t 11], none⟩,
  ⟨some 13, .fad 0, [.t 3], none⟩,
  ⟨some 14, .load 1 false, [.t 13], none⟩,
  ⟨some 15, .fad 1, [.t 3], none⟩,
  ⟨some 16, .load 1 false, [.t 15], none⟩,
  ⟨some 17, .fad 2, [.t 3], none⟩,
  ⟨some 18, .load 1 false, [.t 17], none⟩,
  ⟨some 19, .bsl 9 1 3 [.v (.string ⟨#[]⟩)] [0, 1, 2], [.t 14, .t 16, .t 18], none⟩,
  ⟨some 20, .call 146, [.t 12, .t 19], none⟩,
  ⟨some 5, .mv, [.t 20], none⟩])
 (.seq (.seq (.reg [⟨some 21, .mv, [.t 5], none⟩,
  ⟨some 22, .bin .neq, [.t 21, .c (.p (.v (.int .i64 0)))], none⟩])
 (.cond (.t 22)
 (.seq (.reg [⟨some 23, .mv, [.t 5], none⟩,
  ⟨some 4, .mv, [.t 23], none⟩])
 .ret)
 .skip))
 (.seq (.seq (.reg [⟨some 24, .fad 3, [.t 2], none⟩,
  ⟨some 25, .load 1 false, [.t 24], none⟩,
  ⟨some 26, .fad 3, [.t 3], none⟩,
  ⟨some 27, .load 1 false, [.t 26], none⟩,
  ⟨some 28, .bin .lss, [.t 25, .t 27], none⟩])
 (.cond (.t 28)
 (.seq (.reg [⟨some 4, .mv, [.c (.p (.v (.int .i64 (-1))))], none⟩])
 .ret)
 .skip))
 (.seq (.seq (.reg [⟨some 29, .fad 3, [.t 2], none⟩,
  ⟨some 30, .load 1 false, [.t 29], none⟩,
  ⟨some 31, .fad 3, [.t 3], none⟩,
  ⟨some 32, .load 1 false, [.t 31], none⟩,
  ⟨some 33, .bin .gtr, [.t 30, .t 32], none⟩])
 (.cond (.t 33)
 (.seq (.reg [⟨some 4, .mv, [.c (.p (.v (.int .i64 1)))], none⟩])
 .ret)
 .skip))
 (.seq (.reg [⟨some 4, .mv, [.c (.p (.v (.int .i64 0)))], none⟩])
 .ret))))))
theorem ret129 {ps : List PV} {p : PV} (hn : Nat.ble ps.length 34 = true) (h : (∀ q ∈ ps, q.bd) → Run Tryz.prog (fun e s' => (∀ id, e ≠ .exit id) ∧ ∃ ns, s'.out [.t 4] = some (p, ns)) [] c129 (S (initL 0 ps) [])) : Ret Tryz.prog 129 ps p :=
  ret_run Tryz.func129 rfl (by kernel_rfl) rfl (by kernel_rfl) (by kernel_rfl) (by kernel_rfl) (by kernel_rfl) (Nat.le_of_ble_eq_true hn) h

/-- stevedore/rows.Bins$1 -/
def c143 : C :=
  (.seq (.reg [⟨some 2, .box, [.t 0], none⟩,
  ⟨some 3, .box, [.t 1], none⟩,
  ⟨some 4, .mv, [.c (.p (.v (.int .i64 0)))], none⟩])
 (.seq (.reg [⟨some 5, .fad 0, [.t 2], none⟩,
  ⟨some 6, .load 1 false, [.t 5], none⟩,
  ⟨some 7, .fad 0, [.t 3], none⟩,
  ⟨some 8, .load 1 false, [.t 7], none⟩,
  ⟨some 9, .call 125, [.t 6, .t 8], none⟩,
  ⟨some 4, .mv, [.t 9], none⟩])
 .ret))
theorem ret143 {ps : List PV} {p : PV} (hn : Nat.ble ps.length 10 = true) (h : (∀ q ∈ ps, q.bd) → Run Tryz.prog (fun e s' => (∀ id, e ≠ .exit id) ∧ ∃ ns, s'.out [.t 4] = some (p, ns)) [] c143 (S (initL 0 ps) [])) : Ret Tryz.prog 143 ps p :=
  ret_run Tryz.func143 rfl (by kernel_rfl) rfl (by kernel_rfl) (by kernel_rfl) (by kernel_rfl) (by kernel_rfl) (Nat.le_of_ble_eq_true hn) h

/-- stevedore/rows.Quants$1 -/
def c116 : C :=
  (.seq (.reg [⟨some 2, .box, [.t 0], none⟩,
  ⟨some 3, .box, [.t 1], none⟩,
  ⟨some 4, .mv, [.c (.p (.v (.int .i64 0)))], none⟩])
 (.seq (.reg [⟨some 5, .fad 0, [.t 2], none⟩,
  ⟨some 6, .load 4 true, [.t 5], none⟩,
  ⟨some 7, .fad 0, [.t 3], none⟩,
  ⟨some 8, .load 4 true, [.t 7], none⟩,
  ⟨some 9, .call 92, [.t 6, .t 8], none⟩,
  ⟨some 4, .mv, [.t 9], none⟩])
 .ret))
theorem ret116 {ps : List PV} {p : PV} (hn : Nat.ble ps.length 10 = true) (h : (∀ q ∈ ps, q.bd) → Run Tryz.prog (fun e s' => (∀ id, e ≠ .exit id) ∧ ∃ ns, s'.out [.t 4] = some (p, ns)) [] c116 (S (initL 0 ps) [])) : Ret Tryz.prog 116 ps p :=
  ret_run Tryz.func116 rfl (by kernel_rfl) rfl (by kernel_rfl) (by kernel_rfl) (by kernel_rfl) (by kernel_rfl) (Nat.le_of_ble_eq_true hn) h

/-- stevedore/rows.Counted$1 -/
def c91 : C :=
  (.seq (.reg [⟨some 2, .box, [.t 0], none⟩,
  ⟨some 3, .box, [.t 1], none⟩,
  ⟨some 4, .mv, [.c (.p (.v (.int .i64 0)))], none⟩])
 (.seq (.reg [⟨some 5, .fad 0, [.t 2], none⟩,
  ⟨some 6, .load 4 true, [.t 5], none⟩,
  ⟨some 7, .fad 0, [.t 3], none⟩,
  ⟨some 8, .load 4 true, [.t 7], none⟩,
  ⟨some 9, .call 92, [.t 6, .t 8], none⟩,
  ⟨some 4, .mv, [.t 9], none⟩])
 .ret))
theorem ret91 {ps : List PV} {p : PV} (hn : Nat.ble ps.length 10 = true) (h : (∀ q ∈ ps, q.bd) → Run Tryz.prog (fun e s' => (∀ id, e ≠ .exit id) ∧ ∃ ns, s'.out [.t 4] = some (p, ns)) [] c91 (S (initL 0 ps) [])) : Ret Tryz.prog 91 ps p :=
  ret_run Tryz.func91 rfl (by kernel_rfl) rfl (by kernel_rfl) (by kernel_rfl) (by kernel_rfl) (by kernel_rfl) (Nat.le_of_ble_eq_true hn) h

/-- stevedore/rows.Totals$1 -/
def c134 : C :=
  (.seq (.reg [⟨some 2, .box, [.t 0], none⟩,
  ⟨some 3, .box, [.t 1], none⟩,
  ⟨some 4, .mv, [.c (.p (.v (.int .i64 0)))], none⟩])
 (.seq (.regd [⟨some 5, .fad 0, [.t 2], none⟩,
  ⟨some 6, .load 1 false, [.t 5], none⟩,
  ⟨some 7, .fad 0, [.t 3], none⟩,
  ⟨some 8, .load 1 false, [.t 7], none⟩,
  ⟨some 9, .call 125, [.t 6, .t 8], none⟩,
  ⟨some 10, .fad 1, [.t 2], none⟩,
  ⟨some 11, .load 1 false, [.t 10], none⟩,
  ⟨some 12, .fad 1, [.t 3], none⟩,
  ⟨some 13, .load 1 false, [.t 12], none⟩,
  ⟨some 14, .call 125, [.t 11, .t 13], none⟩,
  ⟨some 15, .bsl 3 1 2 [.v (.int .i64 0)] [0, 1], [.t 9, .t 14], none⟩,
  ⟨some 16, .call 124, [.t 15], none⟩,
  ⟨some 4, .mv, [.t 16], none⟩])
 .ret))
theorem ret134 {ps : List PV} {p : PV} (hn : Nat.ble ps.length 17 = true) (h : (∀ q ∈ ps, q.bd) → Run Tryz.prog (fun e s' => (∀ id, e ≠ .exit id) ∧ ∃ ns, s'.out [.t 4] = some (p, ns)) [] c134 (S (initL 0 ps) [])) : Ret Tryz.prog 134 ps p :=
  ret_run Tryz.func134 rfl (by kernel_rfl) rfl (by kernel_rfl) (by kernel_rfl) (by kernel_rfl) (by kernel_rfl) (Nat.le_of_ble_eq_true hn) h

/-- stevedore/rows.Bins -/
def c107 : C :=
  (.seq (.reg [⟨some 0, .alloc [.v (.nilFunc)], [], none⟩])
 (.seq (.reg [⟨some 1, .build [.v (.nilFunc)] [(0, 1)], [.c (.p (.clo 143 []))], none⟩,
  ⟨none, .store 1, [.t 0, .t 1], none⟩])
 .ret))
theorem ret107 {ps : List PV} {p : PV} (hn : Nat.ble ps.length 2 = true) (h : (∀ q ∈ ps, q.bd) → Run Tryz.prog (fun e s' => (∀ id, e ≠ .exit id) ∧ ∃ ns, s'.out [.c 0 1 true] = some (p, ns)) [] c107 (S (initL 0 ps) [])) : Ret Tryz.prog 107 ps p :=
  ret_run Tryz.func107 rfl (by kernel_rfl) rfl (by kernel_rfl) (by kernel_rfl) (by kernel_rfl) (by kernel_rfl) (Nat.le_of_ble_eq_true hn) h

/-- stevedore/rows.Quants -/
def c85 : C :=
  (.seq (.reg [⟨some 0, .alloc [.v (.nilFunc)], [], none⟩])
 (.seq (.reg [⟨some 1, .build [.v (.nilFunc)] [(0, 1)], [.c (.p (.clo 116 []))], none⟩,
  ⟨none, .store 1, [.t 0, .t 1], none⟩])
 .ret))
theorem ret85 {ps : List PV} {p : PV} (hn : Nat.ble ps.length 2 = true) (h : (∀ q ∈ ps, q.bd) → Run Tryz.prog (fun e s' => (∀ id, e ≠ .exit id) ∧ ∃ ns, s'.out [.c 0 1 true] = some (p, ns)) [] c85 (S (initL 0 ps) [])) : Ret Tryz.prog 85 ps p :=
  ret_run Tryz.func85 rfl (by kernel_rfl) rfl (by kernel_rfl) (by kernel_rfl) (by kernel_rfl) (by kernel_rfl) (Nat.le_of_ble_eq_true hn) h

/-- stevedore/rows.Counted -/
def c62 : C :=
  (.seq (.reg [⟨some 0, .alloc [.v (.nilFunc)], [], none⟩])
 (.seq (.reg [⟨some 1, .build [.v (.nilFunc)] [(0, 1)], [.c (.p (.clo 91 []))], none⟩,
  ⟨none, .store 1, [.t 0, .t 1], none⟩])
 .ret))
theorem ret62 {ps : List PV} {p : PV} (hn : Nat.ble ps.length 2 = true) (h : (∀ q ∈ ps, q.bd) → Run Tryz.prog (fun e s' => (∀ id, e ≠ .exit id) ∧ ∃ ns, s'.out [.c 0 1 true] = some (p, ns)) [] c62 (S (initL 0 ps) [])) : Ret Tryz.prog 62 ps p :=
  ret_run Tryz.func62 rfl (by kernel_rfl) rfl (by kernel_rfl) (by kernel_rfl) (by kernel_rfl) (by kernel_rfl) (Nat.le_of_ble_eq_true hn) h

/-- stevedore/rows.Totals -/
def c102 : C :=
  (.seq (.reg [⟨some 0, .alloc [.v (.nilFunc)], [], none⟩])
 (.seq (.reg [⟨some 1, .build [.v (.nilFunc)] [(0, 1)], [.c (.p (.clo 134 []))], none⟩,
  ⟨none, .store 1, [.t 0, .t 1], none⟩])
 .ret))
theorem ret102 {ps : List PV} {p : PV} (hn : Nat.ble ps.length 2 = true) (h : (∀ q ∈ ps, q.bd) → Run Tryz.prog (fun e s' => (∀ id, e ≠ .exit id) ∧ ∃ ns, s'.out [.c 0 1 true] = some (p, ns)) [] c102 (S (initL 0 ps) [])) : Ret Tryz.prog 102 ps p :=
  ret_run Tryz.func102 rfl (by kernel_rfl) rfl (by kernel_rfl) (by kernel_rfl) (by kernel_rfl) (by kernel_rfl) (Nat.le_of_ble_eq_true hn) h

/-- stevedore/rows.keys -/
def c92 : C :=
  (.seq (.reg [⟨some 2, .box, [.t 0], none⟩,
  ⟨some 3, .box, [.t 1], none⟩,
  ⟨some 4, .mv, [.c (.p (.v (.int .i64 0)))], none⟩])
 (.seq (.regd [⟨some 5, .fad 0, [.t 2], none⟩,
  ⟨some 6, .load 1 false, [.t 5], none⟩,
  ⟨some 7, .fad 0, [.t 3], none⟩,
  ⟨some 8, .load 1 false, [.t 7], none⟩,
  ⟨some 9, .call 125, [.t 6, .t 8], none⟩,
  ⟨some 10, .fad 1, [.t 2], none⟩,
  ⟨some 11, .load 1 false, [.t 10], none⟩,
  ⟨some 12, .fad 1, [.t 3], none⟩,
  ⟨some 13, .load 1 false, [.t 12], none⟩,
  ⟨some 14, .call 125, [.t 11, .t 13], none⟩,
  ⟨some 15, .fad 2, [.t 2], none⟩,
  ⟨some 16, .load 1 false, [.t 15], none⟩,
  ⟨some 17, .fad 2, [.t 3], none⟩,
  ⟨some 18, .load 1 false, [.t 17], none⟩,
  ⟨some 19, .call 125, [.t 16, .t 18], none⟩,
  ⟨some 20, .fad 3, [.t 2], none⟩,
  ⟨some 21, .load 1 false, [.t 20], none⟩,
  ⟨some 22, .fad 3, [.t 3], none⟩,
  ⟨some 23, .load 1 false, [.t 22], none⟩,
  ⟨some 24, .call 126, [.t 21, .t 23], none⟩,
  ⟨some 25, .bsl 3 1 4 [.v (.int .i64 0)] [0, 1, 2, 3], [.t 9, .t 14, .t 19, .t 24], none⟩,
  ⟨some 26, .call 124, [.t 25], none⟩,
  ⟨some 4, .mv, [.t 26], none⟩])
 .ret))
theorem ret92 {ps : List PV} {p : PV} (hn : Nat.ble ps.length 27 = true) (h : (∀ q ∈ ps, q.bd) → Run Tryz.prog (fun e s' => (∀ id, e ≠ .exit id) ∧ ∃ ns, s'.out [.t 4] = some (p, ns)) [] c92 (S (initL 0 ps) [])) : Ret Tryz.prog 92 ps p :=
  ret_run Tryz.func92 rfl (by kernel_rfl) rfl (by kernel_rfl) (by kernel_rfl) (by kernel_rfl) (by kernel_rfl) (Nat.le_of_ble_eq_true hn) h

/-- cmp.Compare[int] -/
def c126 : C :=
  (.seq (.reg [⟨some 4, .mv, [.c (.p (.v (.int .i64 0)))], none⟩])
 (.seq (.reg [⟨some 7, .mv, [.t 0], none⟩,
  ⟨some 8, .call 154, [.t 7], none⟩,
  ⟨some 5, .mv, [.t 8], none⟩])
 (.seq (.reg [⟨some 9, .mv, [.t 1], none⟩,
  ⟨some 10, .call 154, [.t 9], none⟩,
  ⟨some 6, .mv, [.t 10], none⟩])
 (.seq (.seq (.reg [⟨some 11, .mv, [.t 5], none⟩])
 (.cond (.t 11)
 (.seq (.seq (.reg [⟨some 12, .mv, [.t 6], none⟩])
 (.cond (.t 12)
 (.seq (.reg [⟨some 4, .mv, [.c (.p (.v (.int .i64 0)))], none⟩])
 .ret)
 .skip))
 (.seq (.reg [⟨some 4, .mv, [.c (.p (.v (.int .i64 (-1))))], none⟩])
 .ret))
 .skip))
 (.seq (.seq (.reg [⟨some 13, .mv, [.t 6], none⟩])
 (.cond (.t 13)
 (.seq (.reg [⟨some 4, .mv, [.c (.p (.v (.int .i64 1)))], none⟩])
 .ret)
 .skip))
 (.seq (.seq (.reg [⟨some 14, .mv, [.t 0], none⟩,
  ⟨some 15, .mv, [.t 1], none⟩,
  ⟨some 16, .bin .lss, [.t 14, .t 15], none⟩])
 (.cond (.t 16)
 (.seq (.reg [⟨some 4, .mv, [.c (.p (.v (.int .i64 (-1))))], none⟩])
 .ret)
 .skip))
 (.seq (.seq (.reg [⟨some 17, .mv, [.t 0], none⟩,
  ⟨some 18, .mv, [.t 1], none⟩,
  ⟨some 19, .bin .gtr, [.t 17, .t 18], none⟩])
 (.cond (.t 19)
 (.seq (.reg [⟨some 4, .mv, [.c (.p (.v (.int .i64 1)))], none⟩])
 .ret)
 .skip))
 (.seq (.reg [⟨some 4, .mv, [.c (.p (.v (.int .i64 0)))], none⟩])
 .ret))))))))
theorem ret126 {ps : List PV} {p : PV} (hn : Nat.ble ps.length 20 = true) (h : (∀ q ∈ ps, q.bd) → Run Tryz.prog (fun e s' => (∀ id, e ≠ .exit id) ∧ ∃ ns, s'.out [.t 4] = some (p, ns)) [] c126 (S (initL 0 ps) [])) : Ret Tryz.prog 126 ps p :=
  ret_run Tryz.func126 rfl (by kernel_rfl) rfl (by kernel_rfl) (by kernel_rfl) (by kernel_rfl) (by kernel_rfl) (Nat.le_of_ble_eq_true hn) h

/-- cmp.isNaN[int] -/
def c154 : C :=
  (.seq (.reg [⟨some 2, .mv, [.c (.p (.v (.bool false)))], none⟩])
 (.seq (.reg [⟨some 3, .mv, [.t 0], none⟩,
  ⟨some 4, .mv, [.t 0], none⟩,
  ⟨some 5, .bin .neq, [.t 3, .t 4], none⟩,
  ⟨some 2, .mv, [.t 5], none⟩])
 .ret))
theorem ret154 {ps : List PV} {p : PV} (hn : Nat.ble ps.length 6 = true) (h : (∀ q ∈ ps, q.bd) → Run Tryz.prog (fun e s' => (∀ id, e ≠ .exit id) ∧ ∃ ns, s'.out [.t 2] = some (p, ns)) [] c154 (S (initL 0 ps) [])) : Ret Tryz.prog 154 ps p :=
  ret_run Tryz.func154 rfl (by kernel_rfl) rfl (by kernel_rfl) (by kernel_rfl) (by kernel_rfl) (by kernel_rfl) (Nat.le_of_ble_eq_true hn) h

/-- stevedore/stevedorerows.put[stevedore/api.Bin] -/
def c120 : C :=
  (.seq (.reg [⟨some 4, .box, [.t 1], none⟩,
  ⟨some 6, .mv, [.c .nil], none⟩])
 (.seq (.reg [⟨some 7, .mv, [.c .nil], none⟩])
 (.seq (.seq (.reg [⟨some 8, .mv, [.c (.p (.v (.int .i64 0)))], none⟩])
 (.block 0
 (.loop
 (.seq (.seq (.reg [⟨some 11, .mv, [.t 8], none⟩,
  ⟨some 12, .mv, [.t 0], none⟩,
  ⟨some 13, .len 0, [.t 12], none⟩,
  ⟨some 14, .bin .lss, [.t 11, .t 13], none⟩])
 (.cond (.t 14)
 .skip
 (.exit 0)))
 (.seq (.block 1
 (.seq (.regd [⟨some 17, .mv, [.t 2], none⟩,
  ⟨some 18, .mv, [.t 0], none⟩,
  ⟨some 19, .mv, [.t 8], none⟩,
  ⟨some 20, .iad 8, [.t 18, .t 19], none⟩,
  ⟨some 21, .load 8 true, [.t 20], none⟩,
  ⟨some 22, .load 8 true, [.t 4], none⟩,
  ⟨some 23, .callv, [.t 17, .t 21, .t 22], none⟩,
  ⟨some 24, .bin .eql, [.t 23, .c (.p (.v (.int .i64 0)))], none⟩])
 (.cond (.t 24)
 (.seq (.reg [⟨some 25, .mv, [.t 7], none⟩,
  ⟨some 26, .mv, [.t 0], none⟩,
  ⟨some 27, .app 53 8 80, [.t 25, .t 26], none⟩,
  ⟨some 7, .mv, [.t 27], none⟩])
 (.seq (.reg [⟨some 28, .mv, [.t 7], none⟩,
  ⟨some 29, .mv, [.t 8], none⟩,
  ⟨some 30, .load 8 true, [.t 4], none⟩,
  ⟨some 31, .iad 8, [.t 28, .t 29], none⟩,
  ⟨none, .store 8, [.t 31, .t 30], none⟩])
 (.seq (.reg [⟨some 32, .mv, [.t 7], none⟩,
  ⟨some 6, .mv, [.t 32], none⟩])
 .ret)))
 .skip)))
 (.reg [⟨some 15, .mv, [.t 8], none⟩,
  ⟨some 16, .bin .add, [.t 15, .c (.p (.v (.int .i64 1)))], none⟩,
  ⟨some 8, .mv, [.t 16], none⟩]))))))
 (.seq (.reg [⟨some 9, .mv, [.c (.p (.v (.bool false)))], none⟩])
 (.seq (.seq (.reg [⟨some 10, .mv, [.c (.p (.v (.int .i64 0)))], none⟩])
 (.block 2
 (.loop
 (.seq (.seq (.reg [⟨some 33, .mv, [.t 10], none⟩,
  ⟨some 34, .mv, [.t 0], none⟩,
  ⟨some 35, .len 0, [.t 34], none⟩,
  ⟨some 36, .bin .lss, [.t 33, .t 35], none⟩])
 (.cond (.t 36)
 .skip
 (.exit 2)))
 (.seq (.block 3
 (.seq (.seq (.regd [⟨some 39, .mv, [.t 9], none⟩,
  ⟨some 40, .un .not, [.t 39], none⟩,
  ⟨some 41, .mv, [.t 40], none⟩,
  ⟨some 42, .mv, [.t 2], some (41, true)⟩,
  ⟨some 43, .mv, [.t 0], some (41, true)⟩,
  ⟨some 44, .mv, [.t 10], some (41, true)⟩,
  ⟨some 45, .iad 8, [.t 43, .t 44], some (41, true)⟩,
  ⟨some 46, .load 8 true, [.t 45], some (41, true)⟩,
  ⟨some 47, .load 8 true, [.t 4], some (41, true)⟩,
  ⟨some 48, .callv, [.t 42, .t 46, .t 47], some (41, true)⟩,
  ⟨some 49, .bin .gtr, [.t 48, .c (.p (.v (.int .i64 0)))], some (41, true)⟩,
  ⟨some 50, .pick, [.t 41, .t 49, .c (.p (.v (.bool false)))], none⟩])
 (.cond (.t 50)
 (.seq (.reg [⟨some 51, .mv, [.t 7], none⟩,
  ⟨some 52, .load 8 true, [.t 4], none⟩,
  ⟨some 53, .bsl 53 8 1 [.v (.string ⟨#[]⟩), .v (.string ⟨#[]⟩), .v (.int .i64 0), .v (.int .i64 0), .v (.int .i64 0), .v (.int .i64 0), .v (.int .i64 0), .v (.bool false)] [0], [.t 52], none⟩,
  ⟨some 54, .app 53 8 80, [.t 51, .t 53], none⟩,
  ⟨some 7, .mv, [.t 54], none⟩])
 (.reg [⟨some 9, .mv, [.c (.p (.v (.bool true)))], none⟩]))
 .skip))
 (.reg [⟨some 55, .mv, [.t 7], none⟩,
  ⟨some 56, .mv, [.t 0], none⟩,
  ⟨some 57, .mv, [.t 10], none⟩,
  ⟨some 58, .iad 8, [.t 56, .t 57], none⟩,
  ⟨some 59, .load 8 true, [.t 58], none⟩,
  ⟨some 60, .bsl 53 8 1 [.v (.string ⟨#[]⟩), .v (.string ⟨#[]⟩), .v (.int .i64 0), .v (.int .i64 0), .v (.int .i64 0), .v (.int .i64 0), .v (.int .i64 0), .v (.bool false)] [0], [.t 59], none⟩,
  ⟨some 61, .app 53 8 80, [.t 55, .t 60], none⟩,
  ⟨some 7, .mv, [.t 61], none⟩])))
 (.reg [⟨some 37, .mv, [.t 10], none⟩,
  ⟨some 38, .bin .add, [.t 37, .c (.p (.v (.int .i64 1)))], none⟩,
  ⟨some 10, .mv, [.t 38], none⟩]))))))
 (.seq (.seq (.reg [⟨some 62, .mv, [.t 9], none⟩,
  ⟨some 63, .un .not, [.t 62], none⟩])
 (.cond (.t 63)
 (.reg [⟨some 64, .mv, [.t 7], none⟩,
  ⟨some 65, .load 8 true, [.t 4], none⟩,
  ⟨some 66, .bsl 53 8 1 [.v (.string ⟨#[]⟩), .v (.string ⟨#[]⟩), .v (.int .i64 0), .v (.int .i64 0), .v (.int .i64 0), .v (.int .i64 0), .v (.int .i64 0), .v (.bool false)] [0], [.t 65], none⟩,
  ⟨some 67, .app 53 8 80, [.t 64, .t 66], none⟩,
  ⟨some 7, .mv, [.t 67], none⟩])
 .skip))
 (.seq (.reg [⟨some 68, .mv, [.t 7], none⟩,
  ⟨some 6, .mv, [.t 68], none⟩])
 .ret)))))))
theorem ret120 {ps : List PV} {p : PV} (hn : Nat.ble ps.length 69 = true) (h : (∀ q ∈ ps, q.bd) → Run Tryz.prog (fun e s' => (∀ id, e ≠ .exit id) ∧ ∃ ns, s'.out [.t 6] = some (p, ns)) [] c120 (S (initL 0 ps) [])) : Ret Tryz.prog 120 ps p :=
  ret_run Tryz.func120 rfl (by kernel_rfl) rfl (by kernel_rfl) (by kernel_rfl) (by kernel_rfl) (by kernel_rfl) (Nat.le_of_ble_eq_true hn) h

theorem row120 {ps : List PV} {ty es : Nat} {zs : List (List PV)} (hn : Nat.ble ps.length 69 = true) (h : (∀ q ∈ ps, q.bd) → Run Tryz.prog (fun e s' => (∀ id, e ≠ .exit id) ∧ ((s'.t 6 = .nil ∧ zs = []) ∨ ∃ n, s'.t 6 = .row n zs.length ∧ s'.o n = some (.row ty es zs false))) [] c120 (S (initL 0 ps) [])) : RetN Tryz.prog 120 ps ty es zs :=
  retN_run Tryz.func120 rfl (by kernel_rfl) rfl rfl (by decide) (by kernel_rfl) (by kernel_rfl) (by kernel_rfl) (Nat.le_of_ble_eq_true hn) h

/-- stevedore/stevedorerows.put[stevedore/api.Counted] -/
def c98 : C :=
  (.seq (.reg [⟨some 4, .box, [.t 1], none⟩,
  ⟨some 6, .mv, [.c .nil], none⟩])
 (.seq (.reg [⟨some 7, .mv, [.c .nil], none⟩])
 (.seq (.seq (.reg [⟨some 8, .mv, [.c (.p (.v (.int .i64 0)))], none⟩])
 (.block 0
 (.loop
 (.seq (.seq (.reg [⟨some 11, .mv, [.t 8], none⟩,
  ⟨some 12, .mv, [.t 0], none⟩,
  ⟨some 13, .len 0, [.t 12], none⟩,
  ⟨some 14, .bin .lss, [.t 11, .t 13], none⟩])
 (.cond (.t 14)
 .skip
 (.exit 0)))
 (.seq (.block 1
 (.seq (.regd [⟨some 17, .mv, [.t 2], none⟩,
  ⟨some 18, .mv, [.t 0], none⟩,
  ⟨some 19, .mv, [.t 8], none⟩,
  ⟨some 20, .iad 5, [.t 18, .t 19], none⟩,
  ⟨some 21, .load 5 true, [.t 20], none⟩,
  ⟨some 22, .load 5 true, [.t 4], none⟩,
  ⟨some 23, .callv, [.t 17, .t 21, .t 22], none⟩,
  ⟨some 24, .bin .eql, [.t 23, .c (.p (.v (.int .i64 0)))], none⟩])
 (.cond (.t 24)
 (.seq (.reg [⟨some 25, .mv, [.t 7], none⟩,
  ⟨some 26, .mv, [.t 0], none⟩,
  ⟨some 27, .app 41 5 64, [.t 25, .t 26], none⟩,
  ⟨some 7, .mv, [.t 27], none⟩])
 (.seq (.reg [⟨some 28, .mv, [.t 7], none⟩,
  ⟨some 29, .mv, [.t 8], none⟩,
  ⟨some 30, .load 5 true, [.t 4], none⟩,
  ⟨some 31, .iad 5, [.t 28, .t 29], none⟩,
  ⟨none, .store 5, [.t 31, .t 30], none⟩])
 (.seq (.reg [⟨some 32, .mv, [.t 7], none⟩,
  ⟨some 6, .mv, [.t 32], none⟩])
 .ret)))
 .skip)))
 (.reg [⟨some 15, .mv, [.t 8], none⟩,
  ⟨some 16, .bin .add, [.t 15, .c (.p (.v (.int .i64 1)))], none⟩,
  ⟨some 8, .mv, [.t 16], none⟩]))))))
 (.seq (.reg [⟨some 9, .mv, [.c (.p (.v (.bool false)))], none⟩])
 (.seq (.seq (.reg [⟨some 10, .mv, [.c (.p (.v (.int .i64 0)))], none⟩])
 (.block 2
 (.loop
 (.seq (.seq (.reg [⟨some 33, .mv, [.t 10], none⟩,
  ⟨some 34, .mv, [.t 0], none⟩,
  ⟨some 35, .len 0, [.t 34], none⟩,
  ⟨some 36, .bin .lss, [.t 33, .t 35], none⟩])
 (.cond (.t 36)
 .skip
 (.exit 2)))
 (.seq (.block 3
 (.seq (.seq (.regd [⟨some 39, .mv, [.t 9], none⟩,
  ⟨some 40, .un .not, [.t 39], none⟩,
  ⟨some 41, .mv, [.t 40], none⟩,
  ⟨some 42, .mv, [.t 2], some (41, true)⟩,
  ⟨some 43, .mv, [.t 0], some (41, true)⟩,
  ⟨some 44, .mv, [.t 10], some (41, true)⟩,
  ⟨some 45, .iad 5, [.t 43, .t 44], some (41, true)⟩,
  ⟨some 46, .load 5 true, [.t 45], some (41, true)⟩,
  ⟨some 47, .load 5 true, [.t 4], some (41, true)⟩,
  ⟨some 48, .callv, [.t 42, .t 46, .t 47], some (41, true)⟩,
  ⟨some 49, .bin .gtr, [.t 48, .c (.p (.v (.int .i64 0)))], some (41, true)⟩,
  ⟨some 50, .pick, [.t 41, .t 49, .c (.p (.v (.bool false)))], none⟩])
 (.cond (.t 50)
 (.seq (.reg [⟨some 51, .mv, [.t 7], none⟩,
  ⟨some 52, .load 5 true, [.t 4], none⟩,
  ⟨some 53, .bsl 41 5 1 [.v (.string ⟨#[]⟩), .v (.string ⟨#[]⟩), .v (.string ⟨#[]⟩), .v (.int .i64 0), .v (.int .i64 0)] [0], [.t 52], none⟩,
  ⟨some 54, .app 41 5 64, [.t 51, .t 53], none⟩,
  ⟨some 7, .mv, [.t 54], none⟩])
 (.reg [⟨some 9, .mv, [.c (.p (.v (.bool true)))], none⟩]))
 .skip))
 (.reg [⟨some 55, .mv, [.t 7], none⟩,
  ⟨some 56, .mv, [.t 0], none⟩,
  ⟨some 57, .mv, [.t 10], none⟩,
  ⟨some 58, .iad 5, [.t 56, .t 57], none⟩,
  ⟨some 59, .load 5 true, [.t 58], none⟩,
  ⟨some 60, .bsl 41 5 1 [.v (.string ⟨#[]⟩), .v (.string ⟨#[]⟩), .v (.string ⟨#[]⟩), .v (.int .i64 0), .v (.int .i64 0)] [0], [.t 59], none⟩,
  ⟨some 61, .app 41 5 64, [.t 55, .t 60], none⟩,
  ⟨some 7, .mv, [.t 61], none⟩])))
 (.reg [⟨some 37, .mv, [.t 10], none⟩,
  ⟨some 38, .bin .add, [.t 37, .c (.p (.v (.int .i64 1)))], none⟩,
  ⟨some 10, .mv, [.t 38], none⟩]))))))
 (.seq (.seq (.reg [⟨some 62, .mv, [.t 9], none⟩,
  ⟨some 63, .un .not, [.t 62], none⟩])
 (.cond (.t 63)
 (.reg [⟨some 64, .mv, [.t 7], none⟩,
  ⟨some 65, .load 5 true, [.t 4], none⟩,
  ⟨some 66, .bsl 41 5 1 [.v (.string ⟨#[]⟩), .v (.string ⟨#[]⟩), .v (.string ⟨#[]⟩), .v (.int .i64 0), .v (.int .i64 0)] [0], [.t 65], none⟩,
  ⟨some 67, .app 41 5 64, [.t 64, .t 66], none⟩,
  ⟨some 7, .mv, [.t 67], none⟩])
 .skip))
 (.seq (.reg [⟨some 68, .mv, [.t 7], none⟩,
  ⟨some 6, .mv, [.t 68], none⟩])
 .ret)))))))
theorem ret98 {ps : List PV} {p : PV} (hn : Nat.ble ps.length 69 = true) (h : (∀ q ∈ ps, q.bd) → Run Tryz.prog (fun e s' => (∀ id, e ≠ .exit id) ∧ ∃ ns, s'.out [.t 6] = some (p, ns)) [] c98 (S (initL 0 ps) [])) : Ret Tryz.prog 98 ps p :=
  ret_run Tryz.func98 rfl (by kernel_rfl) rfl (by kernel_rfl) (by kernel_rfl) (by kernel_rfl) (by kernel_rfl) (Nat.le_of_ble_eq_true hn) h

theorem row98 {ps : List PV} {ty es : Nat} {zs : List (List PV)} (hn : Nat.ble ps.length 69 = true) (h : (∀ q ∈ ps, q.bd) → Run Tryz.prog (fun e s' => (∀ id, e ≠ .exit id) ∧ ((s'.t 6 = .nil ∧ zs = []) ∨ ∃ n, s'.t 6 = .row n zs.length ∧ s'.o n = some (.row ty es zs false))) [] c98 (S (initL 0 ps) [])) : RetN Tryz.prog 98 ps ty es zs :=
  retN_run Tryz.func98 rfl (by kernel_rfl) rfl rfl (by decide) (by kernel_rfl) (by kernel_rfl) (by kernel_rfl) (Nat.le_of_ble_eq_true hn) h

/-- stevedore/stevedorerows.put[stevedore/api.Quant] -/
def c111 : C :=
  (.seq (.reg [⟨some 4, .box, [.t 1], none⟩,
  ⟨some 6, .mv, [.c .nil], none⟩])
 (.seq (.reg [⟨some 7, .mv, [.c .nil], none⟩])
 (.seq (.seq (.reg [⟨some 8, .mv, [.c (.p (.v (.int .i64 0)))], none⟩])
 (.block 0
 (.loop
 (.seq (.seq (.reg [⟨some 11, .mv, [.t 8], none⟩,
  ⟨some 12, .mv, [.t 0], none⟩,
  ⟨some 13, .len 0, [.t 12], none⟩,
  ⟨some 14, .bin .lss, [.t 11, .t 13], none⟩])
 (.cond (.t 14)
 .skip
 (.exit 0)))
 (.seq (.block 1
 (.seq (.regd [⟨some 17, .mv, [.t 2], none⟩,
  ⟨some 18, .mv, [.t 0], none⟩,
  ⟨some 19, .mv, [.t 8], none⟩,
  ⟨some 20, .iad 6, [.t 18, .t 19], none⟩,
  ⟨some 21, .load 6 true, [.t 20], none⟩,
  ⟨some 22, .load 6 true, [.t 4], none⟩,
  ⟨some 23, .callv, [.t 17, .t 21, .t 22], none⟩,
  ⟨some 24, .bin .eql, [.t 23, .c (.p (.v (.int .i64 0)))], none⟩])
 (.cond (.t 24)
 (.seq (.reg [⟨some 25, .mv, [.t 7], none⟩,
  ⟨some 26, .mv, [.t 0], none⟩,
  ⟨some 27, .app 59 6 72, [.t 25, .t 26], none⟩,
  ⟨some 7, .mv, [.t 27], none⟩])
 (.seq (.reg [⟨some 28, .mv, [.t 7], none⟩,
  ⟨some 29, .mv, [.t 8], none⟩,
  ⟨some 30, .load 6 true, [.t 4], none⟩,
  ⟨some 31, .iad 6, [.t 28, .t 29], none⟩,
  ⟨none, .store 6, [.t 31, .t 30], none⟩])
 (.seq (.reg [⟨some 32, .mv, [.t 7], none⟩,
  ⟨some 6, .mv, [.t 32], none⟩])
 .ret)))
 .skip)))
 (.reg [⟨some 15, .mv, [.t 8], none⟩,
  ⟨some 16, .bin .add, [.t 15, .c (.p (.v (.int .i64 1)))], none⟩,
  ⟨some 8, .mv, [.t 16], none⟩]))))))
 (.seq (.reg [⟨some 9, .mv, [.c (.p (.v (.bool false)))], none⟩])
 (.seq (.seq (.reg [⟨some 10, .mv, [.c (.p (.v (.int .i64 0)))], none⟩])
 (.block 2
 (.loop
 (.seq (.seq (.reg [⟨some 33, .mv, [.t 10], none⟩,
  ⟨some 34, .mv, [.t 0], none⟩,
  ⟨some 35, .len 0, [.t 34], none⟩,
  ⟨some 36, .bin .lss, [.t 33, .t 35], none⟩])
 (.cond (.t 36)
 .skip
 (.exit 2)))
 (.seq (.block 3
 (.seq (.seq (.regd [⟨some 39, .mv, [.t 9], none⟩,
  ⟨some 40, .un .not, [.t 39], none⟩,
  ⟨some 41, .mv, [.t 40], none⟩,
  ⟨some 42, .mv, [.t 2], some (41, true)⟩,
  ⟨some 43, .mv, [.t 0], some (41, true)⟩,
  ⟨some 44, .mv, [.t 10], some (41, true)⟩,
  ⟨some 45, .iad 6, [.t 43, .t 44], some (41, true)⟩,
  ⟨some 46, .load 6 true, [.t 45], some (41, true)⟩,
  ⟨some 47, .load 6 true, [.t 4], some (41, true)⟩,
  ⟨some 48, .callv, [.t 42, .t 46, .t 47], some (41, true)⟩,
  ⟨some 49, .bin .gtr, [.t 48, .c (.p (.v (.int .i64 0)))], some (41, true)⟩,
  ⟨some 50, .pick, [.t 41, .t 49, .c (.p (.v (.bool false)))], none⟩])
 (.cond (.t 50)
 (.seq (.reg [⟨some 51, .mv, [.t 7], none⟩,
  ⟨some 52, .load 6 true, [.t 4], none⟩,
  ⟨some 53, .bsl 59 6 1 [.v (.string ⟨#[]⟩), .v (.string ⟨#[]⟩), .v (.string ⟨#[]⟩), .v (.int .i64 0), .v (.int .i64 0), .v (.int .i64 0)] [0], [.t 52], none⟩,
  ⟨some 54, .app 59 6 72, [.t 51, .t 53], none⟩,
  ⟨some 7, .mv, [.t 54], none⟩])
 (.reg [⟨some 9, .mv, [.c (.p (.v (.bool true)))], none⟩]))
 .skip))
 (.reg [⟨some 55, .mv, [.t 7], none⟩,
  ⟨some 56, .mv, [.t 0], none⟩,
  ⟨some 57, .mv, [.t 10], none⟩,
  ⟨some 58, .iad 6, [.t 56, .t 57], none⟩,
  ⟨some 59, .load 6 true, [.t 58], none⟩,
  ⟨some 60, .bsl 59 6 1 [.v (.string ⟨#[]⟩), .v (.string ⟨#[]⟩), .v (.string ⟨#[]⟩), .v (.int .i64 0), .v (.int .i64 0), .v (.int .i64 0)] [0], [.t 59], none⟩,
  ⟨some 61, .app 59 6 72, [.t 55, .t 60], none⟩,
  ⟨some 7, .mv, [.t 61], none⟩])))
 (.reg [⟨some 37, .mv, [.t 10], none⟩,
  ⟨some 38, .bin .add, [.t 37, .c (.p (.v (.int .i64 1)))], none⟩,
  ⟨some 10, .mv, [.t 38], none⟩]))))))
 (.seq (.seq (.reg [⟨some 62, .mv, [.t 9], none⟩,
  ⟨some 63, .un .not, [.t 62], none⟩])
 (.cond (.t 63)
 (.reg [⟨some 64, .mv, [.t 7], none⟩,
  ⟨some 65, .load 6 true, [.t 4], none⟩,
  ⟨some 66, .bsl 59 6 1 [.v (.string ⟨#[]⟩), .v (.string ⟨#[]⟩), .v (.string ⟨#[]⟩), .v (.int .i64 0), .v (.int .i64 0), .v (.int .i64 0)] [0], [.t 65], none⟩,
  ⟨some 67, .app 59 6 72, [.t 64, .t 66], none⟩,
  ⟨some 7, .mv, [.t 67], none⟩])
 .skip))
 (.seq (.reg [⟨some 68, .mv, [.t 7], none⟩,
  ⟨some 6, .mv, [.t 68], none⟩])
 .ret)))))))
theorem ret111 {ps : List PV} {p : PV} (hn : Nat.ble ps.length 69 = true) (h : (∀ q ∈ ps, q.bd) → Run Tryz.prog (fun e s' => (∀ id, e ≠ .exit id) ∧ ∃ ns, s'.out [.t 6] = some (p, ns)) [] c111 (S (initL 0 ps) [])) : Ret Tryz.prog 111 ps p :=
  ret_run Tryz.func111 rfl (by kernel_rfl) rfl (by kernel_rfl) (by kernel_rfl) (by kernel_rfl) (by kernel_rfl) (Nat.le_of_ble_eq_true hn) h

theorem row111 {ps : List PV} {ty es : Nat} {zs : List (List PV)} (hn : Nat.ble ps.length 69 = true) (h : (∀ q ∈ ps, q.bd) → Run Tryz.prog (fun e s' => (∀ id, e ≠ .exit id) ∧ ((s'.t 6 = .nil ∧ zs = []) ∨ ∃ n, s'.t 6 = .row n zs.length ∧ s'.o n = some (.row ty es zs false))) [] c111 (S (initL 0 ps) [])) : RetN Tryz.prog 111 ps ty es zs :=
  retN_run Tryz.func111 rfl (by kernel_rfl) rfl rfl (by decide) (by kernel_rfl) (by kernel_rfl) (by kernel_rfl) (Nat.le_of_ble_eq_true hn) h

/-- stevedore/stevedorerows.put[stevedore/api.Total] -/
def c112 : C :=
  (.seq (.reg [⟨some 4, .box, [.t 1], none⟩,
  ⟨some 6, .mv, [.c .nil], none⟩])
 (.seq (.reg [⟨some 7, .mv, [.c .nil], none⟩])
 (.seq (.seq (.reg [⟨some 8, .mv, [.c (.p (.v (.int .i64 0)))], none⟩])
 (.block 0
 (.loop
 (.seq (.seq (.reg [⟨some 11, .mv, [.t 8], none⟩,
  ⟨some 12, .mv, [.t 0], none⟩,
  ⟨some 13, .len 0, [.t 12], none⟩,
  ⟨some 14, .bin .lss, [.t 11, .t 13], none⟩])
 (.cond (.t 14)
 .skip
 (.exit 0)))
 (.seq (.block 1
 (.seq (.regd [⟨some 17, .mv, [.t 2], none⟩,
  ⟨some 18, .mv, [.t 0], none⟩,
  ⟨some 19, .mv, [.t 8], none⟩,
  ⟨some 20, .iad 6, [.t 18, .t 19], none⟩,
  ⟨some 21, .load 6 true, [.t 20], none⟩,
  ⟨some 22, .load 6 true, [.t 4], none⟩,
  ⟨some 23, .callv, [.t 17, .t 21, .t 22], none⟩,
  ⟨some 24, .bin .eql, [.t 23, .c (.p (.v (.int .i64 0)))], none⟩])
 (.cond (.t 24)
 (.seq (.reg [⟨some 25, .mv, [.t 7], none⟩,
  ⟨some 26, .mv, [.t 0], none⟩,
  ⟨some 27, .app 69 6 64, [.t 25, .t 26], none⟩,
  ⟨some 7, .mv, [.t 27], none⟩])
 (.seq (.reg [⟨some 28, .mv, [.t 7], none⟩,
  ⟨some 29, .mv, [.t 8], none⟩,
  ⟨some 30, .load 6 true, [.t 4], none⟩,
  ⟨some 31, .iad 6, [.t 28, .t 29], none⟩,
  ⟨none, .store 6, [.t 31, .t 30], none⟩])
 (.seq (.reg [⟨some 32, .mv, [.t 7], none⟩,
  ⟨some 6, .mv, [.t 32], none⟩])
 .ret)))
 .skip)))
 (.reg [⟨some 15, .mv, [.t 8], none⟩,
  ⟨some 16, .bin .add, [.t 15, .c (.p (.v (.int .i64 1)))], none⟩,
  ⟨some 8, .mv, [.t 16], none⟩]))))))
 (.seq (.reg [⟨some 9, .mv, [.c (.p (.v (.bool false)))], none⟩])
 (.seq (.seq (.reg [⟨some 10, .mv, [.c (.p (.v (.int .i64 0)))], none⟩])
 (.block 2
 (.loop
 (.seq (.seq (.reg [⟨some 33, .mv, [.t 10], none⟩,
  ⟨some 34, .mv, [.t 0], none⟩,
  ⟨some 35, .len 0, [.t 34], none⟩,
  ⟨some 36, .bin .lss, [.t 33, .t 35], none⟩])
 (.cond (.t 36)
 .skip
 (.exit 2)))
 (.seq (.block 3
 (.seq (.seq (.regd [⟨some 39, .mv, [.t 9], none⟩,
  ⟨some 40, .un .not, [.t 39], none⟩,
  ⟨some 41, .mv, [.t 40], none⟩,
  ⟨some 42, .mv, [.t 2], some (41, true)⟩,
  ⟨some 43, .mv, [.t 0], some (41, true)⟩,
  ⟨some 44, .mv, [.t 10], some (41, true)⟩,
  ⟨some 45, .iad 6, [.t 43, .t 44], some (41, true)⟩,
  ⟨some 46, .load 6 true, [.t 45], some (41, true)⟩,
  ⟨some 47, .load 6 true, [.t 4], some (41, true)⟩,
  ⟨some 48, .callv, [.t 42, .t 46, .t 47], some (41, true)⟩,
  ⟨some 49, .bin .gtr, [.t 48, .c (.p (.v (.int .i64 0)))], some (41, true)⟩,
  ⟨some 50, .pick, [.t 41, .t 49, .c (.p (.v (.bool false)))], none⟩])
 (.cond (.t 50)
 (.seq (.reg [⟨some 51, .mv, [.t 7], none⟩,
  ⟨some 52, .load 6 true, [.t 4], none⟩,
  ⟨some 53, .bsl 69 6 1 [.v (.string ⟨#[]⟩), .v (.string ⟨#[]⟩), .v (.int .i64 0), .v (.int .i64 0), .v (.int .i64 0), .v (.int .i64 0)] [0], [.t 52], none⟩,
  ⟨some 54, .app 69 6 64, [.t 51, .t 53], none⟩,
  ⟨some 7, .mv, [.t 54], none⟩])
 (.reg [⟨some 9, .mv, [.c (.p (.v (.bool true)))], none⟩]))
 .skip))
 (.reg [⟨some 55, .mv, [.t 7], none⟩,
  ⟨some 56, .mv, [.t 0], none⟩,
  ⟨some 57, .mv, [.t 10], none⟩,
  ⟨some 58, .iad 6, [.t 56, .t 57], none⟩,
  ⟨some 59, .load 6 true, [.t 58], none⟩,
  ⟨some 60, .bsl 69 6 1 [.v (.string ⟨#[]⟩), .v (.string ⟨#[]⟩), .v (.int .i64 0), .v (.int .i64 0), .v (.int .i64 0), .v (.int .i64 0)] [0], [.t 59], none⟩,
  ⟨some 61, .app 69 6 64, [.t 55, .t 60], none⟩,
  ⟨some 7, .mv, [.t 61], none⟩])))
 (.reg [⟨some 37, .mv, [.t 10], none⟩,
  ⟨some 38, .bin .add, [.t 37, .c (.p (.v (.int .i64 1)))], none⟩,
  ⟨some 10, .mv, [.t 38], none⟩]))))))
 (.seq (.seq (.reg [⟨some 62, .mv, [.t 9], none⟩,
  ⟨some 63, .un .not, [.t 62], none⟩])
 (.cond (.t 63)
 (.reg [⟨some 64, .mv, [.t 7], none⟩,
  ⟨some 65, .load 6 true, [.t 4], none⟩,
  ⟨some 66, .bsl 69 6 1 [.v (.string ⟨#[]⟩), .v (.string ⟨#[]⟩), .v (.int .i64 0), .v (.int .i64 0), .v (.int .i64 0), .v (.int .i64 0)] [0], [.t 65], none⟩,
  ⟨some 67, .app 69 6 64, [.t 64, .t 66], none⟩,
  ⟨some 7, .mv, [.t 67], none⟩])
 .skip))
 (.seq (.reg [⟨some 68, .mv, [.t 7], none⟩,
  ⟨some 6, .mv, [.t 68], none⟩])
 .ret)))))))
theorem ret112 {ps : List PV} {p : PV} (hn : Nat.ble ps.length 69 = true) (h : (∀ q ∈ ps, q.bd) → Run Tryz.prog (fun e s' => (∀ id, e ≠ .exit id) ∧ ∃ ns, s'.out [.t 6] = some (p, ns)) [] c112 (S (initL 0 ps) [])) : Ret Tryz.prog 112 ps p :=
  ret_run Tryz.func112 rfl (by kernel_rfl) rfl (by kernel_rfl) (by kernel_rfl) (by kernel_rfl) (by kernel_rfl) (Nat.le_of_ble_eq_true hn) h

theorem row112 {ps : List PV} {ty es : Nat} {zs : List (List PV)} (hn : Nat.ble ps.length 69 = true) (h : (∀ q ∈ ps, q.bd) → Run Tryz.prog (fun e s' => (∀ id, e ≠ .exit id) ∧ ((s'.t 6 = .nil ∧ zs = []) ∨ ∃ n, s'.t 6 = .row n zs.length ∧ s'.o n = some (.row ty es zs false))) [] c112 (S (initL 0 ps) [])) : RetN Tryz.prog 112 ps ty es zs :=
  retN_run Tryz.func112 rfl (by kernel_rfl) rfl rfl (by decide) (by kernel_rfl) (by kernel_rfl) (by kernel_rfl) (Nat.le_of_ble_eq_true hn) h

/-- stevedore/stevedorerows.drop[stevedore/api.Quant] -/
def c109 : C :=
  (.seq (.reg [⟨some 4, .box, [.t 1], none⟩,
  ⟨some 6, .mv, [.c .nil], none⟩])
 (.seq (.reg [⟨some 7, .mv, [.c .nil], none⟩])
 (.seq (.reg [⟨some 8, .mv, [.c (.p (.v (.bool false)))], none⟩])
 (.seq (.seq (.reg [⟨some 9, .mv, [.c (.p (.v (.int .i64 0)))], none⟩])
 (.block 0
 (.loop
 (.seq (.seq (.reg [⟨some 10, .mv, [.t 9], none⟩,
  ⟨some 11, .mv, [.t 0], none⟩,
  ⟨some 12, .len 0, [.t 11], none⟩,
  ⟨some 13, .bin .lss, [.t 10, .t 12], none⟩])
 (.cond (.t 13)
 .skip
 (.exit 0)))
 (.seq (.block 1
 (.seq (.seq (.regd [⟨some 16, .mv, [.t 8], none⟩,
  ⟨some 17, .un .not, [.t 16], none⟩,
  ⟨some 18, .mv, [.t 17], none⟩,
  ⟨some 19, .mv, [.t 2], some (18, true)⟩,
  ⟨some 20, .mv, [.t 0], some (18, true)⟩,
  ⟨some 21, .mv, [.t 9], some (18, true)⟩,
  ⟨some 22, .iad 6, [.t 20, .t 21], some (18, true)⟩,
  ⟨some 23, .load 6 true, [.t 22], some (18, true)⟩,
  ⟨some 24, .load 6 true, [.t 4], some (18, true)⟩,
  ⟨some 25, .callv, [.t 19, .t 23, .t 24], some (18, true)⟩,
  ⟨some 26, .bin .eql, [.t 25, .c (.p (.v (.int .i64 0)))], some (18, true)⟩,
  ⟨some 27, .pick, [.t 18, .t 26, .c (.p (.v (.bool false)))], none⟩])
 (.cond (.t 27)
 (.seq (.reg [⟨some 8, .mv, [.c (.p (.v (.bool true)))], none⟩])
 (.exit 1))
 .skip))
 (.reg [⟨some 28, .mv, [.t 7], none⟩,
  ⟨some 29, .mv, [.t 0], none⟩,
  ⟨some 30, .mv, [.t 9], none⟩,
  ⟨some 31, .iad 6, [.t 29, .t 30], none⟩,
  ⟨some 32, .load 6 true, [.t 31], none⟩,
  ⟨some 33, .bsl 59 6 1 [.v (.string ⟨#[]⟩), .v (.string ⟨#[]⟩), .v (.string ⟨#[]⟩), .v (.int .i64 0), .v (.int .i64 0), .v (.int .i64 0)] [0], [.t 32], none⟩,
  ⟨some 34, .app 59 6 72, [.t 28, .t 33], none⟩,
  ⟨some 7, .mv, [.t 34], none⟩])))
 (.reg [⟨some 14, .mv, [.t 9], none⟩,
  ⟨some 15, .bin .add, [.t 14, .c (.p (.v (.int .i64 1)))], none⟩,
  ⟨some 9, .mv, [.t 15], none⟩]))))))
 (.seq (.reg [⟨some 35, .mv, [.t 7], none⟩,
  ⟨some 6, .mv, [.t 35], none⟩])
 .ret)))))
theorem ret109 {ps : List PV} {p : PV} (hn : Nat.ble ps.length 36 = true) (h : (∀ q ∈ ps, q.bd) → Run Tryz.prog (fun e s' => (∀ id, e ≠ .exit id) ∧ ∃ ns, s'.out [.t 6] = some (p, ns)) [] c109 (S (initL 0 ps) [])) : Ret Tryz.prog 109 ps p :=
  ret_run Tryz.func109 rfl (by kernel_rfl) rfl (by kernel_rfl) (by kernel_rfl) (by kernel_rfl) (by kernel_rfl) (Nat.le_of_ble_eq_true hn) h

theorem row109 {ps : List PV} {ty es : Nat} {zs : List (List PV)} (hn : Nat.ble ps.length 36 = true) (h : (∀ q ∈ ps, q.bd) → Run Tryz.prog (fun e s' => (∀ id, e ≠ .exit id) ∧ ((s'.t 6 = .nil ∧ zs = []) ∨ ∃ n, s'.t 6 = .row n zs.length ∧ s'.o n = some (.row ty es zs false))) [] c109 (S (initL 0 ps) [])) : RetN Tryz.prog 109 ps ty es zs :=
  retN_run Tryz.func109 rfl (by kernel_rfl) rfl rfl (by decide) (by kernel_rfl) (by kernel_rfl) (by kernel_rfl) (Nat.le_of_ble_eq_true hn) h

/-- stevedore/stevedorerows.Bin -/
def c89 : C :=
  (.seq (.reg [⟨some 2, .box, [.t 0], none⟩,
  ⟨some 3, .box, [.t 1], none⟩,
  ⟨some 4, .alloc [.sl [] [], .sl [] [], .sl [] [], .sl [] [], .sl [] [], .sl [] [], .sl [] [], .sl [] [], .sl [] [], .sl [] [], .sl [] [], .sl [] [], .sl [] [], .sl [] [], .v (.int .i64 0)], [], none⟩])
 (.seq (.reg [⟨some 5, .fad 3, [.t 2], none⟩,
  ⟨some 6, .load 1 false, [.t 5], none⟩,
  ⟨some 7, .load 8 true, [.t 3], none⟩,
  ⟨some 8, .call 120, [.t 6, .t 7, .c (.p (.clo 121 []))], none⟩,
  ⟨some 9, .fad 3, [.t 2], none⟩,
  ⟨none, .store 1, [.t 9, .t 8], none⟩])
 (.seq (.reg [⟨some 10, .load 15 true, [.t 2], none⟩,
  ⟨none, .store 15, [.t 4, .t 10], none⟩])
 .ret)))
theorem ret89 {ps : List PV} {p : PV} (hn : Nat.ble ps.length 11 = true) (h : (∀ q ∈ ps, q.bd) → Run Tryz.prog (fun e s' => (∀ id, e ≠ .exit id) ∧ ∃ ns, s'.out [.c 4 15 true] = some (p, ns)) [] c89 (S (initL 0 ps) [])) : Ret Tryz.prog 89 ps p :=
  ret_run Tryz.func89 rfl (by kernel_rfl) rfl (by kernel_rfl) (by kernel_rfl) (by kernel_rfl) (by kernel_rfl) (Nat.le_of_ble_eq_true hn) h

/-- stevedore/stevedorerows.Counted -/
def c67 : C :=
  (.seq (.reg [⟨some 2, .box, [.t 0], none⟩,
  ⟨some 3, .box, [.t 1], none⟩,
  ⟨some 4, .alloc [.sl [] [], .sl [] [], .sl [] [], .sl [] [], .sl [] [], .sl [] [], .sl [] [], .sl [] [], .sl [] [], .sl [] [], .sl [] [], .sl [] [], .sl [] [], .sl [] [], .v (.int .i64 0)], [], none⟩])
 (.seq (.reg [⟨some 5, .fad 12, [.t 2], none⟩,
  ⟨some 6, .load 1 false, [.t 5], none⟩,
  ⟨some 7, .load 5 true, [.t 3], none⟩,
  ⟨some 8, .call 98, [.t 6, .t 7, .c (.p (.clo 99 []))], none⟩,
  ⟨some 9, .fad 12, [.t 2], none⟩,
  ⟨none, .store 1, [.t 9, .t 8], none⟩])
 (.seq (.reg [⟨some 10, .load 15 true, [.t 2], none⟩,
  ⟨none, .store 15, [.t 4, .t 10], none⟩])
 .ret)))
theorem ret67 {ps : List PV} {p : PV} (hn : Nat.ble ps.length 11 = true) (h : (∀ q ∈ ps, q.bd) → Run Tryz.prog (fun e s' => (∀ id, e ≠ .exit id) ∧ ∃ ns, s'.out [.c 4 15 true] = some (p, ns)) [] c67 (S (initL 0 ps) [])) : Ret Tryz.prog 67 ps p :=
  ret_run Tryz.func67 rfl (by kernel_rfl) rfl (by kernel_rfl) (by kernel_rfl) (by kernel_rfl) (by kernel_rfl) (Nat.le_of_ble_eq_true hn) h

/-- stevedore/stevedorerows.Total -/
def c81 : C :=
  (.seq (.reg [⟨some 2, .box, [.t 0], none⟩,
  ⟨some 3, .box, [.t 1], none⟩,
  ⟨some 4, .alloc [.sl [] [], .sl [] [], .sl [] [], .sl [] [], .sl [] [], .sl [] [], .sl [] [], .sl [] [], .sl [] [], .sl [] [], .sl [] [], .sl [] [], .sl [] [], .sl [] [], .v (.int .i64 0)], [], none⟩])
 (.seq (.reg [⟨some 5, .fad 13, [.t 2], none⟩,
  ⟨some 6, .load 1 false, [.t 5], none⟩,
  ⟨some 7, .load 6 true, [.t 3], none⟩,
  ⟨some 8, .call 112, [.t 6, .t 7, .c (.p (.clo 113 []))], none⟩,
  ⟨some 9, .fad 13, [.t 2], none⟩,
  ⟨none, .store 1, [.t 9, .t 8], none⟩])
 (.seq (.reg [⟨some 10, .load 15 true, [.t 2], none⟩,
  ⟨none, .store 15, [.t 4, .t 10], none⟩])
 .ret)))
theorem ret81 {ps : List PV} {p : PV} (hn : Nat.ble ps.length 11 = true) (h : (∀ q ∈ ps, q.bd) → Run Tryz.prog (fun e s' => (∀ id, e ≠ .exit id) ∧ ∃ ns, s'.out [.c 4 15 true] = some (p, ns)) [] c81 (S (initL 0 ps) [])) : Ret Tryz.prog 81 ps p :=
  ret_run Tryz.func81 rfl (by kernel_rfl) rfl (by kernel_rfl) (by kernel_rfl) (by kernel_rfl) (by kernel_rfl) (Nat.le_of_ble_eq_true hn) h

/-- stevedore/stevedorerows.Quant -/
def c79 : C :=
  (.seq (.reg [⟨some 2, .box, [.t 0], none⟩,
  ⟨some 3, .box, [.t 1], none⟩,
  ⟨some 4, .alloc [.sl [] [], .sl [] [], .sl [] [], .sl [] [], .sl [] [], .sl [] [], .sl [] [], .sl [] [], .sl [] [], .sl [] [], .sl [] [], .sl [] [], .sl [] [], .sl [] [], .v (.int .i64 0)], [], none⟩])
 (.seq (.seq (.reg [⟨some 5, .fad 4, [.t 3], none⟩,
  ⟨some 6, .load 1 false, [.t 5], none⟩,
  ⟨some 7, .bin .eql, [.t 6, .c (.p (.v (.int .i64 0)))], none⟩])
 (.cond (.t 7)
 (.seq (.reg [⟨some 8, .fad 4, [.t 2], none⟩,
  ⟨some 9, .load 1 false, [.t 8], none⟩,
  ⟨some 10, .load 6 true, [.t 3], none⟩,
  ⟨some 11, .call 109, [.t 9, .t 10, .c (.p (.clo 110 []))], none⟩,
  ⟨some 12, .fad 4, [.t 2], none⟩,
  ⟨none, .store 1, [.t 12, .t 11], none⟩])
 (.seq (.reg [⟨some 13, .load 15 true, [.t 2], none⟩,
  ⟨none, .store 15, [.t 4, .t 13], none⟩])
 .ret))
 .skip))
 (.seq (.reg [⟨some 14, .fad 4, [.t 2], none⟩,
  ⟨some 15, .load 1 false, [.t 14], none⟩,
  ⟨some 16, .load 6 true, [.t 3], none⟩,
  ⟨some 17, .call 111, [.t 15, .t 16, .c (.p (.clo 110 []))], none⟩,
  ⟨some 18, .fad 4, [.t 2], none⟩,
  ⟨none, .store 1, [.t 18, .t 17], none⟩])
 (.seq (.reg [⟨some 19, .load 15 true, [.t 2], none⟩,
  ⟨none, .store 15, [.t 4, .t 19], none⟩])
 .ret))))
theorem ret79 {ps : List PV} {p : PV} (hn : Nat.ble ps.length 20 = true) (h : (∀ q ∈ ps, q.bd) → Run Tryz.prog (fun e s' => (∀ id, e ≠ .exit id) ∧ ∃ ns, s'.out [.c 4 15 true] = some (p, ns)) [] c79 (S (initL 0 ps) [])) : Ret Tryz.prog 79 ps p :=
  ret_run Tryz.func79 rfl (by kernel_rfl) rfl (by kernel_rfl) (by kernel_rfl) (by kernel_rfl) (by kernel_rfl) (Nat.le_of_ble_eq_true hn) h

/-- stevedore/layout.Find -/
def c75 : C :=
  (.seq (.reg [⟨some 2, .box, [.t 0], none⟩,
  ⟨some 4, .alloc [.v (.string ⟨#[]⟩), .v (.string ⟨#[]⟩), .v (.int .i64 0), .v (.int .i64 0), .v (.int .i64 0), .v (.int .i64 0), .v (.int .i64 0), .v (.bool false)], [], none⟩,
  ⟨some 5, .mv, [.c (.p (.v (.bool false)))], none⟩])
 (.seq (.seq (.regd [⟨some 9, .call 107, [], none⟩,
  ⟨some 10, .fad 3, [.t 2], none⟩,
  ⟨some 11, .load 1 false, [.t 10], none⟩,
  ⟨some 12, .mv, [.t 1], none⟩,
  ⟨some 13, .build [.v (.string ⟨#[]⟩), .v (.string ⟨#[]⟩), .v (.int .i64 0), .v (.int .i64 0), .v (.int .i64 0), .v (.int .i64 0), .v (.int .i64 0), .v (.bool false)] [(0, 1)], [.t 12], none⟩,
  ⟨some 14, .call 108, [.t 9, .t 11, .t 13], none⟩,
  ⟨some 8, .mv, [.t 14], none⟩,
  ⟨some 15, .ext 0, [.t 8], none⟩,
  ⟨some 16, .ext 1, [.t 8], none⟩,
  ⟨some 6, .mv, [.t 15], none⟩,
  ⟨some 7, .mv, [.t 16], none⟩])
 (.seq (.reg [⟨some 17, .mv, [.t 7], none⟩])
 (.cond (.t 17)
 (.seq (.reg [⟨some 18, .fad 3, [.t 2], none⟩,
  ⟨some 19, .load 1 false, [.t 18], none⟩,
  ⟨some 20, .mv, [.t 6], none⟩,
  ⟨some 21, .iad 8, [.t 19, .t 20], none⟩,
  ⟨some 22, .load 8 true, [.t 21], none⟩,
  ⟨none, .store 8, [.t 4, .t 22], none⟩,
  ⟨some 5, .mv, [.c (.p (.v (.bool true)))], none⟩])
 .ret)
 .skip)))
 (.seq (.reg [⟨some 23, .build [.v (.string ⟨#[]⟩), .v (.string ⟨#[]⟩), .v (.int .i64 0), .v (.int .i64 0), .v (.int .i64 0), .v (.int .i64 0), .v (.int .i64 0), .v (.bool false)] [], [], none⟩,
  ⟨none, .store 8, [.t 4, .t 23], none⟩,
  ⟨some 5, .mv, [.c (.p (.v (.bool false)))], none⟩])
 .ret)))
theorem ret75 {ps : List PV} {p : PV} (hn : Nat.ble ps.length 24 = true) (h : (∀ q ∈ ps, q.bd) → Run Tryz.prog (fun e s' => (∀ id, e ≠ .exit id) ∧ ∃ ns, s'.out [.c 4 8 true, .t 5] = some (p, ns)) [] c75 (S (initL 0 ps) [])) : Ret Tryz.prog 75 ps p :=
  ret_run Tryz.func75 rfl (by kernel_rfl) rfl (by kernel_rfl) (by kernel_rfl) (by kernel_rfl) (by kernel_rfl) (Nat.le_of_ble_eq_true hn) h

/-- stevedore/stevedorerows.FindBin -/
def c23 : C :=
  (.seq (.reg [⟨some 2, .box, [.t 0], none⟩,
  ⟨some 4, .alloc [.v (.string ⟨#[]⟩), .v (.string ⟨#[]⟩), .v (.int .i64 0), .v (.int .i64 0), .v (.int .i64 0), .v (.int .i64 0), .v (.int .i64 0), .v (.bool false)], [], none⟩,
  ⟨some 5, .mv, [.c (.p (.v (.bool false)))], none⟩])
 (.seq (.seq (.reg [⟨some 6, .mv, [.c (.p (.v (.int .i64 0)))], none⟩])
 (.block 0
 (.loop
 (.seq (.seq (.reg [⟨some 7, .mv, [.t 6], none⟩,
  ⟨some 8, .fad 3, [.t 2], none⟩,
  ⟨some 9, .load 1 false, [.t 8], none⟩,
  ⟨some 10, .len 0, [.t 9], none⟩,
  ⟨some 11, .bin .lss, [.t 7, .t 10], none⟩])
 (.cond (.t 11)
 .skip
 (.exit 0)))
 (.seq (.block 1
 (.seq (.reg [⟨some 14, .fad 3, [.t 2], none⟩,
  ⟨some 15, .load 1 false, [.t 14], none⟩,
  ⟨some 16, .mv, [.t 6], none⟩,
  ⟨some 17, .iad 8, [.t 15, .t 16], none⟩,
  ⟨some 18, .fad 0, [.t 17], none⟩,
  ⟨some 19, .load 1 false, [.t 18], none⟩,
  ⟨some 20, .mv, [.t 1], none⟩,
  ⟨some 21, .bin .eql, [.t 19, .t 20], none⟩])
 (.cond (.t 21)
 (.seq (.reg [⟨some 22, .fad 3, [.t 2], none⟩,
  ⟨some 23, .load 1 false, [.t 22], none⟩,
  ⟨some 24, .mv, [.t 6], none⟩,
  ⟨some 25, .iad 8, [.t 23, .t 24], none⟩,
  ⟨some 26, .load 8 true, [.t 25], none⟩,
  ⟨none, .store 8, [.t 4, .t 26], none⟩,
  ⟨some 5, .mv, [.c (.p (.v (.bool true)))], none⟩])
 .ret)
 .skip)))
 (.reg [⟨some 12, .mv, [.t 6], none⟩,
  ⟨some 13, .bin .add, [.t 12, .c (.p (.v (.int .i64 1)))], none⟩,
  ⟨some 6, .mv, [.t 13], none⟩]))))))
 (.seq (.reg [⟨some 27, .build [.v (.string ⟨#[]⟩), .v (.string ⟨#[]⟩), .v (.int .i64 0), .v (.int .i64 0), .v (.int .i64 0), .v (.int .i64 0), .v (.int .i64 0), .v (.bool false)] [], [], none⟩,
  ⟨none, .store 8, [.t 4, .t 27], none⟩,
  ⟨some 5, .mv, [.c (.p (.v (.bool false)))], none⟩])
 .ret)))
theorem ret23 {ps : List PV} {p : PV} (hn : Nat.ble ps.length 28 = true) (h : (∀ q ∈ ps, q.bd) → Run Tryz.prog (fun e s' => (∀ id, e ≠ .exit id) ∧ ∃ ns, s'.out [.c 4 8 true, .t 5] = some (p, ns)) [] c23 (S (initL 0 ps) [])) : Ret Tryz.prog 23 ps p :=
  ret_run Tryz.func23 rfl (by kernel_rfl) rfl (by kernel_rfl) (by kernel_rfl) (by kernel_rfl) (by kernel_rfl) (Nat.le_of_ble_eq_true hn) h

/-- stevedore/stock.Find -/
def c25 : C :=
  (.seq (.reg [⟨some 2, .box, [.t 0], none⟩,
  ⟨some 3, .box, [.t 1], none⟩,
  ⟨some 4, .alloc [.v (.string ⟨#[]⟩), .v (.string ⟨#[]⟩), .v (.string ⟨#[]⟩), .v (.int .i64 0), .v (.int .i64 0), .v (.int .i64 0)], [], none⟩,
  ⟨some 5, .mv, [.c (.p (.v (.bool false)))], none⟩])
 (.seq (.seq (.regd [⟨some 9, .call 85, [], none⟩,
  ⟨some 10, .fad 4, [.t 2], none⟩,
  ⟨some 11, .load 1 false, [.t 10], none⟩,
  ⟨some 12, .load 4 true, [.t 3], none⟩,
  ⟨some 13, .build [.v (.string ⟨#[]⟩), .v (.string ⟨#[]⟩), .v (.string ⟨#[]⟩), .v (.int .i64 0), .v (.int .i64 0), .v (.int .i64 0)] [(0, 4)], [.t 12], none⟩,
  ⟨some 14, .call 86, [.t 9, .t 11, .t 13], none⟩,
  ⟨some 8, .mv, [.t 14], none⟩,
  ⟨some 15, .ext 0, [.t 8], none⟩,
  ⟨some 16, .ext 1, [.t 8], none⟩,
  ⟨some 6, .mv, [.t 15], none⟩,
  ⟨some 7, .mv, [.t 16], none⟩])
 (.seq (.reg [⟨some 17, .mv, [.t 7], none⟩])
 (.cond (.t 17)
 (.seq (.reg [⟨some 18, .fad 4, [.t 2], none⟩,
  ⟨some 19, .load 1 false, [.t 18], none⟩,
  ⟨some 20, .mv, [.t 6], none⟩,
  ⟨some 21, .iad 6, [.t 19, .t 20], none⟩,
  ⟨some 22, .load 6 true, [.t 21], none⟩,
  ⟨none, .store 6, [.t 4, .t 22], none⟩,
  ⟨some 5, .mv, [.c (.p (.v (.bool true)))], none⟩])
 .ret)
 .skip)))
 (.seq (.reg [⟨some 23, .build [.v (.string ⟨#[]⟩), .v (.string ⟨#[]⟩), .v (.string ⟨#[]⟩), .v (.int .i64 0), .v (.int .i64 0), .v (.int .i64 0)] [], [], none⟩,
  ⟨none, .store 6, [.t 4, .t 23], none⟩,
  ⟨some 5, .mv, [.c (.p (.v (.bool false)))], none⟩])
 .ret)))
theorem ret25 {ps : List PV} {p : PV} (hn : Nat.ble ps.length 24 = true) (h : (∀ q ∈ ps, q.bd) → Run Tryz.prog (fun e s' => (∀ id, e ≠ .exit id) ∧ ∃ ns, s'.out [.c 4 6 true, .t 5] = some (p, ns)) [] c25 (S (initL 0 ps) [])) : Ret Tryz.prog 25 ps p :=
  ret_run Tryz.func25 rfl (by kernel_rfl) rfl (by kernel_rfl) (by kernel_rfl) (by kernel_rfl) (by kernel_rfl) (Nat.le_of_ble_eq_true hn) h

/-- stevedore/stevedorerows.FindQuant -/
def c78 : C :=
  (.seq (.reg [⟨some 2, .box, [.t 0], none⟩,
  ⟨some 3, .box, [.t 1], none⟩,
  ⟨some 4, .alloc [.v (.string ⟨#[]⟩), .v (.string ⟨#[]⟩), .v (.string ⟨#[]⟩), .v (.int .i64 0), .v (.int .i64 0), .v (.int .i64 0)], [], none⟩,
  ⟨some 5, .mv, [.c (.p (.v (.bool false)))], none⟩])
 (.seq (.seq (.reg [⟨some 6, .mv, [.c (.p (.v (.int .i64 0)))], none⟩])
 (.block 0
 (.loop
 (.seq (.seq (.reg [⟨some 7, .mv, [.t 6], none⟩,
  ⟨some 8, .fad 4, [.t 2], none⟩,
  ⟨some 9, .load 1 false, [.t 8], none⟩,
  ⟨some 10, .len 0, [.t 9], none⟩,
  ⟨some 11, .bin .lss, [.t 7, .t 10], none⟩])
 (.cond (.t 11)
 .skip
 (.exit 0)))
 (.seq (.block 1
 (.seq (.regd [⟨some 14, .fad 4, [.t 2], none⟩,
  ⟨some 15, .load 1 false, [.t 14], none⟩,
  ⟨some 16, .mv, [.t 6], none⟩,
  ⟨some 17, .iad 6, [.t 15, .t 16], none⟩,
  ⟨some 18, .fad 0, [.t 17], none⟩,
  ⟨some 19, .load 4 true, [.t 18], none⟩,
  ⟨some 20, .load 4 true, [.t 3], none⟩,
  ⟨some 21, .eqs false [.s, .s, .s, .i .i64], [.t 19, .t 20], none⟩])
 (.cond (.t 21)
 (.seq (.reg [⟨some 22, .fad 4, [.t 2], none⟩,
  ⟨some 23, .load 1 false, [.t 22], none⟩,
  ⟨some 24, .mv, [.t 6], none⟩,
  ⟨some 25, .iad 6, [.t 23, .t 24], none⟩,
  ⟨some 26, .load 6 true, [.t 25], none⟩,
  ⟨none, .store 6, [.t 4, .t 26], none⟩,
  ⟨some 5, .mv, [.c (.p (.v (.bool true)))], none⟩])
 .ret)
 .skip)))
 (.reg [⟨some 12, .mv, [.t 6], none⟩,
  ⟨some 13, .bin .add, [.t 12, .c (.p (.v (.int .i64 1)))], none⟩,
  ⟨some 6, .mv, [.t 13], none⟩]))))))
 (.seq (.reg [⟨some 27, .build [.v (.string ⟨#[]⟩), .v (.string ⟨#[]⟩), .v (.string ⟨#[]⟩), .v (.int .i64 0), .v (.int .i64 0), .v (.int .i64 0)] [], [], none⟩,
  ⟨none, .store 6, [.t 4, .t 27], none⟩,
  ⟨some 5, .mv, [.c (.p (.v (.bool false)))], none⟩])
 .ret)))
theorem ret78 {ps : List PV} {p : PV} (hn : Nat.ble ps.length 28 = true) (h : (∀ q ∈ ps, q.bd) → Run Tryz.prog (fun e s' => (∀ id, e ≠ .exit id) ∧ ∃ ns, s'.out [.c 4 6 true, .t 5] = some (p, ns)) [] c78 (S (initL 0 ps) [])) : Ret Tryz.prog 78 ps p :=
  ret_run Tryz.func78 rfl (by kernel_rfl) rfl (by kernel_rfl) (by kernel_rfl) (by kernel_rfl) (by kernel_rfl) (Nat.le_of_ble_eq_true hn) h

/-- stevedore/stevedorerows.FindTotal -/
def c80 : C :=
  (.seq (.reg [⟨some 3, .box, [.t 0], none⟩,
  ⟨some 6, .alloc [.v (.string ⟨#[]⟩), .v (.string ⟨#[]⟩), .v (.int .i64 0), .v (.int .i64 0), .v (.int .i64 0), .v (.int .i64 0)], [], none⟩,
  ⟨some 7, .mv, [.c (.p (.v (.bool false)))], none⟩])
 (.seq (.seq (.reg [⟨some 8, .mv, [.c (.p (.v (.int .i64 0)))], none⟩])
 (.block 0
 (.loop
 (.seq (.seq (.reg [⟨some 9, .mv, [.t 8], none⟩,
  ⟨some 10, .fad 13, [.t 3], none⟩,
  ⟨some 11, .load 1 false, [.t 10], none⟩,
  ⟨some 12, .len 0, [.t 11], none⟩,
  ⟨some 13, .bin .lss, [.t 9, .t 12], none⟩])
 (.cond (.t 13)
 .skip
 (.exit 0)))
 (.seq (.block 1
 (.seq (.reg [⟨some 16, .fad 13, [.t 3], none⟩,
  ⟨some 17, .load 1 false, [.t 16], none⟩,
  ⟨some 18, .mv, [.t 8], none⟩,
  ⟨some 19, .iad 6, [.t 17, .t 18], none⟩,
  ⟨some 20, .fad 0, [.t 19], none⟩,
  ⟨some 21, .load 1 false, [.t 20], none⟩,
  ⟨some 22, .mv, [.t 1], none⟩,
  ⟨some 23, .bin .eql, [.t 21, .t 22], none⟩,
  ⟨some 24, .mv, [.t 23], none⟩,
  ⟨some 25, .fad 13, [.t 3], some (24, true)⟩,
  ⟨some 26, .load 1 false, [.t 25], some (24, true)⟩,
  ⟨some 27, .mv, [.t 8], some (24, true)⟩,
  ⟨some 28, .iad 6, [.t 26, .t 27], some (24, true)⟩,
  ⟨some 29, .fad 1, [.t 28], some (24, true)⟩,
  ⟨some 30, .load 1 false, [.t 29], some (24, true)⟩,
  ⟨some 31, .mv, [.t 2], some (24, true)⟩,
  ⟨some 32, .bin .eql, [.t 30, .t 31], some (24, true)⟩,
  ⟨some 33, .pick, [.t 24, .t 32, .c (.p (.v (.bool false)))], none⟩])
 (.cond (.t 33)
 (.seq (.reg [⟨some 34, .fad 13, [.t 3], none⟩,
  ⟨some 35, .load 1 false, [.t 34], none⟩,
  ⟨some 36, .mv, [.t 8], none⟩,
  ⟨some 37, .iad 6, [.t 35, .t 36], none⟩,
  ⟨some 38, .load 6 true, [.t 37], none⟩,
  ⟨none, .store 6, [.t 6, .t 38], none⟩,
  ⟨some 7, .mv, [.c (.p (.v (.bool true)))], none⟩])
 .ret)
 .skip)))
 (.reg [⟨some 14, .mv, [.t 8], none⟩,
  ⟨some 15, .bin .add, [.t 14, .c (.p (.v (.int .i64 1)))], none⟩,
  ⟨some 8, .mv, [.t 15], none⟩]))))))
 (.seq (.reg [⟨some 39, .mv, [.t 1], none⟩,
  ⟨some 40, .mv, [.t 2], none⟩,
  ⟨some 41, .build [.v (.string ⟨#[]⟩), .v (.string ⟨#[]⟩), .v (.int .i64 0), .v (.int .i64 0), .v (.int .i64 0), .v (.int .i64 0)] [(0, 1), (1, 1)], [.t 39, .t 40], none⟩,
  ⟨none, .store 6, [.t 6, .t 41], none⟩,
  ⟨some 7, .mv, [.c (.p (.v (.bool false)))], none⟩])
 .ret)))
theorem ret80 {ps : List PV} {p : PV} (hn : Nat.ble ps.length 42 = true) (h : (∀ q ∈ ps, q.bd) → Run Tryz.prog (fun e s' => (∀ id, e ≠ .exit id) ∧ ∃ ns, s'.out [.c 6 6 true, .t 7] = some (p, ns)) [] c80 (S (initL 0 ps) [])) : Ret Tryz.prog 80 ps p :=
  ret_run Tryz.func80 rfl (by kernel_rfl) rfl (by kernel_rfl) (by kernel_rfl) (by kernel_rfl) (by kernel_rfl) (Nat.le_of_ble_eq_true hn) h

end Go.Fw
