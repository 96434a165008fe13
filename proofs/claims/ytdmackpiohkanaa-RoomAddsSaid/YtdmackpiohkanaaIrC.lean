/-
  The code of some functions, for the abstract machine. Printed by a program (wip/tools/mkir.py).
-/
import Derived.Test.YtdmackpiohkanaaFwU
import Derived.Test.YtdmackpiohkanaaProg
import Derived.KernelRfl
set_option linter.unusedVariables false
set_option maxRecDepth 100000
namespace Go.Fw
open Go.Proofs

/-- (stevedore/table.Table[stevedore/api.Item]).Put -/
def c89 : C :=
  (.seq (.reg [⟨some 3, .box, [.t 0], none⟩,
  ⟨some 5, .box, [.t 2], none⟩,
  ⟨some 6, .mv, [.c .nil], none⟩])
 (.seq (.reg [⟨some 11, .mv, [.t 1], none⟩,
  ⟨some 12, .calln 133, [.t 11], none⟩,
  ⟨some 7, .mv, [.t 12], none⟩])
 (.seq (.seq (.reg [⟨some 14, .load 1 true, [.t 3], none⟩,
  ⟨some 15, .mv, [.t 1], none⟩,
  ⟨some 16, .load 14 true, [.t 5], none⟩,
  ⟨some 17, .call 91, [.t 14, .t 15, .t 16], none⟩,
  ⟨some 13, .mv, [.t 17], none⟩,
  ⟨some 18, .ext 0, [.t 13], none⟩,
  ⟨some 19, .ext 1, [.t 13], none⟩,
  ⟨some 8, .mv, [.t 18], none⟩,
  ⟨some 9, .mv, [.t 19], none⟩])
 (.seq (.reg [⟨some 20, .mv, [.t 9], none⟩])
 (.cond (.t 20)
 (.seq (.reg [⟨some 21, .mv, [.t 7], none⟩,
  ⟨some 22, .mv, [.t 8], none⟩,
  ⟨some 23, .load 14 true, [.t 5], none⟩,
  ⟨some 24, .iad 14, [.t 21, .t 22], none⟩,
  ⟨none, .store 14, [.t 24, .t 23], none⟩])
 (.seq (.reg [⟨some 25, .mv, [.t 7], none⟩,
  ⟨some 6, .mv, [.t 25], none⟩])
 .ret))
 .skip)))
 (.seq (.reg [⟨some 26, .mv, [.t 1], none⟩,
  ⟨some 27, .mkf 135, [.t 3, .t 5], none⟩,
  ⟨some 28, .call 134, [.t 26, .t 27], none⟩,
  ⟨some 10, .mv, [.t 28], none⟩])
 (.seq (.seq (.reg [⟨some 29, .mv, [.t 10], none⟩,
  ⟨some 30, .bin .lss, [.t 29, .c (.p (.v (.int .i64 0)))], none⟩])
 (.cond (.t 30)
 (.reg [⟨some 31, .mv, [.t 1], none⟩,
  ⟨some 32, .len 0, [.t 31], none⟩,
  ⟨some 10, .mv, [.t 32], none⟩])
 .skip))
 (.seq (.reg [⟨some 33, .mv, [.t 7], none⟩,
  ⟨some 34, .mv, [.t 10], none⟩,
  ⟨some 35, .load 14 true, [.t 5], none⟩,
  ⟨some 36, .bsl 46 14 1 [.v (.string ⟨#[]⟩), .v (.string ⟨#[]⟩), .v (.int .i64 0), .v (.string ⟨#[]⟩), .v (.int .i64 0), .v (.string ⟨#[]⟩), .v (.int .i64 0), .v (.string ⟨#[]⟩), .v (.int .i64 0), .v (.int .i64 0), .v (.int .i64 0), .v (.bool false), .v (.bool false), .v (.bool false)] [0], [.t 35], none⟩,
  ⟨some 37, .calli 136, [.t 33, .t 34, .t 36], none⟩,
  ⟨some 6, .mv, [.t 37], none⟩])
 .ret))))))
theorem ret89 {ps : List PV} {p : PV} (hn : Nat.ble ps.length 38 = true) (h : (∀ q ∈ ps, q.bd) → Run Try.prog (fun e s' => (∀ id, e ≠ .exit id) ∧ ∃ ns, s'.out [.t 6] = some (p, ns)) [] c89 (S (initL 0 ps) [])) : Ret Try.prog 89 ps p :=
  ret_run Try.func89 rfl (by kernel_rfl) rfl (by kernel_rfl) (by kernel_rfl) (by kernel_rfl) (by kernel_rfl) (Nat.le_of_ble_eq_true hn) h

theorem row89 {ps : List PV} {ty es : Nat} {zs : List (List PV)} (hn : Nat.ble ps.length 38 = true) (h : (∀ q ∈ ps, q.bd) → Run Try.prog (fun e s' => (∀ id, e ≠ .exit id) ∧ ((s'.t 6 = .nil ∧ zs = []) ∨ ∃ n, s'.t 6 = .row n zs.length ∧ s'.o n = some (.row ty es zs false))) [] c89 (S (initL 0 ps) [])) : RetN Try.prog 89 ps ty es zs :=
  retN_run Try.func89 rfl (by kernel_rfl) rfl rfl (by decide) (by kernel_rfl) (by kernel_rfl) (by kernel_rfl) (Nat.le_of_ble_eq_true hn) h

/-- (stevedore/table.Table[stevedore/api.Lot]).Put -/
def c112 : C :=
  (.seq (.reg [⟨some 3, .box, [.t 0], none⟩,
  ⟨some 5, .box, [.t 2], none⟩,
  ⟨some 6, .mv, [.c .nil], none⟩])
 (.seq (.reg [⟨some 11, .mv, [.t 1], none⟩,
  ⟨some 12, .calln 142, [.t 11], none⟩,
  ⟨some 7, .mv, [.t 12], none⟩])
 (.seq (.seq (.reg [⟨some 14, .load 1 true, [.t 3], none⟩,
  ⟨some 15, .mv, [.t 1], none⟩,
  ⟨some 16, .load 3 true, [.t 5], none⟩,
  ⟨some 17, .call 130, [.t 14, .t 15, .t 16], none⟩,
  ⟨some 13, .mv, [.t 17], none⟩,
  ⟨some 18, .ext 0, [.t 13], none⟩,
  ⟨some 19, .ext 1, [.t 13], none⟩,
  ⟨some 8, .mv, [.t 18], none⟩,
  ⟨some 9, .mv, [.t 19], none⟩])
 (.seq (.reg [⟨some 20, .mv, [.t 9], none⟩])
 (.cond (.t 20)
 (.seq (.reg [⟨some 21, .mv, [.t 7], none⟩,
  ⟨some 22, .mv, [.t 8], none⟩,
  ⟨some 23, .load 3 true, [.t 5], none⟩,
  ⟨some 24, .iad 3, [.t 21, .t 22], none⟩,
  ⟨none, .store 3, [.t 24, .t 23], none⟩])
 (.seq (.reg [⟨some 25, .mv, [.t 7], none⟩,
  ⟨some 6, .mv, [.t 25], none⟩])
 .ret))
 .skip)))
 (.seq (.reg [⟨some 26, .mv, [.t 1], none⟩,
  ⟨some 27, .mkf 144, [.t 3, .t 5], none⟩,
  ⟨some 28, .call 143, [.t 26, .t 27], none⟩,
  ⟨some 10, .mv, [.t 28], none⟩])
 (.seq (.seq (.reg [⟨some 29, .mv, [.t 10], none⟩,
  ⟨some 30, .bin .lss, [.t 29, .c (.p (.v (.int .i64 0)))], none⟩])
 (.cond (.t 30)
 (.reg [⟨some 31, .mv, [.t 1], none⟩,
  ⟨some 32, .len 0, [.t 31], none⟩,
  ⟨some 10, .mv, [.t 32], none⟩])
 .skip))
 (.seq (.reg [⟨some 33, .mv, [.t 7], none⟩,
  ⟨some 34, .mv, [.t 10], none⟩,
  ⟨some 35, .load 3 true, [.t 5], none⟩,
  ⟨some 36, .bsl 54 3 1 [.v (.string ⟨#[]⟩), .v (.string ⟨#[]⟩), .v (.int .i64 0)] [0], [.t 35], none⟩,
  ⟨some 37, .calli 145, [.t 33, .t 34, .t 36], none⟩,
  ⟨some 6, .mv, [.t 37], none⟩])
 .ret))))))
theorem ret112 {ps : List PV} {p : PV} (hn : Nat.ble ps.length 38 = true) (h : (∀ q ∈ ps, q.bd) → Run Try.prog (fun e s' => (∀ id, e ≠ .exit id) ∧ ∃ ns, s'.out [.t 6] = some (p, ns)) [] c112 (S (initL 0 ps) [])) : Ret Try.prog 112 ps p :=
  ret_run Try.func112 rfl (by kernel_rfl) rfl (by kernel_rfl) (by kernel_rfl) (by kernel_rfl) (by kernel_rfl) (Nat.le_of_ble_eq_true hn) h

theorem row112 {ps : List PV} {ty es : Nat} {zs : List (List PV)} (hn : Nat.ble ps.length 38 = true) (h : (∀ q ∈ ps, q.bd) → Run Try.prog (fun e s' => (∀ id, e ≠ .exit id) ∧ ((s'.t 6 = .nil ∧ zs = []) ∨ ∃ n, s'.t 6 = .row n zs.length ∧ s'.o n = some (.row ty es zs false))) [] c112 (S (initL 0 ps) [])) : RetN Try.prog 112 ps ty es zs :=
  retN_run Try.func112 rfl (by kernel_rfl) rfl rfl (by decide) (by kernel_rfl) (by kernel_rfl) (by kernel_rfl) (Nat.le_of_ble_eq_true hn) h

/-- (stevedore/table.Table[stevedore/api.Bin]).Put -/
def c122 : C :=
  (.seq (.reg [⟨some 3, .box, [.t 0], none⟩,
  ⟨some 5, .box, [.t 2], none⟩,
  ⟨some 6, .mv, [.c .nil], none⟩])
 (.seq (.reg [⟨some 11, .mv, [.t 1], none⟩,
  ⟨some 12, .calln 150, [.t 11], none⟩,
  ⟨some 7, .mv, [.t 12], none⟩])
 (.seq (.seq (.reg [⟨some 14, .load 1 true, [.t 3], none⟩,
  ⟨some 15, .mv, [.t 1], none⟩,
  ⟨some 16, .load 8 true, [.t 5], none⟩,
  ⟨some 17, .call 129, [.t 14, .t 15, .t 16], none⟩,
  ⟨some 13, .mv, [.t 17], none⟩,
  ⟨some 18, .ext 0, [.t 13], none⟩,
  ⟨some 19, .ext 1, [.t 13], none⟩,
  ⟨some 8, .mv, [.t 18], none⟩,
  ⟨some 9, .mv, [.t 19], none⟩])
 (.seq (.reg [⟨some 20, .mv, [.t 9], none⟩])
 (.cond (.t 20)
 (.seq (.reg [⟨some 21, .mv, [.t 7], none⟩,
  ⟨some 22, .mv, [.t 8], none⟩,
  ⟨some 23, .load 8 true, [.t 5], none⟩,
  ⟨some 24, .iad 8, [.t 21, .t 22], none⟩,
  ⟨none, .store 8, [.t 24, .t 23], none⟩])
 (.seq (.reg [⟨some 25, .mv, [.t 7], none⟩,
  ⟨some 6, .mv, [.t 25], none⟩])
 .ret))
 .skip)))
 (.seq (.reg [⟨some 26, .mv, [.t 1], none⟩,
  ⟨some 27, .mkf 152, [.t 3, .t 5], none⟩,
  ⟨some 28, .call 151, [.t 26, .t 27], none⟩,
  ⟨some 10, .mv, [.t 28], none⟩])
 (.seq (.seq (.reg [⟨some 29, .mv, [.t 10], none⟩,
  ⟨some 30, .bin .lss, [.t 29, .c (.p (.v (.int .i64 0)))], none⟩])
 (.cond (.t 30)
 (.reg [⟨some 31, .mv, [.t 1], none⟩,
  ⟨some 32, .len 0, [.t 31], none⟩,
  ⟨some 10, .mv, [.t 32], none⟩])
 .skip))
 (.seq (.reg [⟨some 33, .mv, [.t 7], none⟩,
  ⟨some 34, .mv, [.t 10], none⟩,
  ⟨some 35, .load 8 true, [.t 5], none⟩,
  ⟨some 36, .bsl 82 8 1 [.v (.string ⟨#[]⟩), .v (.string ⟨#[]⟩), .v (.int .i64 0), .v (.int .i64 0), .v (.int .i64 0), .v (.int .i64 0), .v (.int .i64 0), .v (.bool false)] [0], [.t 35], none⟩,
  ⟨some 37, .calli 153, [.t 33, .t 34, .t 36], none⟩,
  ⟨some 6, .mv, [.t 37], none⟩])
 .ret))))))
theorem ret122 {ps : List PV} {p : PV} (hn : Nat.ble ps.length 38 = true) (h : (∀ q ∈ ps, q.bd) → Run Try.prog (fun e s' => (∀ id, e ≠ .exit id) ∧ ∃ ns, s'.out [.t 6] = some (p, ns)) [] c122 (S (initL 0 ps) [])) : Ret Try.prog 122 ps p :=
  ret_run Try.func122 rfl (by kernel_rfl) rfl (by kernel_rfl) (by kernel_rfl) (by kernel_rfl) (by kernel_rfl) (Nat.le_of_ble_eq_true hn) h

theorem row122 {ps : List PV} {ty es : Nat} {zs : List (List PV)} (hn : Nat.ble ps.length 38 = true) (h : (∀ q ∈ ps, q.bd) → Run Try.prog (fun e s' => (∀ id, e ≠ .exit id) ∧ ((s'.t 6 = .nil ∧ zs = []) ∨ ∃ n, s'.t 6 = .row n zs.length ∧ s'.o n = some (.row ty es zs false))) [] c122 (S (initL 0 ps) [])) : RetN Try.prog 122 ps ty es zs :=
  retN_run Try.func122 rfl (by kernel_rfl) rfl rfl (by decide) (by kernel_rfl) (by kernel_rfl) (by kernel_rfl) (Nat.le_of_ble_eq_true hn) h

/-- (stevedore/table.Table[stevedore/api.Zone]).Put -/
def c126 : C :=
  (.seq (.reg [⟨some 3, .box, [.t 0], none⟩,
  ⟨some 5, .box, [.t 2], none⟩,
  ⟨some 6, .mv, [.c .nil], none⟩])
 (.seq (.reg [⟨some 11, .mv, [.t 1], none⟩,
  ⟨some 12, .calln 158, [.t 11], none⟩,
  ⟨some 7, .mv, [.t 12], none⟩])
 (.seq (.seq (.reg [⟨some 14, .load 1 true, [.t 3], none⟩,
  ⟨some 15, .mv, [.t 1], none⟩,
  ⟨some 16, .load 2 true, [.t 5], none⟩,
  ⟨some 17, .call 156, [.t 14, .t 15, .t 16], none⟩,
  ⟨some 13, .mv, [.t 17], none⟩,
  ⟨some 18, .ext 0, [.t 13], none⟩,
  ⟨some 19, .ext 1, [.t 13], none⟩,
  ⟨some 8, .mv, [.t 18], none⟩,
  ⟨some 9, .mv, [.t 19], none⟩])
 (.seq (.reg [⟨some 20, .mv, [.t 9], none⟩])
 (.cond (.t 20)
 (.seq (.reg [⟨some 21, .mv, [.t 7], none⟩,
  ⟨some 22, .mv, [.t 8], none⟩,
  ⟨some 23, .load 2 true, [.t 5], none⟩,
  ⟨some 24, .iad 2, [.t 21, .t 22], none⟩,
  ⟨none, .store 2, [.t 24, .t 23], none⟩])
 (.seq (.reg [⟨some 25, .mv, [.t 7], none⟩,
  ⟨some 6, .mv, [.t 25], none⟩])
 .ret))
 .skip)))
 (.seq (.reg [⟨some 26, .mv, [.t 1], none⟩,
  ⟨some 27, .mkf 160, [.t 3, .t 5], none⟩,
  ⟨some 28, .call 159, [.t 26, .t 27], none⟩,
  ⟨some 10, .mv, [.t 28], none⟩])
 (.seq (.seq (.reg [⟨some 29, .mv, [.t 10], none⟩,
  ⟨some 30, .bin .lss, [.t 29, .c (.p (.v (.int .i64 0)))], none⟩])
 (.cond (.t 30)
 (.reg [⟨some 31, .mv, [.t 1], none⟩,
  ⟨some 32, .len 0, [.t 31], none⟩,
  ⟨some 10, .mv, [.t 32], none⟩])
 .skip))
 (.seq (.reg [⟨some 33, .mv, [.t 7], none⟩,
  ⟨some 34, .mv, [.t 10], none⟩,
  ⟨some 35, .load 2 true, [.t 5], none⟩,
  ⟨some 36, .bsl 84 2 1 [.v (.string ⟨#[]⟩), .v (.string ⟨#[]⟩)] [0], [.t 35], none⟩,
  ⟨some 37, .calli 161, [.t 33, .t 34, .t 36], none⟩,
  ⟨some 6, .mv, [.t 37], none⟩])
 .ret))))))
theorem ret126 {ps : List PV} {p : PV} (hn : Nat.ble ps.length 38 = true) (h : (∀ q ∈ ps, q.bd) → Run Try.prog (fun e s' => (∀ id, e ≠ .exit id) ∧ ∃ ns, s'.out [.t 6] = some (p, ns)) [] c126 (S (initL 0 ps) [])) : Ret Try.prog 126 ps p :=
  ret_run Try.func126 rfl (by kernel_rfl) rfl (by kernel_rfl) (by kernel_rfl) (by kernel_rfl) (by kernel_rfl) (Nat.le_of_ble_eq_true hn) h

theorem row126 {ps : List PV} {ty es : Nat} {zs : List (List PV)} (hn : Nat.ble ps.length 38 = true) (h : (∀ q ∈ ps, q.bd) → Run Try.prog (fun e s' => (∀ id, e ≠ .exit id) ∧ ((s'.t 6 = .nil ∧ zs = []) ∨ ∃ n, s'.t 6 = .row n zs.length ∧ s'.o n = some (.row ty es zs false))) [] c126 (S (initL 0 ps) [])) : RetN Try.prog 126 ps ty es zs :=
  retN_run Try.func126 rfl (by kernel_rfl) rfl rfl (by decide) (by kernel_rfl) (by kernel_rfl) (by kernel_rfl) (Nat.le_of_ble_eq_true hn) h

/-- (stevedore/table.Table[stevedore/api.Item]).Put$1 -/
def c135 : C :=
  (.seq (.reg [⟨some 3, .box, [.t 0], none⟩,
  ⟨some 4, .mv, [.c (.p (.v (.bool false)))], none⟩])
 (.seq (.reg [⟨some 5, .fad 0, [.t 1], none⟩,
  ⟨some 6, .load 1 false, [.t 5], none⟩,
  ⟨some 7, .load 14 true, [.t 3], none⟩,
  ⟨some 8, .load 14 true, [.t 2], none⟩,
  ⟨some 9, .callv, [.t 6, .t 7, .t 8], none⟩,
  ⟨some 10, .bin .gtr, [.t 9, .c (.p (.v (.int .i64 0)))], none⟩,
  ⟨some 4, .mv, [.t 10], none⟩])
 .ret))
theorem ret135 {ps : List PV} {p : PV} (hn : Nat.ble ps.length 11 = true) (h : (∀ q ∈ ps, q.bd) → Run Try.prog (fun e s' => (∀ id, e ≠ .exit id) ∧ ∃ ns, s'.out [.t 4] = some (p, ns)) [] c135 (S (initL 0 ps) [])) : Ret Try.prog 135 ps p :=
  ret_run Try.func135 rfl (by kernel_rfl) rfl (by kernel_rfl) (by kernel_rfl) (by kernel_rfl) (by kernel_rfl) (Nat.le_of_ble_eq_true hn) h

/-- (stevedore/table.Table[stevedore/api.Lot]).Put$1 -/
def c144 : C :=
  (.seq (.reg [⟨some 3, .box, [.t 0], none⟩,
  ⟨some 4, .mv, [.c (.p (.v (.bool false)))], none⟩])
 (.seq (.reg [⟨some 5, .fad 0, [.t 1], none⟩,
  ⟨some 6, .load 1 false, [.t 5], none⟩,
  ⟨some 7, .load 3 true, [.t 3], none⟩,
  ⟨some 8, .load 3 true, [.t 2], none⟩,
  ⟨some 9, .callv, [.t 6, .t 7, .t 8], none⟩,
  ⟨some 10, .bin .gtr, [.t 9, .c (.p (.v (.int .i64 0)))], none⟩,
  ⟨some 4, .mv, [.t 10], none⟩])
 .ret))
theorem ret144 {ps : List PV} {p : PV} (hn : Nat.ble ps.length 11 = true) (h : (∀ q ∈ ps, q.bd) → Run Try.prog (fun e s' => (∀ id, e ≠ .exit id) ∧ ∃ ns, s'.out [.t 4] = some (p, ns)) [] c144 (S (initL 0 ps) [])) : Ret Try.prog 144 ps p :=
  ret_run Try.func144 rfl (by kernel_rfl) rfl (by kernel_rfl) (by kernel_rfl) (by kernel_rfl) (by kernel_rfl) (Nat.le_of_ble_eq_true hn) h

/-- (stevedore/table.Table[stevedore/api.Bin]).Put$1 -/
def c152 : C :=
  (.seq (.reg [⟨some 3, .box, [.t 0], none⟩,
  ⟨some 4, .mv, [.c (.p (.v (.bool false)))], none⟩])
 (.seq (.reg [⟨some 5, .fad 0, [.t 1], none⟩,
  ⟨some 6, .load 1 false, [.t 5], none⟩,
  ⟨some 7, .load 8 true, [.t 3], none⟩,
  ⟨some 8, .load 8 true, [.t 2], none⟩,
  ⟨some 9, .callv, [.t 6, .t 7, .t 8], none⟩,
  ⟨some 10, .bin .gtr, [.t 9, .c (.p (.v (.int .i64 0)))], none⟩,
  ⟨some 4, .mv, [.t 10], none⟩])
 .ret))
theorem ret152 {ps : List PV} {p : PV} (hn : Nat.ble ps.length 11 = true) (h : (∀ q ∈ ps, q.bd) → Run Try.prog (fun e s' => (∀ id, e ≠ .exit id) ∧ ∃ ns, s'.out [.t 4] = some (p, ns)) [] c152 (S (initL 0 ps) [])) : Ret Try.prog 152 ps p :=
  ret_run Try.func152 rfl (by kernel_rfl) rfl (by kernel_rfl) (by kernel_rfl) (by kernel_rfl) (by kernel_rfl) (Nat.le_of_ble_eq_true hn) h

/-- (stevedore/table.Table[stevedore/api.Zone]).Put$1 -/
def c160 : C :=
  (.seq (.reg [⟨some 3, .box, [.t 0], none⟩,
  ⟨some 4, .mv, [.c (.p (.v (.bool false)))], none⟩])
 (.seq (.reg [⟨some 5, .fad 0, [.t 1], none⟩,
  ⟨some 6, .load 1 false, [.t 5], none⟩,
  ⟨some 7, .load 2 true, [.t 3], none⟩,
  ⟨some 8, .load 2 true, [.t 2], none⟩,
  ⟨some 9, .callv, [.t 6, .t 7, .t 8], none⟩,
  ⟨some 10, .bin .gtr, [.t 9, .c (.p (.v (.int .i64 0)))], none⟩,
  ⟨some 4, .mv, [.t 10], none⟩])
 .ret))
theorem ret160 {ps : List PV} {p : PV} (hn : Nat.ble ps.length 11 = true) (h : (∀ q ∈ ps, q.bd) → Run Try.prog (fun e s' => (∀ id, e ≠ .exit id) ∧ ∃ ns, s'.out [.t 4] = some (p, ns)) [] c160 (S (initL 0 ps) [])) : Ret Try.prog 160 ps p :=
  ret_run Try.func160 rfl (by kernel_rfl) rfl (by kernel_rfl) (by kernel_rfl) (by kernel_rfl) (by kernel_rfl) (Nat.le_of_ble_eq_true hn) h

/-- slices.IndexFunc[[]stevedore/api.Bin,stevedore/api.Bin] -/
def c151 : C :=
  (.seq (.reg [⟨some 4, .mv, [.c (.p (.v (.int .i64 0)))], none⟩])
 (.seq (.seq (.reg [⟨some 6, .mv, [.t 0], none⟩,
  ⟨some 7, .len 0, [.t 6], none⟩,
  ⟨some 8, .mv, [.c (.p (.v (.int .i64 0)))], none⟩])
 (.block 0
 (.loop
 (.seq (.reg [⟨some 9, .bin .lss, [.t 8, .t 7], none⟩])
 (.seq (.cond (.t 9)
 .skip
 (.exit 0))
 (.seq (.block 1
 (.seq (.reg [⟨some 10, .mv, [.t 8], none⟩,
  ⟨some 5, .mv, [.t 10], none⟩])
 (.seq (.reg [⟨some 11, .mv, [.t 1], none⟩,
  ⟨some 12, .mv, [.t 0], none⟩,
  ⟨some 13, .mv, [.t 5], none⟩,
  ⟨some 14, .iad 8, [.t 12, .t 13], none⟩,
  ⟨some 15, .load 8 true, [.t 14], none⟩,
  ⟨some 16, .callv, [.t 11, .t 15], none⟩])
 (.cond (.t 16)
 (.seq (.reg [⟨some 17, .mv, [.t 5], none⟩,
  ⟨some 4, .mv, [.t 17], none⟩])
 .ret)
 .skip))))
 (.reg [⟨some 18, .bin .add, [.t 8, .c (.p (.v (.int .i64 1)))], none⟩,
  ⟨some 8, .mv, [.t 18], none⟩])))))))
 (.seq (.reg [⟨some 4, .mv, [.c (.p (.v (.int .i64 (-1))))], none⟩])
 .ret)))
theorem ret151 {ps : List PV} {p : PV} (hn : Nat.ble ps.length 19 = true) (h : (∀ q ∈ ps, q.bd) → Run Try.prog (fun e s' => (∀ id, e ≠ .exit id) ∧ ∃ ns, s'.out [.t 4] = some (p, ns)) [] c151 (S (initL 0 ps) [])) : Ret Try.prog 151 ps p :=
  ret_run Try.func151 rfl (by kernel_rfl) rfl (by kernel_rfl) (by kernel_rfl) (by kernel_rfl) (by kernel_rfl) (Nat.le_of_ble_eq_true hn) h

/-- slices.IndexFunc[[]stevedore/api.Zone,stevedore/api.Zone] -/
def c159 : C :=
  (.seq (.reg [⟨some 4, .mv, [.c (.p (.v (.int .i64 0)))], none⟩])
 (.seq (.seq (.reg [⟨some 6, .mv, [.t 0], none⟩,
  ⟨some 7, .len 0, [.t 6], none⟩,
  ⟨some 8, .mv, [.c (.p (.v (.int .i64 0)))], none⟩])
 (.block 0
 (.loop
 (.seq (.reg [⟨some 9, .bin .lss, [.t 8, .t 7], none⟩])
 (.seq (.cond (.t 9)
 .skip
 (.exit 0))
 (.seq (.block 1
 (.seq (.reg [⟨some 10, .mv, [.t 8], none⟩,
  ⟨some 5, .mv, [.t 10], none⟩])
 (.seq (.reg [⟨some 11, .mv, [.t 1], none⟩,
  ⟨some 12, .mv, [.t 0], none⟩,
  ⟨some 13, .mv, [.t 5], none⟩,
  ⟨some 14, .iad 2, [.t 12, .t 13], none⟩,
  ⟨some 15, .load 2 true, [.t 14], none⟩,
  ⟨some 16, .callv, [.t 11, .t 15], none⟩])
 (.cond (.t 16)
 (.seq (.reg [⟨some 17, .mv, [.t 5], none⟩,
  ⟨some 4, .mv, [.t 17], none⟩])
 .ret)
 .skip))))
 (.reg [⟨some 18, .bin .add, [.t 8, .c (.p (.v (.int .i64 1)))], none⟩,
  ⟨some 8, .mv, [.t 18], none⟩])))))))
 (.seq (.reg [⟨some 4, .mv, [.c (.p (.v (.int .i64 (-1))))], none⟩])
 .ret)))
theorem ret159 {ps : List PV} {p : PV} (hn : Nat.ble ps.length 19 = true) (h : (∀ q ∈ ps, q.bd) → Run Try.prog (fun e s' => (∀ id, e ≠ .exit id) ∧ ∃ ns, s'.out [.t 4] = some (p, ns)) [] c159 (S (initL 0 ps) [])) : Ret Try.prog 159 ps p :=
  ret_run Try.func159 rfl (by kernel_rfl) rfl (by kernel_rfl) (by kernel_rfl) (by kernel_rfl) (by kernel_rfl) (Nat.le_of_ble_eq_true hn) h

/-- (stevedore/table.Table[stevedore/api.Bin]).Find$1 -/
def c165 : C :=
  (.seq (.reg [⟨some 3, .box, [.t 0], none⟩,
  ⟨some 4, .mv, [.c (.p (.v (.bool false)))], none⟩])
 (.seq (.reg [⟨some 5, .fad 0, [.t 1], none⟩,
  ⟨some 6, .load 1 false, [.t 5], none⟩,
  ⟨some 7, .load 8 true, [.t 3], none⟩,
  ⟨some 8, .load 8 true, [.t 2], none⟩,
  ⟨some 9, .callv, [.t 6, .t 7, .t 8], none⟩,
  ⟨some 10, .bin .eql, [.t 9, .c (.p (.v (.int .i64 0)))], none⟩,
  ⟨some 4, .mv, [.t 10], none⟩])
 .ret))
theorem ret165 {ps : List PV} {p : PV} (hn : Nat.ble ps.length 11 = true) (h : (∀ q ∈ ps, q.bd) → Run Try.prog (fun e s' => (∀ id, e ≠ .exit id) ∧ ∃ ns, s'.out [.t 4] = some (p, ns)) [] c165 (S (initL 0 ps) [])) : Ret Try.prog 165 ps p :=
  ret_run Try.func165 rfl (by kernel_rfl) rfl (by kernel_rfl) (by kernel_rfl) (by kernel_rfl) (by kernel_rfl) (Nat.le_of_ble_eq_true hn) h

/-- (stevedore/table.Table[stevedore/api.Zone]).Find$1 -/
def c175 : C :=
  (.seq (.reg [⟨some 3, .box, [.t 0], none⟩,
  ⟨some 4, .mv, [.c (.p (.v (.bool false)))], none⟩])
 (.seq (.reg [⟨some 5, .fad 0, [.t 1], none⟩,
  ⟨some 6, .load 1 false, [.t 5], none⟩,
  ⟨some 7, .load 2 true, [.t 3], none⟩,
  ⟨some 8, .load 2 true, [.t 2], none⟩,
  ⟨some 9, .callv, [.t 6, .t 7, .t 8], none⟩,
  ⟨some 10, .bin .eql, [.t 9, .c (.p (.v (.int .i64 0)))], none⟩,
  ⟨some 4, .mv, [.t 10], none⟩])
 .ret))
theorem ret175 {ps : List PV} {p : PV} (hn : Nat.ble ps.length 11 = true) (h : (∀ q ∈ ps, q.bd) → Run Try.prog (fun e s' => (∀ id, e ≠ .exit id) ∧ ∃ ns, s'.out [.t 4] = some (p, ns)) [] c175 (S (initL 0 ps) [])) : Ret Try.prog 175 ps p :=
  ret_run Try.func175 rfl (by kernel_rfl) rfl (by kernel_rfl) (by kernel_rfl) (by kernel_rfl) (by kernel_rfl) (Nat.le_of_ble_eq_true hn) h

/-- (stevedore/table.Table[stevedore/api.Bin]).Find -/
def c129 : C :=
  (.seq (.reg [⟨some 3, .box, [.t 0], none⟩,
  ⟨some 5, .box, [.t 2], none⟩,
  ⟨some 6, .mv, [.c (.p (.v (.int .i64 0)))], none⟩,
  ⟨some 7, .mv, [.c (.p (.v (.bool false)))], none⟩])
 (.seq (.seq (.reg [⟨some 9, .mv, [.t 1], none⟩,
  ⟨some 10, .mkf 165, [.t 3, .t 5], none⟩,
  ⟨some 11, .call 151, [.t 9, .t 10], none⟩,
  ⟨some 8, .mv, [.t 11], none⟩])
 (.seq (.reg [⟨some 12, .mv, [.t 8], none⟩,
  ⟨some 13, .bin .geq, [.t 12, .c (.p (.v (.int .i64 0)))], none⟩])
 (.cond (.t 13)
 (.seq (.reg [⟨some 14, .mv, [.t 8], none⟩,
  ⟨some 6, .mv, [.t 14], none⟩,
  ⟨some 7, .mv, [.c (.p (.v (.bool true)))], none⟩])
 .ret)
 .skip)))
 (.seq (.reg [⟨some 6, .mv, [.c (.p (.v (.int .i64 0)))], none⟩,
  ⟨some 7, .mv, [.c (.p (.v (.bool false)))], none⟩])
 .ret)))
theorem ret129 {ps : List PV} {p : PV} (hn : Nat.ble ps.length 15 = true) (h : (∀ q ∈ ps, q.bd) → Run Try.prog (fun e s' => (∀ id, e ≠ .exit id) ∧ ∃ ns, s'.out [.t 6, .t 7] = some (p, ns)) [] c129 (S (initL 0 ps) [])) : Ret Try.prog 129 ps p :=
  ret_run Try.func129 rfl (by kernel_rfl) rfl (by kernel_rfl) (by kernel_rfl) (by kernel_rfl) (by kernel_rfl) (Nat.le_of_ble_eq_true hn) h

/-- (stevedore/table.Table[stevedore/api.Zone]).Find -/
def c156 : C :=
  (.seq (.reg [⟨some 3, .box, [.t 0], none⟩,
  ⟨some 5, .box, [.t 2], none⟩,
  ⟨some 6, .mv, [.c (.p (.v (.int .i64 0)))], none⟩,
  ⟨some 7, .mv, [.c (.p (.v (.bool false)))], none⟩])
 (.seq (.seq (.reg [⟨some 9, .mv, [.t 1], none⟩,
  ⟨some 10, .mkf 175, [.t 3, .t 5], none⟩,
  ⟨some 11, .call 159, [.t 9, .t 10], none⟩,
  ⟨some 8, .mv, [.t 11], none⟩])
 (.seq (.reg [⟨some 12, .mv, [.t 8], none⟩,
  ⟨some 13, .bin .geq, [.t 12, .c (.p (.v (.int .i64 0)))], none⟩])
 (.cond (.t 13)
 (.seq (.reg [⟨some 14, .mv, [.t 8], none⟩,
  ⟨some 6, .mv, [.t 14], none⟩,
  ⟨some 7, .mv, [.c (.p (.v (.bool true)))], none⟩])
 .ret)
 .skip)))
 (.seq (.reg [⟨some 6, .mv, [.c (.p (.v (.int .i64 0)))], none⟩,
  ⟨some 7, .mv, [.c (.p (.v (.bool false)))], none⟩])
 .ret)))
theorem ret156 {ps : List PV} {p : PV} (hn : Nat.ble ps.length 15 = true) (h : (∀ q ∈ ps, q.bd) → Run Try.prog (fun e s' => (∀ id, e ≠ .exit id) ∧ ∃ ns, s'.out [.t 6, .t 7] = some (p, ns)) [] c156 (S (initL 0 ps) [])) : Ret Try.prog 156 ps p :=
  ret_run Try.func156 rfl (by kernel_rfl) rfl (by kernel_rfl) (by kernel_rfl) (by kernel_rfl) (by kernel_rfl) (Nat.le_of_ble_eq_true hn) h

/-- stevedore/stevedorerows.Texts -/
def c170 : C :=
  (.seq (.reg [⟨some 4, .mv, [.c (.p (.v (.int .i64 0)))], none⟩])
 (.seq (.seq (.reg [⟨some 5, .mv, [.c (.p (.v (.int .i64 0)))], none⟩])
 (.block 0
 (.loop
 (.seq (.seq (.reg [⟨some 6, .mv, [.t 5], none⟩,
  ⟨some 7, .mv, [.t 0], none⟩,
  ⟨some 8, .len 0, [.t 7], none⟩,
  ⟨some 9, .bin .lss, [.t 6, .t 8], none⟩])
 (.cond (.t 9)
 .skip
 (.exit 0)))
 (.seq (.block 1
 (.seq (.seq (.regd [⟨some 12, .mv, [.t 0], none⟩,
  ⟨some 13, .mv, [.t 5], none⟩,
  ⟨some 14, .iad 1, [.t 12, .t 13], none⟩,
  ⟨some 15, .load 1 false, [.t 14], none⟩,
  ⟨some 16, .mv, [.t 1], none⟩,
  ⟨some 17, .mv, [.t 5], none⟩,
  ⟨some 18, .iad 1, [.t 16, .t 17], none⟩,
  ⟨some 19, .load 1 false, [.t 18], none⟩,
  ⟨some 20, .bin .lss, [.t 15, .t 19], none⟩])
 (.cond (.t 20)
 (.seq (.reg [⟨some 4, .mv, [.c (.p (.v (.int .i64 (-1))))], none⟩])
 .ret)
 .skip))
 (.seq (.regd [⟨some 21, .mv, [.t 0], none⟩,
  ⟨some 22, .mv, [.t 5], none⟩,
  ⟨some 23, .iad 1, [.t 21, .t 22], none⟩,
  ⟨some 24, .load 1 false, [.t 23], none⟩,
  ⟨some 25, .mv, [.t 1], none⟩,
  ⟨some 26, .mv, [.t 5], none⟩,
  ⟨some 27, .iad 1, [.t 25, .t 26], none⟩,
  ⟨some 28, .load 1 false, [.t 27], none⟩,
  ⟨some 29, .bin .gtr, [.t 24, .t 28], none⟩])
 (.cond (.t 29)
 (.seq (.reg [⟨some 4, .mv, [.c (.p (.v (.int .i64 1)))], none⟩])
 .ret)
 .skip))))
 (.reg [⟨some 10, .mv, [.t 5], none⟩,
  ⟨some 11, .bin .add, [.t 10, .c (.p (.v (.int .i64 1)))], none⟩,
  ⟨some 5, .mv, [.t 11], none⟩]))))))
 (.seq (.reg [⟨some 4, .mv, [.c (.p (.v (.int .i64 0)))], none⟩])
 .ret)))
theorem ret170 {ps : List PV} {p : PV} (hn : Nat.ble ps.length 30 = true) (h : (∀ q ∈ ps, q.bd) → Run Try.prog (fun e s' => (∀ id, e ≠ .exit id) ∧ ∃ ns, s'.out [.t 4] = some (p, ns)) [] c170 (S (initL 0 ps) [])) : Ret Try.prog 170 ps p :=
  ret_run Try.func170 rfl (by kernel_rfl) rfl (by kernel_rfl) (by kernel_rfl) (by kernel_rfl) (by kernel_rfl) (Nat.le_of_ble_eq_true hn) h

/-- stevedore/stevedorerows.items -/
def c138 : C :=
  (.seq (.reg [⟨some 2, .box, [.t 0], none⟩,
  ⟨some 3, .box, [.t 1], none⟩,
  ⟨some 4, .mv, [.c (.p (.v (.int .i64 0)))], none⟩])
 (.seq (.reg [⟨some 5, .fad 0, [.t 2], none⟩,
  ⟨some 6, .load 1 false, [.t 5], none⟩,
  ⟨some 7, .bsl 9 1 1 [.v (.string ⟨#[]⟩)] [0], [.t 6], none⟩,
  ⟨some 8, .fad 0, [.t 3], none⟩,
  ⟨some 9, .load 1 false, [.t 8], none⟩,
  ⟨some 10, .bsl 9 1 1 [.v (.string ⟨#[]⟩)] [0], [.t 9], none⟩,
  ⟨some 11, .call 170, [.t 7, .t 10], none⟩,
  ⟨some 4, .mv, [.t 11], none⟩])
 .ret))
theorem ret138 {ps : List PV} {p : PV} (hn : Nat.ble ps.length 12 = true) (h : (∀ q ∈ ps, q.bd) → Run Try.prog (fun e s' => (∀ id, e ≠ .exit id) ∧ ∃ ns, s'.out [.t 4] = some (p, ns)) [] c138 (S (initL 0 ps) [])) : Ret Try.prog 138 ps p :=
  ret_run Try.func138 rfl (by kernel_rfl) rfl (by kernel_rfl) (by kernel_rfl) (by kernel_rfl) (by kernel_rfl) (Nat.le_of_ble_eq_true hn) h

/-- stevedore/stevedorerows.lots -/
def c147 : C :=
  (.seq (.reg [⟨some 2, .box, [.t 0], none⟩,
  ⟨some 3, .box, [.t 1], none⟩,
  ⟨some 4, .mv, [.c (.p (.v (.int .i64 0)))], none⟩])
 (.seq (.reg [⟨some 5, .fad 0, [.t 2], none⟩,
  ⟨some 6, .load 1 false, [.t 5], none⟩,
  ⟨some 7, .fad 1, [.t 2], none⟩,
  ⟨some 8, .load 1 false, [.t 7], none⟩,
  ⟨some 9, .bsl 9 1 2 [.v (.string ⟨#[]⟩)] [0, 1], [.t 6, .t 8], none⟩,
  ⟨some 10, .fad 0, [.t 3], none⟩,
  ⟨some 11, .load 1 false, [.t 10], none⟩,
  ⟨some 12, .fad 1, [.t 3], none⟩,
  ⟨some 13, .load 1 false, [.t 12], none⟩,
  ⟨some 14, .bsl 9 1 2 [.v (.string ⟨#[]⟩)] [0, 1], [.t 11, .t 13], none⟩,
  ⟨some 15, .call 170, [.t 9, .t 14], none⟩,
  ⟨some 4, .mv, [.t 15], none⟩])
 .ret))
theorem ret147 {ps : List PV} {p : PV} (hn : Nat.ble ps.length 16 = true) (h : (∀ q ∈ ps, q.bd) → Run Try.prog (fun e s' => (∀ id, e ≠ .exit id) ∧ ∃ ns, s'.out [.t 4] = some (p, ns)) [] c147 (S (initL 0 ps) [])) : Ret Try.prog 147 ps p :=
  ret_run Try.func147 rfl (by kernel_rfl) rfl (by kernel_rfl) (by kernel_rfl) (by kernel_rfl) (by kernel_rfl) (Nat.le_of_ble_eq_true hn) h

/-- stevedore/stevedorerows.bins -/
def c155 : C :=
  (.seq (.reg [⟨some 2, .box, [.t 0], none⟩,
  ⟨some 3, .box, [.t 1], none⟩,
  ⟨some 4, .mv, [.c (.p (.v (.int .i64 0)))], none⟩])
 (.seq (.reg [⟨some 5, .fad 0, [.t 2], none⟩,
  ⟨some 6, .load 1 false, [.t 5], none⟩,
  ⟨some 7, .bsl 9 1 1 [.v (.string ⟨#[]⟩)] [0], [.t 6], none⟩,
  ⟨some 8, .fad 0, [.t 3], none⟩,
  ⟨some 9, .load 1 false, [.t 8], none⟩,
  ⟨some 10, .bsl 9 1 1 [.v (.string ⟨#[]⟩)] [0], [.t 9], none⟩,
  ⟨some 11, .call 170, [.t 7, .t 10], none⟩,
  ⟨some 4, .mv, [.t 11], none⟩])
 .ret))
theorem ret155 {ps : List PV} {p : PV} (hn : Nat.ble ps.length 12 = true) (h : (∀ q ∈ ps, q.bd) → Run Try.prog (fun e s' => (∀ id, e ≠ .exit id) ∧ ∃ ns, s'.out [.t 4] = some (p, ns)) [] c155 (S (initL 0 ps) [])) : Ret Try.prog 155 ps p :=
  ret_run Try.func155 rfl (by kernel_rfl) rfl (by kernel_rfl) (by kernel_rfl) (by kernel_rfl) (by kernel_rfl) (Nat.le_of_ble_eq_true hn) h

/-- stevedore/stevedorerows.zones -/
def c163 : C :=
  (.seq (.reg [⟨some 2, .box, [.t 0], none⟩,
  ⟨some 3, .box, [.t 1], none⟩,
  ⟨some 4, .mv, [.c (.p (.v (.int .i64 0)))], none⟩])
 (.seq (.reg [⟨some 5, .fad 0, [.t 2], none⟩,
  ⟨some 6, .load 1 false, [.t 5], none⟩,
  ⟨some 7, .bsl 9 1 1 [.v (.string ⟨#[]⟩)] [0], [.t 6], none⟩,
  ⟨some 8, .fad 0, [.t 3], none⟩,
  ⟨some 9, .load 1 false, [.t 8], none⟩,
  ⟨some 10, .bsl 9 1 1 [.v (.string ⟨#[]⟩)] [0], [.t 9], none⟩,
  ⟨some 11, .call 170, [.t 7, .t 10], none⟩,
  ⟨some 4, .mv, [.t 11], none⟩])
 .ret))
theorem ret163 {ps : List PV} {p : PV} (hn : Nat.ble ps.length 12 = true) (h : (∀ q ∈ ps, q.bd) → Run Try.prog (fun e s' => (∀ id, e ≠ .exit id) ∧ ∃ ns, s'.out [.t 4] = some (p, ns)) [] c163 (S (initL 0 ps) [])) : Ret Try.prog 163 ps p :=
  ret_run Try.func163 rfl (by kernel_rfl) rfl (by kernel_rfl) (by kernel_rfl) (by kernel_rfl) (by kernel_rfl) (Nat.le_of_ble_eq_true hn) h

/-- stevedore/rows.Bins$1 -/
def c149 : C :=
  (.seq (.reg [⟨some 2, .box, [.t 0], none⟩,
  ⟨some 3, .box, [.t 1], none⟩,
  ⟨some 4, .mv, [.c (.p (.v (.int .i64 0)))], none⟩])
 (.seq (.reg [⟨some 5, .fad 0, [.t 2], none⟩,
  ⟨some 6, .load 1 false, [.t 5], none⟩,
  ⟨some 7, .fad 0, [.t 3], none⟩,
  ⟨some 8, .load 1 false, [.t 7], none⟩,
  ⟨some 9, .call 132, [.t 6, .t 8], none⟩,
  ⟨some 4, .mv, [.t 9], none⟩])
 .ret))
theorem ret149 {ps : List PV} {p : PV} (hn : Nat.ble ps.length 10 = true) (h : (∀ q ∈ ps, q.bd) → Run Try.prog (fun e s' => (∀ id, e ≠ .exit id) ∧ ∃ ns, s'.out [.t 4] = some (p, ns)) [] c149 (S (initL 0 ps) [])) : Ret Try.prog 149 ps p :=
  ret_run Try.func149 rfl (by kernel_rfl) rfl (by kernel_rfl) (by kernel_rfl) (by kernel_rfl) (by kernel_rfl) (Nat.le_of_ble_eq_true hn) h

/-- stevedore/rows.Zones$1 -/
def c157 : C :=
  (.seq (.reg [⟨some 2, .box, [.t 0], none⟩,
  ⟨some 3, .box, [.t 1], none⟩,
  ⟨some 4, .mv, [.c (.p (.v (.int .i64 0)))], none⟩])
 (.seq (.reg [⟨some 5, .fad 0, [.t 2], none⟩,
  ⟨some 6, .load 1 false, [.t 5], none⟩,
  ⟨some 7, .fad 0, [.t 3], none⟩,
  ⟨some 8, .load 1 false, [.t 7], none⟩,
  ⟨some 9, .call 132, [.t 6, .t 8], none⟩,
  ⟨some 4, .mv, [.t 9], none⟩])
 .ret))
theorem ret157 {ps : List PV} {p : PV} (hn : Nat.ble ps.length 10 = true) (h : (∀ q ∈ ps, q.bd) → Run Try.prog (fun e s' => (∀ id, e ≠ .exit id) ∧ ∃ ns, s'.out [.t 4] = some (p, ns)) [] c157 (S (initL 0 ps) [])) : Ret Try.prog 157 ps p :=
  ret_run Try.func157 rfl (by kernel_rfl) rfl (by kernel_rfl) (by kernel_rfl) (by kernel_rfl) (by kernel_rfl) (Nat.le_of_ble_eq_true hn) h

/-- stevedore/rows.Bins -/
def c121 : C :=
  (.seq (.reg [⟨some 0, .alloc [.v (.nilFunc)], [], none⟩])
 (.seq (.reg [⟨some 1, .build [.v (.nilFunc)] [(0, 1)], [.c (.p (.clo 149 []))], none⟩,
  ⟨none, .store 1, [.t 0, .t 1], none⟩])
 .ret))
theorem ret121 {ps : List PV} {p : PV} (hn : Nat.ble ps.length 2 = true) (h : (∀ q ∈ ps, q.bd) → Run Try.prog (fun e s' => (∀ id, e ≠ .exit id) ∧ ∃ ns, s'.out [.c 0 1 true] = some (p, ns)) [] c121 (S (initL 0 ps) [])) : Ret Try.prog 121 ps p :=
  ret_run Try.func121 rfl (by kernel_rfl) rfl (by kernel_rfl) (by kernel_rfl) (by kernel_rfl) (by kernel_rfl) (Nat.le_of_ble_eq_true hn) h

/-- stevedore/rows.Zones -/
def c125 : C :=
  (.seq (.reg [⟨some 0, .alloc [.v (.nilFunc)], [], none⟩])
 (.seq (.reg [⟨some 1, .build [.v (.nilFunc)] [(0, 1)], [.c (.p (.clo 157 []))], none⟩,
  ⟨none, .store 1, [.t 0, .t 1], none⟩])
 .ret))
theorem ret125 {ps : List PV} {p : PV} (hn : Nat.ble ps.length 2 = true) (h : (∀ q ∈ ps, q.bd) → Run Try.prog (fun e s' => (∀ id, e ≠ .exit id) ∧ ∃ ns, s'.out [.c 0 1 true] = some (p, ns)) [] c125 (S (initL 0 ps) [])) : Ret Try.prog 125 ps p :=
  ret_run Try.func125 rfl (by kernel_rfl) rfl (by kernel_rfl) (by kernel_rfl) (by kernel_rfl) (by kernel_rfl) (Nat.le_of_ble_eq_true hn) h

/-- stevedore/stevedorerows.put[stevedore/api.Item] -/
def c137 : C :=
  (.seq (.reg [⟨some 4, .box, [.t 1], none⟩,
  ⟨some 6, .mv, [.c .nil], none⟩])
 (.seq (.reg [⟨some 7, .mv, [.c .nil], none⟩])
 (.seq (.seq (.reg [⟨some 8, .mv, [.c (.p (.v (.int .i64 0)))], none⟩])
 (.block 0
 (.loop
 (.seq (.seq (.reg [⟨some 11, .mv, [.t 8], none⟩,
  ⟨some 12, .mv, [.t 0], none⟩,
  ⟨some 13, .len 0, [.t 12], none⟩,
  ⟨some 14, .bin .lss, [.t 11, .t 13], none⟩])
 (.cond (.t 14)
 .skip
 (.exit 0)))
 (.seq (.block 1
 (.seq (.regd [⟨some 17, .mv, [.t 2], none⟩,
  ⟨some 18, .mv, [.t 0], none⟩,
  ⟨some 19, .mv, [.t 8], none⟩,
  ⟨some 20, .iad 14, [.t 18, .t 19], none⟩,
  ⟨some 21, .load 14 true, [.t 20], none⟩,
  ⟨some 22, .load 14 true, [.t 4], none⟩,
  ⟨some 23, .callv, [.t 17, .t 21, .t 22], none⟩,
  ⟨some 24, .bin .eql, [.t 23, .c (.p (.v (.int .i64 0)))], none⟩])
 (.cond (.t 24)
 (.seq (.reg [⟨some 25, .mv, [.t 7], none⟩,
  ⟨some 26, .mv, [.t 0], none⟩,
  ⟨some 27, .app 46 14 136, [.t 25, .t 26], none⟩,
  ⟨some 7, .mv, [.t 27], none⟩])
 (.seq (.reg [⟨some 28, .mv, [.t 7], none⟩,
  ⟨some 29, .mv, [.t 8], none⟩,
  ⟨some 30, .load 14 true, [.t 4], none⟩,
  ⟨some 31, .iad 14, [.t 28, .t 29], none⟩,
  ⟨none, .store 14, [.t 31, .t 30], none⟩])
 (.seq (.reg [⟨some 32, .mv, [.t 7], none⟩,
  ⟨some 6, .mv, [.t 32], none⟩])
 .ret)))
 .skip)))
 (.reg [⟨some 15, .mv, [.t 8], none⟩,
  ⟨some 16, .bin .add, [.t 15, .c (.p (.v (.int .i64 1)))], none⟩,
  ⟨some 8, .mv, [.t 16], none⟩]))))))
 (.seq (.reg [⟨some 9, .mv, [.c (.p (.v (.bool false)))], none⟩])
 (.seq (.seq (.reg [⟨some 10, .mv, [.c (.p (.v (.int .i64 0)))], none⟩])
 (.block 2
 (.loop
 (.seq (.seq (.reg [⟨some 33, .mv, [.t 10], none⟩,
  ⟨some 34, .mv, [.t 0], none⟩,
  ⟨some 35, .len 0, [.t 34], none⟩,
  ⟨some 36, .bin .lss, [.t 33, .t 35], none⟩])
 (.cond (.t 36)
 .skip
 (.exit 2)))
 (.seq (.block 3
 (.seq (.seq (.regd [⟨some 39, .mv, [.t 9], none⟩,
  ⟨some 40, .un .not, [.t 39], none⟩,
  ⟨some 41, .mv, [.t 40], none⟩,
  ⟨some 42, .mv, [.t 2], some (41, true)⟩,
  ⟨some 43, .mv, [.t 0], some (41, true)⟩,
  ⟨some 44, .mv, [.t 10], some (41, true)⟩,
  ⟨some 45, .iad 14, [.t 43, .t 44], some (41, true)⟩,
  ⟨some 46, .load 14 true, [.t 45], some (41, true)⟩,
  ⟨some 47, .load 14 true, [.t 4], some (41, true)⟩,
  ⟨some 48, .callv, [.t 42, .t 46, .t 47], some (41, true)⟩,
  ⟨some 49, .bin .gtr, [.t 48, .c (.p (.v (.int .i64 0)))], some (41, true)⟩,
  ⟨some 50, .pick, [.t 41, .t 49, .c (.p (.v (.bool false)))], none⟩])
 (.cond (.t 50)
 (.seq (.reg [⟨some 51, .mv, [.t 7], none⟩,
  ⟨some 52, .load 14 true, [.t 4], none⟩,
  ⟨some 53, .bsl 46 14 1 [.v (.string ⟨#[]⟩), .v (.string ⟨#[]⟩), .v (.int .i64 0), .v (.string ⟨#[]⟩), .v (.int .i64 0), .v (.string ⟨#[]⟩), .v (.int .i64 0), .v (.string ⟨#[]⟩), .v (.int .i64 0), .v (.int .i64 0), .v (.int .i64 0), .v (.bool false), .v (.bool false), .v (.bool false)] [0], [.t 52], none⟩,
  ⟨some 54, .app 46 14 136, [.t 51, .t 53], none⟩,
  ⟨some 7, .mv, [.t 54], none⟩])
 (.reg [⟨some 9, .mv, [.c (.p (.v (.bool true)))], none⟩]))
 .skip))
 (.reg [⟨some 55, .mv, [.t 7], none⟩,
  ⟨some 56, .mv, [.t 0], none⟩,
  ⟨some 57, .mv, [.t 10], none⟩,
  ⟨some 58, .iad 14, [.t 56, .t 57], none⟩,
  ⟨some 59, .load 14 true, [.t 58], none⟩,
  ⟨some 60, .bsl 46 14 1 [.v (.string ⟨#[]⟩), .v (.string ⟨#[]⟩), .v (.int .i64 0), .v (.string ⟨#[]⟩), .v (.int .i64 0), .v (.string ⟨#[]⟩), .v (.int .i64 0), .v (.string ⟨#[]⟩), .v (.int .i64 0), .v (.int .i64 0), .v (.int .i64 0), .v (.bool false), .v (.bool false), .v (.bool false)] [0], [.t 59], none⟩,
  ⟨some 61, .app 46 14 136, [.t 55, .t 60], none⟩,
  ⟨some 7, .mv, [.t 61], none⟩])))
 (.reg [⟨some 37, .mv, [.t 10], none⟩,
  ⟨some 38, .bin .add, [.t 37, .c (.p (.v (.int .i64 1)))], none⟩,
  ⟨some 10, .mv, [.t 38], none⟩]))))))
 (.seq (.seq (.reg [⟨some 62, .mv, [.t 9], none⟩,
  ⟨some 63, .un .not, [.t 62], none⟩])
 (.cond (.t 63)
 (.reg [⟨some 64, .mv, [.t 7], none⟩,
  ⟨some 65, .load 14 true, [.t 4], none⟩,
  ⟨some 66, .bsl 46 14 1 [.v (.string ⟨#[]⟩), .v (.string ⟨#[]⟩), .v (.int .i64 0), .v (.string ⟨#[]⟩), .v (.int .i64 0), .v (.string ⟨#[]⟩), .v (.int .i64 0), .v (.string ⟨#[]⟩), .v (.int .i64 0), .v (.int .i64 0), .v (.int .i64 0), .v (.bool false), .v (.bool false), .v (.bool false)] [0], [.t 65], none⟩,
  ⟨some 67, .app 46 14 136, [.t 64, .t 66], none⟩,
  ⟨some 7, .mv, [.t 67], none⟩])
 .skip))
 (.seq (.reg [⟨some 68, .mv, [.t 7], none⟩,
  ⟨some 6, .mv, [.t 68], none⟩])
 .ret)))))))
theorem ret137 {ps : List PV} {p : PV} (hn : Nat.ble ps.length 69 = true) (h : (∀ q ∈ ps, q.bd) → Run Try.prog (fun e s' => (∀ id, e ≠ .exit id) ∧ ∃ ns, s'.out [.t 6] = some (p, ns)) [] c137 (S (initL 0 ps) [])) : Ret Try.prog 137 ps p :=
  ret_run Try.func137 rfl (by kernel_rfl) rfl (by kernel_rfl) (by kernel_rfl) (by kernel_rfl) (by kernel_rfl) (Nat.le_of_ble_eq_true hn) h

theorem row137 {ps : List PV} {ty es : Nat} {zs : List (List PV)} (hn : Nat.ble ps.length 69 = true) (h : (∀ q ∈ ps, q.bd) → Run Try.prog (fun e s' => (∀ id, e ≠ .exit id) ∧ ((s'.t 6 = .nil ∧ zs = []) ∨ ∃ n, s'.t 6 = .row n zs.length ∧ s'.o n = some (.row ty es zs false))) [] c137 (S (initL 0 ps) [])) : RetN Try.prog 137 ps ty es zs :=
  retN_run Try.func137 rfl (by kernel_rfl) rfl rfl (by decide) (by kernel_rfl) (by kernel_rfl) (by kernel_rfl) (Nat.le_of_ble_eq_true hn) h

/-- stevedore/stevedorerows.put[stevedore/api.Lot] -/
def c146 : C :=
  (.seq (.reg [⟨some 4, .box, [.t 1], none⟩,
  ⟨some 6, .mv, [.c .nil], none⟩])
 (.seq (.reg [⟨some 7, .mv, [.c .nil], none⟩])
 (.seq (.seq (.reg [⟨some 8, .mv, [.c (.p (.v (.int .i64 0)))], none⟩])
 (.block 0
 (.loop
 (.seq (.seq (.reg [⟨some 11, .mv, [.t 8], none⟩,
  ⟨some 12, .mv, [.t 0], none⟩,
  ⟨some 13, .len 0, [.t 12], none⟩,
  ⟨some 14, .bin .lss, [.t 11, .t 13], none⟩])
 (.cond (.t 14)
 .skip
 (.exit 0)))
 (.seq (.block 1
 (.seq (.regd [⟨some 17, .mv, [.t 2], none⟩,
  ⟨some 18, .mv, [.t 0], none⟩,
  ⟨some 19, .mv, [.t 8], none⟩,
  ⟨some 20, .iad 3, [.t 18, .t 19], none⟩,
  ⟨some 21, .load 3 true, [.t 20], none⟩,
  ⟨some 22, .load 3 true, [.t 4], none⟩,
  ⟨some 23, .callv, [.t 17, .t 21, .t 22], none⟩,
  ⟨some 24, .bin .eql, [.t 23, .c (.p (.v (.int .i64 0)))], none⟩])
 (.cond (.t 24)
 (.seq (.reg [⟨some 25, .mv, [.t 7], none⟩,
  ⟨some 26, .mv, [.t 0], none⟩,
  ⟨some 27, .app 54 3 40, [.t 25, .t 26], none⟩,
  ⟨some 7, .mv, [.t 27], none⟩])
 (.seq (.reg [⟨some 28, .mv, [.t 7], none⟩,
  ⟨some 29, .mv, [.t 8], none⟩,
  ⟨some 30, .load 3 true, [.t 4], none⟩,
  ⟨some 31, .iad 3, [.t 28, .t 29], none⟩,
  ⟨none, .store 3, [.t 31, .t 30], none⟩])
 (.seq (.reg [⟨some 32, .mv, [.t 7], none⟩,
  ⟨some 6, .mv, [.t 32], none⟩])
 .ret)))
 .skip)))
 (.reg [⟨some 15, .mv, [.t 8], none⟩,
  ⟨some 16, .bin .add, [.t 15, .c (.p (.v (.int .i64 1)))], none⟩,
  ⟨some 8, .mv, [.t 16], none⟩]))))))
 (.seq (.reg [⟨some 9, .mv, [.c (.p (.v (.bool false)))], none⟩])
 (.seq (.seq (.reg [⟨some 10, .mv, [.c (.p (.v (.int .i64 0)))], none⟩])
 (.block 2
 (.loop
 (.seq (.seq (.reg [⟨some 33, .mv, [.t 10], none⟩,
  ⟨some 34, .mv, [.t 0], none⟩,
  ⟨some 35, .len 0, [.t 34], none⟩,
  ⟨some 36, .bin .lss, [.t 33, .t 35], none⟩])
 (.cond (.t 36)
 .skip
 (.exit 2)))
 (.seq (.block 3
 (.seq (.seq (.regd [⟨some 39, .mv, [.t 9], none⟩,
  ⟨some 40, .un .not, [.t 39], none⟩,
  ⟨some 41, .mv, [.t 40], none⟩,
  ⟨some 42, .mv, [.t 2], some (41, true)⟩,
  ⟨some 43, .mv, [.t 0], some (41, true)⟩,
  ⟨some 44, .mv, [.t 10], some (41, true)⟩,
  ⟨some 45, .iad 3, [.t 43, .t 44], some (41, true)⟩,
  ⟨some 46, .load 3 true, [.t 45], some (41, true)⟩,
  ⟨some 47, .load 3 true, [.t 4], some (41, true)⟩,
  ⟨some 48, .callv, [.t 42, .t 46, .t 47], some (41, true)⟩,
  ⟨some 49, .bin .gtr, [.t 48, .c (.p (.v (.int .i64 0)))], some (41, true)⟩,
  ⟨some 50, .pick, [.t 41, .t 49, .c (.p (.v (.bool false)))], none⟩])
 (.cond (.t 50)
 (.seq (.reg [⟨some 51, .mv, [.t 7], none⟩,
  ⟨some 52, .load 3 true, [.t 4], none⟩,
  ⟨some 53, .bsl 54 3 1 [.v (.string ⟨#[]⟩), .v (.string ⟨#[]⟩), .v (.int .i64 0)] [0], [.t 52], none⟩,
  ⟨some 54, .app 54 3 40, [.t 51, .t 53], none⟩,
  ⟨some 7, .mv, [.t 54], none⟩])
 (.reg [⟨some 9, .mv, [.c (.p (.v (.bool true)))], none⟩]))
 .skip))
 (.reg [⟨some 55, .mv, [.t 7], none⟩,
  ⟨some 56, .mv, [.t 0], none⟩,
  ⟨some 57, .mv, [.t 10], none⟩,
  ⟨some 58, .iad 3, [.t 56, .t 57], none⟩,
  ⟨some 59, .load 3 true, [.t 58], none⟩,
  ⟨some 60, .bsl 54 3 1 [.v (.string ⟨#[]⟩), .v (.string ⟨#[]⟩), .v (.int .i64 0)] [0], [.t 59], none⟩,
  ⟨some 61, .app 54 3 40, [.t 55, .t 60], none⟩,
  ⟨some 7, .mv, [.t 61], none⟩])))
 (.reg [⟨some 37, .mv, [.t 10], none⟩,
  ⟨some 38, .bin .add, [.t 37, .c (.p (.v (.int .i64 1)))], none⟩,
  ⟨some 10, .mv, [.t 38], none⟩]))))))
 (.seq (.seq (.reg [⟨some 62, .mv, [.t 9], none⟩,
  ⟨some 63, .un .not, [.t 62], none⟩])
 (.cond (.t 63)
 (.reg [⟨some 64, .mv, [.t 7], none⟩,
  ⟨some 65, .load 3 true, [.t 4], none⟩,
  ⟨some 66, .bsl 54 3 1 [.v (.string ⟨#[]⟩), .v (.string ⟨#[]⟩), .v (.int .i64 0)] [0], [.t 65], none⟩,
  ⟨some 67, .app 54 3 40, [.t 64, .t 66], none⟩,
  ⟨some 7, .mv, [.t 67], none⟩])
 .skip))
 (.seq (.reg [⟨some 68, .mv, [.t 7], none⟩,
  ⟨some 6, .mv, [.t 68], none⟩])
 .ret)))))))
theorem ret146 {ps : List PV} {p : PV} (hn : Nat.ble ps.length 69 = true) (h : (∀ q ∈ ps, q.bd) → Run Try.prog (fun e s' => (∀ id, e ≠ .exit id) ∧ ∃ ns, s'.out [.t 6] = some (p, ns)) [] c146 (S (initL 0 ps) [])) : Ret Try.prog 146 ps p :=
  ret_run Try.func146 rfl (by kernel_rfl) rfl (by kernel_rfl) (by kernel_rfl) (by kernel_rfl) (by kernel_rfl) (Nat.le_of_ble_eq_true hn) h

theorem row146 {ps : List PV} {ty es : Nat} {zs : List (List PV)} (hn : Nat.ble ps.length 69 = true) (h : (∀ q ∈ ps, q.bd) → Run Try.prog (fun e s' => (∀ id, e ≠ .exit id) ∧ ((s'.t 6 = .nil ∧ zs = []) ∨ ∃ n, s'.t 6 = .row n zs.length ∧ s'.o n = some (.row ty es zs false))) [] c146 (S (initL 0 ps) [])) : RetN Try.prog 146 ps ty es zs :=
  retN_run Try.func146 rfl (by kernel_rfl) rfl rfl (by decide) (by kernel_rfl) (by kernel_rfl) (by kernel_rfl) (Nat.le_of_ble_eq_true hn) h

/-- stevedore/stevedorerows.put[stevedore/api.Bin] -/
def c154 : C :=
  (.seq (.reg [⟨some 4, .box, [.t 1], none⟩,
  ⟨some 6, .mv, [.c .nil], none⟩])
 (.seq (.reg [⟨some 7, .mv, [.c .nil], none⟩])
 (.seq (.seq (.reg [⟨some 8, .mv, [.c (.p (.v (.int .i64 0)))], none⟩])
 (.block 0
 (.loop
 (.seq (.seq (.reg [⟨some 11, .mv, [.t 8], none⟩,
  ⟨some 12, .mv, [.t 0], none⟩,
  ⟨some 13, .len 0, [.t 12], none⟩,
  ⟨some 14, .bin .lss, [.t 11, .t 13], none⟩])
 (.cond (.t 14)
 .skip
 (.exit 0)))
 (.seq (.block 1
 (.seq (.regd [⟨some 17, .mv, [.t 2], none⟩,
  ⟨some 18, .mv, [.t 0], none⟩,
  ⟨some 19, .mv, [.t 8], none⟩,
  ⟨some 20, .iad 8, [.t 18, .t 19], none⟩,
  ⟨some 21, .load 8 true, [.t 20], none⟩,
  ⟨some 22, .load 8 true, [.t 4], none⟩,
  ⟨some 23, .callv, [.t 17, .t 21, .t 22], none⟩,
  ⟨some 24, .bin .eql, [.t 23, .c (.p (.v (.int .i64 0)))], none⟩])
 (.cond (.t 24)
 (.seq (.reg [⟨some 25, .mv, [.t 7], none⟩,
  ⟨some 26, .mv, [.t 0], none⟩,
  ⟨some 27, .app 82 8 80, [.t 25, .t 26], none⟩,
  ⟨some 7, .mv, [.t 27], none⟩])
 (.seq (.reg [⟨some 28, .mv, [.t 7], none⟩,
  ⟨some 29, .mv, [.t 8], none⟩,
  ⟨some 30, .load 8 true, [.t 4], none⟩,
  ⟨some 31, .iad 8, [.t 28, .t 29], none⟩,
  ⟨none, .store 8, [.t 31, .t 30], none⟩])
 (.seq (.reg [⟨some 32, .mv, [.t 7], none⟩,
  ⟨some 6, .mv, [.t 32], none⟩])
 .ret)))
 .skip)))
 (.reg [⟨some 15, .mv, [.t 8], none⟩,
  ⟨some 16, .bin .add, [.t 15, .c (.p (.v (.int .i64 1)))], none⟩,
  ⟨some 8, .mv, [.t 16], none⟩]))))))
 (.seq (.reg [⟨some 9, .mv, [.c (.p (.v (.bool false)))], none⟩])
 (.seq (.seq (.reg [⟨some 10, .mv, [.c (.p (.v (.int .i64 0)))], none⟩])
 (.block 2
 (.loop
 (.seq (.seq (.reg [⟨some 33, .mv, [.t 10], none⟩,
  ⟨some 34, .mv, [.t 0], none⟩,
  ⟨some 35, .len 0, [.t 34], none⟩,
  ⟨some 36, .bin .lss, [.t 33, .t 35], none⟩])
 (.cond (.t 36)
 .skip
 (.exit 2)))
 (.seq (.block 3
 (.seq (.seq (.regd [⟨some 39, .mv, [.t 9], none⟩,
  ⟨some 40, .un .not, [.t 39], none⟩,
  ⟨some 41, .mv, [.t 40], none⟩,
  ⟨some 42, .mv, [.t 2], some (41, true)⟩,
  ⟨some 43, .mv, [.t 0], some (41, true)⟩,
  ⟨some 44, .mv, [.t 10], some (41, true)⟩,
  ⟨some 45, .iad 8, [.t 43, .t 44], some (41, true)⟩,
  ⟨some 46, .load 8 true, [.t 45], some (41, true)⟩,
  ⟨some 47, .load 8 true, [.t 4], some (41, true)⟩,
  ⟨some 48, .callv, [.t 42, .t 46, .t 47], some (41, true)⟩,
  ⟨some 49, .bin .gtr, [.t 48, .c (.p (.v (.int .i64 0)))], some (41, true)⟩,
  ⟨some 50, .pick, [.t 41, .t 49, .c (.p (.v (.bool false)))], none⟩])
 (.cond (.t 50)
 (.seq (.reg [⟨some 51, .mv, [.t 7], none⟩,
  ⟨some 52, .load 8 true, [.t 4], none⟩,
  ⟨some 53, .bsl 82 8 1 [.v (.string ⟨#[]⟩), .v (.string ⟨#[]⟩), .v (.int .i64 0), .v (.int .i64 0), .v (.int .i64 0), .v (.int .i64 0), .v (.int .i64 0), .v (.bool false)] [0], [.t 52], none⟩,
  ⟨some 54, .app 82 8 80, [.t 51, .t 53], none⟩,
  ⟨some 7, .mv, [.t 54], none⟩])
 (.reg [⟨some 9, .mv, [.c (.p (.v (.bool true)))], none⟩]))
 .skip))
 (.reg [⟨some 55, .mv, [.t 7], none⟩,
  ⟨some 56, .mv, [.t 0], none⟩,
  ⟨some 57, .mv, [.t 10], none⟩,
  ⟨some 58, .iad 8, [.t 56, .t 57], none⟩,
  ⟨some 59, .load 8 true, [.t 58], none⟩,
  ⟨some 60, .bsl 82 8 1 [.v (.string ⟨#[]⟩), .v (.string ⟨#[]⟩), .v (.int .i64 0), .v (.int .i64 0), .v (.int .i64 0), .v (.int .i64 0), .v (.int .i64 0), .v (.bool false)] [0], [.t 59], none⟩,
  ⟨some 61, .app 82 8 80, [.t 55, .t 60], none⟩,
  ⟨some 7, .mv, [.t 61], none⟩])))
 (.reg [⟨some 37, .mv, [.t 10], none⟩,
  ⟨some 38, .bin .add, [.t 37, .c (.p (.v (.int .i64 1)))], none⟩,
  ⟨some 10, .mv, [.t 38], none⟩]))))))
 (.seq (.seq (.reg [⟨some 62, .mv, [.t 9], none⟩,
  ⟨some 63, .un .not, [.t 62], none⟩])
 (.cond (.t 63)
 (.reg [⟨some 64, .mv, [.t 7], none⟩,
  ⟨some 65, .load 8 true, [.t 4], none⟩,
  ⟨some 66, .bsl 82 8 1 [.v (.string ⟨#[]⟩), .v (.string ⟨#[]⟩), .v (.int .i64 0), .v (.int .i64 0), .v (.int .i64 0), .v (.int .i64 0), .v (.int .i64 0), .v (.bool false)] [0], [.t 65], none⟩,
  ⟨some 67, .app 82 8 80, [.t 64, .t 66], none⟩,
  ⟨some 7, .mv, [.t 67], none⟩])
 .skip))
 (.seq (.reg [⟨some 68, .mv, [.t 7], none⟩,
  ⟨some 6, .mv, [.t 68], none⟩])
 .ret)))))))
theorem ret154 {ps : List PV} {p : PV} (hn : Nat.ble ps.length 69 = true) (h : (∀ q ∈ ps, q.bd) → Run Try.prog (fun e s' => (∀ id, e ≠ .exit id) ∧ ∃ ns, s'.out [.t 6] = some (p, ns)) [] c154 (S (initL 0 ps) [])) : Ret Try.prog 154 ps p :=
  ret_run Try.func154 rfl (by kernel_rfl) rfl (by kernel_rfl) (by kernel_rfl) (by kernel_rfl) (by kernel_rfl) (Nat.le_of_ble_eq_true hn) h

theorem row154 {ps : List PV} {ty es : Nat} {zs : List (List PV)} (hn : Nat.ble ps.length 69 = true) (h : (∀ q ∈ ps, q.bd) → Run Try.prog (fun e s' => (∀ id, e ≠ .exit id) ∧ ((s'.t 6 = .nil ∧ zs = []) ∨ ∃ n, s'.t 6 = .row n zs.length ∧ s'.o n = some (.row ty es zs false))) [] c154 (S (initL 0 ps) [])) : RetN Try.prog 154 ps ty es zs :=
  retN_run Try.func154 rfl (by kernel_rfl) rfl rfl (by decide) (by kernel_rfl) (by kernel_rfl) (by kernel_rfl) (Nat.le_of_ble_eq_true hn) h

/-- stevedore/stevedorerows.put[stevedore/api.Zone] -/
def c162 : C :=
  (.seq (.reg [⟨some 4, .box, [.t 1], none⟩,
  ⟨some 6, .mv, [.c .nil], none⟩])
 (.seq (.reg [⟨some 7, .mv, [.c .nil], none⟩])
 (.seq (.seq (.reg [⟨some 8, .mv, [.c (.p (.v (.int .i64 0)))], none⟩])
 (.block 0
 (.loop
 (.seq (.seq (.reg [⟨some 11, .mv, [.t 8], none⟩,
  ⟨some 12, .mv, [.t 0], none⟩,
  ⟨some 13, .len 0, [.t 12], none⟩,
  ⟨some 14, .bin .lss, [.t 11, .t 13], none⟩])
 (.cond (.t 14)
 .skip
 (.exit 0)))
 (.seq (.block 1
 (.seq (.regd [⟨some 17, .mv, [.t 2], none⟩,
  ⟨some 18, .mv, [.t 0], none⟩,
  ⟨some 19, .mv, [.t 8], none⟩,
  ⟨some 20, .iad 2, [.t 18, .t 19], none⟩,
  ⟨some 21, .load 2 true, [.t 20], none⟩,
  ⟨some 22, .load 2 true, [.t 4], none⟩,
  ⟨some 23, .callv, [.t 17, .t 21, .t 22], none⟩,
  ⟨some 24, .bin .eql, [.t 23, .c (.p (.v (.int .i64 0)))], none⟩])
 (.cond (.t 24)
 (.seq (.reg [⟨some 25, .mv, [.t 7], none⟩,
  ⟨some 26, .mv, [.t 0], none⟩,
  ⟨some 27, .app 84 2 32, [.t 25, .t 26], none⟩,
  ⟨some 7, .mv, [.t 27], none⟩])
 (.seq (.reg [⟨some 28, .mv, [.t 7], none⟩,
  ⟨some 29, .mv, [.t 8], none⟩,
  ⟨some 30, .load 2 true, [.t 4], none⟩,
  ⟨some 31, .iad 2, [.t 28, .t 29], none⟩,
  ⟨none, .store 2, [.t 31, .t 30], none⟩])
 (.seq (.reg [⟨some 32, .mv, [.t 7], none⟩,
  ⟨some 6, .mv, [.t 32], none⟩])
 .ret)))
 .skip)))
 (.reg [⟨some 15, .mv, [.t 8], none⟩,
  ⟨some 16, .bin .add, [.t 15, .c (.p (.v (.int .i64 1)))], none⟩,
  ⟨some 8, .mv, [.t 16], none⟩]))))))
 (.seq (.reg [⟨some 9, .mv, [.c (.p (.v (.bool false)))], none⟩])
 (.seq (.seq (.reg [⟨some 10, .mv, [.c (.p (.v (.int .i64 0)))], none⟩])
 (.block 2
 (.loop
 (.seq (.seq (.reg [⟨some 33, .mv, [.t 10], none⟩,
  ⟨some 34, .mv, [.t 0], none⟩,
  ⟨some 35, .len 0, [.t 34], none⟩,
  ⟨some 36, .bin .lss, [.t 33, .t 35], none⟩])
 (.cond (.t 36)
 .skip
 (.exit 2)))
 (.seq (.block 3
 (.seq (.seq (.regd [⟨some 39, .mv, [.t 9], none⟩,
  ⟨some 40, .un .not, [.t 39], none⟩,
  ⟨some 41, .mv, [.t 40], none⟩,
  ⟨some 42, .mv, [.t 2], some (41, true)⟩,
  ⟨some 43, .mv, [.t 0], some (41, true)⟩,
  ⟨some 44, .mv, [.t 10], some (41, true)⟩,
  ⟨some 45, .iad 2, [.t 43, .t 44], some (41, true)⟩,
  ⟨some 46, .load 2 true, [.t 45], some (41, true)⟩,
  ⟨some 47, .load 2 true, [.t 4], some (41, true)⟩,
  ⟨some 48, .callv, [.t 42, .t 46, .t 47], some (41, true)⟩,
  ⟨some 49, .bin .gtr, [.t 48, .c (.p (.v (.int .i64 0)))], some (41, true)⟩,
  ⟨some 50, .pick, [.t 41, .t 49, .c (.p (.v (.bool false)))], none⟩])
 (.cond (.t 50)
 (.seq (.reg [⟨some 51, .mv, [.t 7], none⟩,
  ⟨some 52, .load 2 true, [.t 4], none⟩,
  ⟨some 53, .bsl 84 2 1 [.v (.string ⟨#[]⟩), .v (.string ⟨#[]⟩)] [0], [.t 52], none⟩,
  ⟨some 54, .app 84 2 32, [.t 51, .t 53], none⟩,
  ⟨some 7, .mv, [.t 54], none⟩])
 (.reg [⟨some 9, .mv, [.c (.p (.v (.bool true)))], none⟩]))
 .skip))
 (.reg [⟨some 55, .mv, [.t 7], none⟩,
  ⟨some 56, .mv, [.t 0], none⟩,
  ⟨some 57, .mv, [.t 10], none⟩,
  ⟨some 58, .iad 2, [.t 56, .t 57], none⟩,
  ⟨some 59, .load 2 true, [.t 58], none⟩,
  ⟨some 60, .bsl 84 2 1 [.v (.string ⟨#[]⟩), .v (.string ⟨#[]⟩)] [0], [.t 59], none⟩,
  ⟨some 61, .app 84 2 32, [.t 55, .t 60], none⟩,
  ⟨some 7, .mv, [.t 61], none⟩])))
 (.reg [⟨some 37, .mv, [.t 10], none⟩,
  ⟨some 38, .bin .add, [.t 37, .c (.p (.v (.int .i64 1)))], none⟩,
  ⟨some 10, .mv, [.t 38], none⟩]))))))
 (.seq (.seq (.reg [⟨some 62, .mv, [.t 9], none⟩,
  ⟨some 63, .un .not, [.t 62], none⟩])
 (.cond (.t 63)
 (.reg [⟨some 64, .mv, [.t 7], none⟩,
  ⟨some 65, .load 2 true, [.t 4], none⟩,
  ⟨some 66, .bsl 84 2 1 [.v (.string ⟨#[]⟩), .v (.string ⟨#[]⟩)] [0], [.t 65], none⟩,
  ⟨some 67, .app 84 2 32, [.t 64, .t 66], none⟩,
  ⟨some 7, .mv, [.t 67], none⟩])
 .skip))
 (.seq (.reg [⟨some 68, .mv, [.t 7], none⟩,
  ⟨some 6, .mv, [.t 68], none⟩])
 .ret)))))))
theorem ret162 {ps : List PV} {p : PV} (hn : Nat.ble ps.length 69 = true) (h : (∀ q ∈ ps, q.bd) → Run Try.prog (fun e s' => (∀ id, e ≠ .exit id) ∧ ∃ ns, s'.out [.t 6] = some (p, ns)) [] c162 (S (initL 0 ps) [])) : Ret Try.prog 162 ps p :=
  ret_run Try.func162 rfl (by kernel_rfl) rfl (by kernel_rfl) (by kernel_rfl) (by kernel_rfl) (by kernel_rfl) (Nat.le_of_ble_eq_true hn) h

theorem row162 {ps : List PV} {ty es : Nat} {zs : List (List PV)} (hn : Nat.ble ps.length 69 = true) (h : (∀ q ∈ ps, q.bd) → Run Try.prog (fun e s' => (∀ id, e ≠ .exit id) ∧ ((s'.t 6 = .nil ∧ zs = []) ∨ ∃ n, s'.t 6 = .row n zs.length ∧ s'.o n = some (.row ty es zs false))) [] c162 (S (initL 0 ps) [])) : RetN Try.prog 162 ps ty es zs :=
  retN_run Try.func162 rfl (by kernel_rfl) rfl rfl (by decide) (by kernel_rfl) (by kernel_rfl) (by kernel_rfl) (Nat.le_of_ble_eq_true hn) h

/-- stevedore/stevedorerows.Item -/
def c90 : C :=
  (.seq (.reg [⟨some 2, .box, [.t 0], none⟩,
  ⟨some 3, .box, [.t 1], none⟩,
  ⟨some 4, .alloc [.sl [] [], .sl [] [], .sl [] [], .sl [] [], .sl [] [], .sl [] [], .sl [] [], .sl [] [], .sl [] [], .sl [] [], .sl [] [], .sl [] [], .sl [] [], .sl [] [], .v (.int .i64 0)], [], none⟩])
 (.seq (.reg [⟨some 5, .fad 0, [.t 2], none⟩,
  ⟨some 6, .load 1 false, [.t 5], none⟩,
  ⟨some 7, .load 14 true, [.t 3], none⟩,
  ⟨some 8, .call 137, [.t 6, .t 7, .c (.p (.clo 138 []))], none⟩,
  ⟨some 9, .fad 0, [.t 2], none⟩,
  ⟨none, .store 1, [.t 9, .t 8], none⟩])
 (.seq (.reg [⟨some 10, .load 15 true, [.t 2], none⟩,
  ⟨none, .store 15, [.t 4, .t 10], none⟩])
 .ret)))
theorem ret90 {ps : List PV} {p : PV} (hn : Nat.ble ps.length 11 = true) (h : (∀ q ∈ ps, q.bd) → Run Try.prog (fun e s' => (∀ id, e ≠ .exit id) ∧ ∃ ns, s'.out [.c 4 15 true] = some (p, ns)) [] c90 (S (initL 0 ps) [])) : Ret Try.prog 90 ps p :=
  ret_run Try.func90 rfl (by kernel_rfl) rfl (by kernel_rfl) (by kernel_rfl) (by kernel_rfl) (by kernel_rfl) (Nat.le_of_ble_eq_true hn) h

/-- stevedore/stevedorerows.Lot -/
def c113 : C :=
  (.seq (.reg [⟨some 2, .box, [.t 0], none⟩,
  ⟨some 3, .box, [.t 1], none⟩,
  ⟨some 4, .alloc [.sl [] [], .sl [] [], .sl [] [], .sl [] [], .sl [] [], .sl [] [], .sl [] [], .sl [] [], .sl [] [], .sl [] [], .sl [] [], .sl [] [], .sl [] [], .sl [] [], .v (.int .i64 0)], [], none⟩])
 (.seq (.reg [⟨some 5, .fad 1, [.t 2], none⟩,
  ⟨some 6, .load 1 false, [.t 5], none⟩,
  ⟨some 7, .load 3 true, [.t 3], none⟩,
  ⟨some 8, .call 146, [.t 6, .t 7, .c (.p (.clo 147 []))], none⟩,
  ⟨some 9, .fad 1, [.t 2], none⟩,
  ⟨none, .store 1, [.t 9, .t 8], none⟩])
 (.seq (.reg [⟨some 10, .load 15 true, [.t 2], none⟩,
  ⟨none, .store 15, [.t 4, .t 10], none⟩])
 .ret)))
theorem ret113 {ps : List PV} {p : PV} (hn : Nat.ble ps.length 11 = true) (h : (∀ q ∈ ps, q.bd) → Run Try.prog (fun e s' => (∀ id, e ≠ .exit id) ∧ ∃ ns, s'.out [.c 4 15 true] = some (p, ns)) [] c113 (S (initL 0 ps) [])) : Ret Try.prog 113 ps p :=
  ret_run Try.func113 rfl (by kernel_rfl) rfl (by kernel_rfl) (by kernel_rfl) (by kernel_rfl) (by kernel_rfl) (Nat.le_of_ble_eq_true hn) h

/-- stevedore/stevedorerows.Bin -/
def c123 : C :=
  (.seq (.reg [⟨some 2, .box, [.t 0], none⟩,
  ⟨some 3, .box, [.t 1], none⟩,
  ⟨some 4, .alloc [.sl [] [], .sl [] [], .sl [] [], .sl [] [], .sl [] [], .sl [] [], .sl [] [], .sl [] [], .sl [] [], .sl [] [], .sl [] [], .sl [] [], .sl [] [], .sl [] [], .v (.int .i64 0)], [], none⟩])
 (.seq (.reg [⟨some 5, .fad 3, [.t 2], none⟩,
  ⟨some 6, .load 1 false, [.t 5], none⟩,
  ⟨some 7, .load 8 true, [.t 3], none⟩,
  ⟨some 8, .call 154, [.t 6, .t 7, .c (.p (.clo 155 []))], none⟩,
  ⟨some 9, .fad 3, [.t 2], none⟩,
  ⟨none, .store 1, [.t 9, .t 8], none⟩])
 (.seq (.reg [⟨some 10, .load 15 true, [.t 2], none⟩,
  ⟨none, .store 15, [.t 4, .t 10], none⟩])
 .ret)))
theorem ret123 {ps : List PV} {p : PV} (hn : Nat.ble ps.length 11 = true) (h : (∀ q ∈ ps, q.bd) → Run Try.prog (fun e s' => (∀ id, e ≠ .exit id) ∧ ∃ ns, s'.out [.c 4 15 true] = some (p, ns)) [] c123 (S (initL 0 ps) [])) : Ret Try.prog 123 ps p :=
  ret_run Try.func123 rfl (by kernel_rfl) rfl (by kernel_rfl) (by kernel_rfl) (by kernel_rfl) (by kernel_rfl) (Nat.le_of_ble_eq_true hn) h

/-- stevedore/stevedorerows.Zone -/
def c127 : C :=
  (.seq (.reg [⟨some 2, .box, [.t 0], none⟩,
  ⟨some 3, .box, [.t 1], none⟩,
  ⟨some 4, .alloc [.sl [] [], .sl [] [], .sl [] [], .sl [] [], .sl [] [], .sl [] [], .sl [] [], .sl [] [], .sl [] [], .sl [] [], .sl [] [], .sl [] [], .sl [] [], .sl [] [], .v (.int .i64 0)], [], none⟩])
 (.seq (.reg [⟨some 5, .fad 2, [.t 2], none⟩,
  ⟨some 6, .load 1 false, [.t 5], none⟩,
  ⟨some 7, .load 2 true, [.t 3], none⟩,
  ⟨some 8, .call 162, [.t 6, .t 7, .c (.p (.clo 163 []))], none⟩,
  ⟨some 9, .fad 2, [.t 2], none⟩,
  ⟨none, .store 1, [.t 9, .t 8], none⟩])
 (.seq (.reg [⟨some 10, .load 15 true, [.t 2], none⟩,
  ⟨none, .store 15, [.t 4, .t 10], none⟩])
 .ret)))
theorem ret127 {ps : List PV} {p : PV} (hn : Nat.ble ps.length 11 = true) (h : (∀ q ∈ ps, q.bd) → Run Try.prog (fun e s' => (∀ id, e ≠ .exit id) ∧ ∃ ns, s'.out [.c 4 15 true] = some (p, ns)) [] c127 (S (initL 0 ps) [])) : Ret Try.prog 127 ps p :=
  ret_run Try.func127 rfl (by kernel_rfl) rfl (by kernel_rfl) (by kernel_rfl) (by kernel_rfl) (by kernel_rfl) (Nat.le_of_ble_eq_true hn) h

/-- stevedore/layout.Find -/
def c63 : C :=
  (.seq (.reg [⟨some 2, .box, [.t 0], none⟩,
  ⟨some 4, .alloc [.v (.string ⟨#[]⟩), .v (.string ⟨#[]⟩), .v (.int .i64 0), .v (.int .i64 0), .v (.int .i64 0), .v (.int .i64 0), .v (.int .i64 0), .v (.bool false)], [], none⟩,
  ⟨some 5, .mv, [.c (.p (.v (.bool false)))], none⟩])
 (.seq (.seq (.regd [⟨some 9, .call 121, [], none⟩,
  ⟨some 10, .fad 3, [.t 2], none⟩,
  ⟨some 11, .load 1 false, [.t 10], none⟩,
  ⟨some 12, .mv, [.t 1], none⟩,
  ⟨some 13, .build [.v (.string ⟨#[]⟩), .v (.string ⟨#[]⟩), .v (.int .i64 0), .v (.int .i64 0), .v (.int .i64 0), .v (.int .i64 0), .v (.int .i64 0), .v (.bool false)] [(0, 1)], [.t 12], none⟩,
  ⟨some 14, .call 129, [.t 9, .t 11, .t 13], none⟩,
  ⟨some 8, .mv, [.t 14], none⟩,
  ⟨some 15, .ext 0, [.t 8], none⟩,
  ⟨some 16, .ext 1, [.t 8], none⟩,
  ⟨some 6, .mv, [.t 15], none⟩,
  ⟨some 7, .mv, [.t 16], none⟩])
 (.seq (.reg [⟨some 17, .mv, [.t 7], none⟩])
 (.cond (.t 17)
 (.seq (.reg [⟨some 18, .fad 3, [.t 2], none⟩,
  ⟨some 19, .load 1 false, [.t 18], none⟩,
  ⟨some 20, .mv, [.t 6], none⟩,
  ⟨some 21, .iad 8, [.t 19, .t 20], none⟩,
  ⟨some 22, .load 8 true, [.t 21], none⟩,
  ⟨none, .store 8, [.t 4, .t 22], none⟩,
  ⟨some 5, .mv, [.c (.p (.v (.bool true)))], none⟩])
 .ret)
 .skip)))
 (.seq (.reg [⟨some 23, .build [.v (.string ⟨#[]⟩), .v (.string ⟨#[]⟩), .v (.int .i64 0), .v (.int .i64 0), .v (.int .i64 0), .v (.int .i64 0), .v (.int .i64 0), .v (.bool false)] [], [], none⟩,
  ⟨none, .store 8, [.t 4, .t 23], none⟩,
  ⟨some 5, .mv, [.c (.p (.v (.bool false)))], none⟩])
 .ret)))
theorem ret63 {ps : List PV} {p : PV} (hn : Nat.ble ps.length 24 = true) (h : (∀ q ∈ ps, q.bd) → Run Try.prog (fun e s' => (∀ id, e ≠ .exit id) ∧ ∃ ns, s'.out [.c 4 8 true, .t 5] = some (p, ns)) [] c63 (S (initL 0 ps) [])) : Ret Try.prog 63 ps p :=
  ret_run Try.func63 rfl (by kernel_rfl) rfl (by kernel_rfl) (by kernel_rfl) (by kernel_rfl) (by kernel_rfl) (Nat.le_of_ble_eq_true hn) h

/-- stevedore/layout.zone -/
def c124 : C :=
  (.seq (.reg [⟨some 2, .box, [.t 0], none⟩,
  ⟨some 4, .alloc [.v (.string ⟨#[]⟩), .v (.string ⟨#[]⟩)], [], none⟩,
  ⟨some 5, .mv, [.c (.p (.v (.bool false)))], none⟩])
 (.seq (.seq (.regd [⟨some 9, .call 125, [], none⟩,
  ⟨some 10, .fad 2, [.t 2], none⟩,
  ⟨some 11, .load 1 false, [.t 10], none⟩,
  ⟨some 12, .mv, [.t 1], none⟩,
  ⟨some 13, .build [.v (.string ⟨#[]⟩), .v (.string ⟨#[]⟩)] [(0, 1)], [.t 12], none⟩,
  ⟨some 14, .call 156, [.t 9, .t 11, .t 13], none⟩,
  ⟨some 8, .mv, [.t 14], none⟩,
  ⟨some 15, .ext 0, [.t 8], none⟩,
  ⟨some 16, .ext 1, [.t 8], none⟩,
  ⟨some 6, .mv, [.t 15], none⟩,
  ⟨some 7, .mv, [.t 16], none⟩])
 (.seq (.reg [⟨some 17, .mv, [.t 7], none⟩])
 (.cond (.t 17)
 (.seq (.reg [⟨some 18, .fad 2, [.t 2], none⟩,
  ⟨some 19, .load 1 false, [.t 18], none⟩,
  ⟨some 20, .mv, [.t 6], none⟩,
  ⟨some 21, .iad 2, [.t 19, .t 20], none⟩,
  ⟨some 22, .load 2 true, [.t 21], none⟩,
  ⟨none, .store 2, [.t 4, .t 22], none⟩,
  ⟨some 5, .mv, [.c (.p (.v (.bool true)))], none⟩])
 .ret)
 .skip)))
 (.seq (.reg [⟨some 23, .build [.v (.string ⟨#[]⟩), .v (.string ⟨#[]⟩)] [], [], none⟩,
  ⟨none, .store 2, [.t 4, .t 23], none⟩,
  ⟨some 5, .mv, [.c (.p (.v (.bool false)))], none⟩])
 .ret)))
theorem ret124 {ps : List PV} {p : PV} (hn : Nat.ble ps.length 24 = true) (h : (∀ q ∈ ps, q.bd) → Run Try.prog (fun e s' => (∀ id, e ≠ .exit id) ∧ ∃ ns, s'.out [.c 4 2 true, .t 5] = some (p, ns)) [] c124 (S (initL 0 ps) [])) : Ret Try.prog 124 ps p :=
  ret_run Try.func124 rfl (by kernel_rfl) rfl (by kernel_rfl) (by kernel_rfl) (by kernel_rfl) (by kernel_rfl) (Nat.le_of_ble_eq_true hn) h

/-- stevedore/stevedorerows.FindBin -/
def c64 : C :=
  (.seq (.reg [⟨some 2, .box, [.t 0], none⟩,
  ⟨some 4, .alloc [.v (.string ⟨#[]⟩), .v (.string ⟨#[]⟩), .v (.int .i64 0), .v (.int .i64 0), .v (.int .i64 0), .v (.int .i64 0), .v (.int .i64 0), .v (.bool false)], [], none⟩,
  ⟨some 5, .mv, [.c (.p (.v (.bool false)))], none⟩])
 (.seq (.seq (.reg [⟨some 6, .mv, [.c (.p (.v (.int .i64 0)))], none⟩])
 (.block 0
 (.loop
 (.seq (.seq (.reg [⟨some 7, .mv, [.t 6], none⟩,
  ⟨some 8, .fad 3, [.t 2], none⟩,
  ⟨some 9, .load 1 false, [.t 8], none⟩,
  ⟨some 10, .len 0, [.t 9], none⟩,
  ⟨some 11, .bin .lss, [.t 7, .t 10], none⟩])
 (.cond (.t 11)
 .skip
 (.exit 0)))
 (.seq (.block 1
 (.seq (.reg [⟨some 14, .fad 3, [.t 2], none⟩,
  ⟨some 15, .load 1 false, [.t 14], none⟩,
  ⟨some 16, .mv, [.t 6], none⟩,
  ⟨some 17, .iad 8, [.t 15, .t 16], none⟩,
  ⟨some 18, .fad 0, [.t 17], none⟩,
  ⟨some 19, .load 1 false, [.t 18], none⟩,
  ⟨some 20, .mv, [.t 1], none⟩,
  ⟨some 21, .bin .eql, [.t 19, .t 20], none⟩])
 (.cond (.t 21)
 (.seq (.reg [⟨some 22, .fad 3, [.t 2], none⟩,
  ⟨some 23, .load 1 false, [.t 22], none⟩,
  ⟨some 24, .mv, [.t 6], none⟩,
  ⟨some 25, .iad 8, [.t 23, .t 24], none⟩,
  ⟨some 26, .load 8 true, [.t 25], none⟩,
  ⟨none, .store 8, [.t 4, .t 26], none⟩,
  ⟨some 5, .mv, [.c (.p (.v (.bool true)))], none⟩])
 .ret)
 .skip)))
 (.reg [⟨some 12, .mv, [.t 6], none⟩,
  ⟨some 13, .bin .add, [.t 12, .c (.p (.v (.int .i64 1)))], none⟩,
  ⟨some 6, .mv, [.t 13], none⟩]))))))
 (.seq (.reg [⟨some 27, .build [.v (.string ⟨#[]⟩), .v (.string ⟨#[]⟩), .v (.int .i64 0), .v (.int .i64 0), .v (.int .i64 0), .v (.int .i64 0), .v (.int .i64 0), .v (.bool false)] [], [], none⟩,
  ⟨none, .store 8, [.t 4, .t 27], none⟩,
  ⟨some 5, .mv, [.c (.p (.v (.bool false)))], none⟩])
 .ret)))
theorem ret64 {ps : List PV} {p : PV} (hn : Nat.ble ps.length 28 = true) (h : (∀ q ∈ ps, q.bd) → Run Try.prog (fun e s' => (∀ id, e ≠ .exit id) ∧ ∃ ns, s'.out [.c 4 8 true, .t 5] = some (p, ns)) [] c64 (S (initL 0 ps) [])) : Ret Try.prog 64 ps p :=
  ret_run Try.func64 rfl (by kernel_rfl) rfl (by kernel_rfl) (by kernel_rfl) (by kernel_rfl) (by kernel_rfl) (Nat.le_of_ble_eq_true hn) h

/-- stevedore/stevedorerows.FindZone -/
def c69 : C :=
  (.seq (.reg [⟨some 2, .box, [.t 0], none⟩,
  ⟨some 4, .alloc [.v (.string ⟨#[]⟩), .v (.string ⟨#[]⟩)], [], none⟩,
  ⟨some 5, .mv, [.c (.p (.v (.bool false)))], none⟩])
 (.seq (.seq (.reg [⟨some 6, .mv, [.c (.p (.v (.int .i64 0)))], none⟩])
 (.block 0
 (.loop
 (.seq (.seq (.reg [⟨some 7, .mv, [.t 6], none⟩,
  ⟨some 8, .fad 2, [.t 2], none⟩,
  ⟨some 9, .load 1 false, [.t 8], none⟩,
  ⟨some 10, .len 0, [.t 9], none⟩,
  ⟨some 11, .bin .lss, [.t 7, .t 10], none⟩])
 (.cond (.t 11)
 .skip
 (.exit 0)))
 (.seq (.block 1
 (.seq (.reg [⟨some 14, .fad 2, [.t 2], none⟩,
  ⟨some 15, .load 1 false, [.t 14], none⟩,
  ⟨some 16, .mv, [.t 6], none⟩,
  ⟨some 17, .iad 2, [.t 15, .t 16], none⟩,
  ⟨some 18, .fad 0, [.t 17], none⟩,
  ⟨some 19, .load 1 false, [.t 18], none⟩,
  ⟨some 20, .mv, [.t 1], none⟩,
  ⟨some 21, .bin .eql, [.t 19, .t 20], none⟩])
 (.cond (.t 21)
 (.seq (.reg [⟨some 22, .fad 2, [.t 2], none⟩,
  ⟨some 23, .load 1 false, [.t 22], none⟩,
  ⟨some 24, .mv, [.t 6], none⟩,
  ⟨some 25, .iad 2, [.t 23, .t 24], none⟩,
  ⟨some 26, .load 2 true, [.t 25], none⟩,
  ⟨none, .store 2, [.t 4, .t 26], none⟩,
  ⟨some 5, .mv, [.c (.p (.v (.bool true)))], none⟩])
 .ret)
 .skip)))
 (.reg [⟨some 12, .mv, [.t 6], none⟩,
  ⟨some 13, .bin .add, [.t 12, .c (.p (.v (.int .i64 1)))], none⟩,
  ⟨some 6, .mv, [.t 13], none⟩]))))))
 (.seq (.reg [⟨some 27, .build [.v (.string ⟨#[]⟩), .v (.string ⟨#[]⟩)] [], [], none⟩,
  ⟨none, .store 2, [.t 4, .t 27], none⟩,
  ⟨some 5, .mv, [.c (.p (.v (.bool false)))], none⟩])
 .ret)))
theorem ret69 {ps : List PV} {p : PV} (hn : Nat.ble ps.length 28 = true) (h : (∀ q ∈ ps, q.bd) → Run Try.prog (fun e s' => (∀ id, e ≠ .exit id) ∧ ∃ ns, s'.out [.c 4 2 true, .t 5] = some (p, ns)) [] c69 (S (initL 0 ps) [])) : Ret Try.prog 69 ps p :=
  ret_run Try.func69 rfl (by kernel_rfl) rfl (by kernel_rfl) (by kernel_rfl) (by kernel_rfl) (by kernel_rfl) (Nat.le_of_ble_eq_true hn) h

end Go.Fw
