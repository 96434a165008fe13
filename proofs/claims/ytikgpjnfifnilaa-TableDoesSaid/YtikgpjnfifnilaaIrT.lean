/-
  The code of some functions, for the abstract machine. Printed by a program (wip/tools/mkir.py).
-/
import Derived.Test.YtikgpjnfifnilaaFwU
import Derived.Test.YtikgpjnfifnilaaProg
import Derived.KernelRfl
set_option linter.unusedVariables false
set_option maxRecDepth 100000
namespace Go.Fw
open Go.Proofs

/-- stevedore/stevedorelaw02.pairs -/
def c9 : C :=
  (.seq (.reg [⟨some 0, .alloc [.v (.nilFunc)], [], none⟩])
  (.seq (.reg [⟨some 1, .build [.v (.nilFunc)] [(0, 1)], [.c (.p (.clo 22 []))], none⟩,
   ⟨none, .store 1, [.t 0, .t 1], none⟩])
  .ret))
theorem ret9 {ps : List PV} {p : PV} (hn : Nat.ble ps.length 2 = true) (h : (∀ q ∈ ps, q.bd) → Run Try.prog (fun e s' => (∀ id, e ≠ .exit id) ∧ ∃ ns, s'.out [.c 0 1 true] = some (p, ns)) [] c9 (S (initL 0 ps) [])) : Ret Try.prog 9 ps p :=
  ret_run Try.func9 rfl (by kernel_rfl) rfl (by kernel_rfl) (by kernel_rfl) (by kernel_rfl) (by kernel_rfl) (Nat.le_of_ble_eq_true hn) h

/-- (stevedore/table.Table[stevedore/api.Pair]).Find -/
def c10 : C :=
  (.seq (.reg [⟨some 3, .box, [.t 0], none⟩,
   ⟨some 5, .box, [.t 2], none⟩,
   ⟨some 6, .mv, [.c (.p (.v (.int .i64 0)))], none⟩,
   ⟨some 7, .mv, [.c (.p (.v (.bool false)))], none⟩])
  (.seq (.seq (.reg [⟨some 9, .mv, [.t 1], none⟩,
   ⟨some 10, .mkf 24, [.t 3, .t 5], none⟩,
   ⟨some 11, .call 23, [.t 9, .t 10], none⟩,
   ⟨some 8, .mv, [.t 11], none⟩])
  (.seq (.reg [⟨some 12, .mv, [.t 8], none⟩,
   ⟨some 13, .bin .geq, [.t 12, .c (.p (.v (.int .i64 0)))], none⟩])
  (.cond (.t 13)
  (.seq (.reg [⟨some 14, .mv, [.t 8], none⟩,
     ⟨some 6, .mv, [.t 14], none⟩,
     ⟨some 7, .mv, [.c (.p (.v (.bool true)))], none⟩])
    .ret)
  .skip)))
  (.seq (.reg [⟨some 6, .mv, [.c (.p (.v (.int .i64 0)))], none⟩,
   ⟨some 7, .mv, [.c (.p (.v (.bool false)))], none⟩])
  .ret)))
theorem ret10 {ps : List PV} {p : PV} (hn : Nat.ble ps.length 15 = true) (h : (∀ q ∈ ps, q.bd) → Run Try.prog (fun e s' => (∀ id, e ≠ .exit id) ∧ ∃ ns, s'.out [.t 6, .t 7] = some (p, ns)) [] c10 (S (initL 0 ps) [])) : Ret Try.prog 10 ps p :=
  ret_run Try.func10 rfl (by kernel_rfl) rfl (by kernel_rfl) (by kernel_rfl) (by kernel_rfl) (by kernel_rfl) (Nat.le_of_ble_eq_true hn) h

/-- stevedore/stevedoreref02.Find -/
def c11 : C :=
  (.seq (.reg [⟨some 3, .box, [.t 1], none⟩,
   ⟨some 4, .mv, [.c (.p (.v (.int .i64 0)))], none⟩,
   ⟨some 5, .mv, [.c (.p (.v (.bool false)))], none⟩])
  (.seq (.seq (.reg [⟨some 6, .mv, [.c (.p (.v (.int .i64 0)))], none⟩])
  (.block 0
  (.loop
  (.seq (.seq (.reg [⟨some 7, .mv, [.t 6], none⟩,
   ⟨some 8, .mv, [.t 0], none⟩,
   ⟨some 9, .len 0, [.t 8], none⟩,
   ⟨some 10, .bin .lss, [.t 7, .t 9], none⟩])
  (.cond (.t 10)
  .skip
  (.exit 0)))
  (.seq (.block 1
  (.seq (.regd [⟨some 13, .mv, [.t 0], none⟩,
   ⟨some 14, .mv, [.t 6], none⟩,
   ⟨some 15, .iad 2, [.t 13, .t 14], none⟩,
   ⟨some 16, .fad 0, [.t 15], none⟩,
   ⟨some 17, .load 1 false, [.t 16], none⟩,
   ⟨some 18, .fad 0, [.t 3], none⟩,
   ⟨some 19, .load 1 false, [.t 18], none⟩,
   ⟨some 20, .bin .eql, [.t 17, .t 19], none⟩])
  (.cond (.t 20)
  (.seq (.reg [⟨some 21, .mv, [.t 6], none⟩,
     ⟨some 4, .mv, [.t 21], none⟩,
     ⟨some 5, .mv, [.c (.p (.v (.bool true)))], none⟩])
    .ret)
  .skip)))
  (.reg [⟨some 11, .mv, [.t 6], none⟩,
   ⟨some 12, .bin .add, [.t 11, .c (.p (.v (.int .i64 1)))], none⟩,
   ⟨some 6, .mv, [.t 12], none⟩]))))))
  (.seq (.reg [⟨some 4, .mv, [.c (.p (.v (.int .i64 0)))], none⟩,
   ⟨some 5, .mv, [.c (.p (.v (.bool false)))], none⟩])
  .ret)))
theorem ret11 {ps : List PV} {p : PV} (hn : Nat.ble ps.length 22 = true) (h : (∀ q ∈ ps, q.bd) → Run Try.prog (fun e s' => (∀ id, e ≠ .exit id) ∧ ∃ ns, s'.out [.t 4, .t 5] = some (p, ns)) [] c11 (S (initL 0 ps) [])) : Ret Try.prog 11 ps p :=
  ret_run Try.func11 rfl (by kernel_rfl) rfl (by kernel_rfl) (by kernel_rfl) (by kernel_rfl) (by kernel_rfl) (Nat.le_of_ble_eq_true hn) h

/-- (stevedore/table.Table[stevedore/api.Pair]).Put -/
def c12 : C :=
  (.seq (.reg [⟨some 3, .box, [.t 0], none⟩,
   ⟨some 5, .box, [.t 2], none⟩,
   ⟨some 6, .mv, [.c .nil], none⟩])
  (.seq (.reg [⟨some 11, .mv, [.t 1], none⟩,
   ⟨some 12, .calln 25, [.t 11], none⟩,
   ⟨some 7, .mv, [.t 12], none⟩])
  (.seq (.seq (.reg [⟨some 14, .load 1 true, [.t 3], none⟩,
   ⟨some 15, .mv, [.t 1], none⟩,
   ⟨some 16, .load 2 true, [.t 5], none⟩,
   ⟨some 17, .call 10, [.t 14, .t 15, .t 16], none⟩,
   ⟨some 13, .mv, [.t 17], none⟩,
   ⟨some 18, .ext 0, [.t 13], none⟩,
   ⟨some 19, .ext 1, [.t 13], none⟩,
   ⟨some 8, .mv, [.t 18], none⟩,
   ⟨some 9, .mv, [.t 19], none⟩])
  (.seq (.reg [⟨some 20, .mv, [.t 9], none⟩])
  (.cond (.t 20)
  (.seq (.reg [⟨some 21, .mv, [.t 7], none⟩,
     ⟨some 22, .mv, [.t 8], none⟩,
     ⟨some 23, .load 2 true, [.t 5], none⟩,
     ⟨some 24, .iad 2, [.t 21, .t 22], none⟩,
     ⟨none, .store 2, [.t 24, .t 23], none⟩])
    (.seq (.reg [⟨some 25, .mv, [.t 7], none⟩,
     ⟨some 6, .mv, [.t 25], none⟩])
    .ret))
  .skip)))
  (.seq (.reg [⟨some 26, .mv, [.t 1], none⟩,
   ⟨some 27, .mkf 26, [.t 3, .t 5], none⟩,
   ⟨some 28, .call 23, [.t 26, .t 27], none⟩,
   ⟨some 10, .mv, [.t 28], none⟩])
  (.seq (.seq (.reg [⟨some 29, .mv, [.t 10], none⟩,
   ⟨some 30, .bin .lss, [.t 29, .c (.p (.v (.int .i64 0)))], none⟩])
  (.cond (.t 30)
  (.reg [⟨some 31, .mv, [.t 1], none⟩,
     ⟨some 32, .len 0, [.t 31], none⟩,
     ⟨some 10, .mv, [.t 32], none⟩])
  .skip))
  (.seq (.reg [⟨some 33, .mv, [.t 7], none⟩,
   ⟨some 34, .mv, [.t 10], none⟩,
   ⟨some 35, .load 2 true, [.t 5], none⟩,
   ⟨some 36, .bsl 24 2 1 [.v (.string ⟨#[]⟩), .v (.int .i64 0)] [0], [.t 35], none⟩,
   ⟨some 37, .calli 27, [.t 33, .t 34, .t 36], none⟩,
   ⟨some 6, .mv, [.t 37], none⟩])
  .ret))))))
theorem ret12 {ps : List PV} {p : PV} (hn : Nat.ble ps.length 38 = true) (h : (∀ q ∈ ps, q.bd) → Run Try.prog (fun e s' => (∀ id, e ≠ .exit id) ∧ ∃ ns, s'.out [.t 6] = some (p, ns)) [] c12 (S (initL 0 ps) [])) : Ret Try.prog 12 ps p :=
  ret_run Try.func12 rfl (by kernel_rfl) rfl (by kernel_rfl) (by kernel_rfl) (by kernel_rfl) (by kernel_rfl) (Nat.le_of_ble_eq_true hn) h

theorem row12 {ps : List PV} {ty es : Nat} {zs : List (List PV)} (hn : Nat.ble ps.length 38 = true) (h : (∀ q ∈ ps, q.bd) → Run Try.prog (fun e s' => (∀ id, e ≠ .exit id) ∧ ((s'.t 6 = .nil ∧ zs = []) ∨ ∃ n, s'.t 6 = .row n zs.length ∧ s'.o n = some (.row ty es zs false))) [] c12 (S (initL 0 ps) [])) : RetN Try.prog 12 ps ty es zs :=
  retN_run Try.func12 rfl (by kernel_rfl) rfl rfl (by decide) (by kernel_rfl) (by kernel_rfl) (by kernel_rfl) (Nat.le_of_ble_eq_true hn) h

/-- (stevedore/table.Table[stevedore/api.Pair]).Drop -/
def c14 : C :=
  (.seq (.reg [⟨some 3, .box, [.t 0], none⟩,
   ⟨some 5, .box, [.t 2], none⟩,
   ⟨some 6, .mv, [.c .nil], none⟩])
  (.seq (.reg [⟨some 10, .mv, [.t 1], none⟩,
   ⟨some 11, .calln 25, [.t 10], none⟩,
   ⟨some 7, .mv, [.t 11], none⟩])
  (.seq (.seq (.reg [⟨some 13, .load 1 true, [.t 3], none⟩,
   ⟨some 14, .mv, [.t 1], none⟩,
   ⟨some 15, .load 2 true, [.t 5], none⟩,
   ⟨some 16, .call 10, [.t 13, .t 14, .t 15], none⟩,
   ⟨some 12, .mv, [.t 16], none⟩,
   ⟨some 17, .ext 0, [.t 12], none⟩,
   ⟨some 18, .ext 1, [.t 12], none⟩,
   ⟨some 8, .mv, [.t 17], none⟩,
   ⟨some 9, .mv, [.t 18], none⟩])
  (.seq (.reg [⟨some 19, .mv, [.t 9], none⟩])
  (.cond (.t 19)
  (.reg [⟨some 20, .mv, [.t 7], none⟩,
     ⟨some 21, .mv, [.t 8], none⟩,
     ⟨some 22, .mv, [.t 8], none⟩,
     ⟨some 23, .bin .add, [.t 22, .c (.p (.v (.int .i64 1)))], none⟩,
     ⟨some 24, .calli 28, [.t 20, .t 21, .t 23], none⟩,
     ⟨some 7, .mv, [.t 24], none⟩])
  .skip)))
  (.seq (.reg [⟨some 25, .mv, [.t 7], none⟩,
   ⟨some 6, .mv, [.t 25], none⟩])
  .ret))))
theorem ret14 {ps : List PV} {p : PV} (hn : Nat.ble ps.length 26 = true) (h : (∀ q ∈ ps, q.bd) → Run Try.prog (fun e s' => (∀ id, e ≠ .exit id) ∧ ∃ ns, s'.out [.t 6] = some (p, ns)) [] c14 (S (initL 0 ps) [])) : Ret Try.prog 14 ps p :=
  ret_run Try.func14 rfl (by kernel_rfl) rfl (by kernel_rfl) (by kernel_rfl) (by kernel_rfl) (by kernel_rfl) (Nat.le_of_ble_eq_true hn) h

theorem row14 {ps : List PV} {ty es : Nat} {zs : List (List PV)} (hn : Nat.ble ps.length 26 = true) (h : (∀ q ∈ ps, q.bd) → Run Try.prog (fun e s' => (∀ id, e ≠ .exit id) ∧ ((s'.t 6 = .nil ∧ zs = []) ∨ ∃ n, s'.t 6 = .row n zs.length ∧ s'.o n = some (.row ty es zs false))) [] c14 (S (initL 0 ps) [])) : RetN Try.prog 14 ps ty es zs :=
  retN_run Try.func14 rfl (by kernel_rfl) rfl rfl (by decide) (by kernel_rfl) (by kernel_rfl) (by kernel_rfl) (Nat.le_of_ble_eq_true hn) h

/-- stevedore/stevedoreref02.Put -/
def c13 : C :=
  (.seq (.reg [⟨some 3, .box, [.t 1], none⟩,
   ⟨some 4, .mv, [.c .nil], none⟩])
  (.seq (.reg [⟨some 5, .mv, [.c .nil], none⟩])
  (.seq (.reg [⟨some 11, .mv, [.t 0], none⟩,
   ⟨some 12, .load 2 true, [.t 3], none⟩,
   ⟨some 13, .call 11, [.t 11, .t 12], none⟩,
   ⟨some 10, .mv, [.t 13], none⟩,
   ⟨some 14, .ext 0, [.t 10], none⟩,
   ⟨some 15, .ext 1, [.t 10], none⟩,
   ⟨some 6, .mv, [.t 14], none⟩,
   ⟨some 7, .mv, [.t 15], none⟩])
  (.seq (.seq (.reg [⟨some 16, .mv, [.t 7], none⟩])
  (.cond (.t 16)
  (.seq (.reg [⟨some 17, .mv, [.t 5], none⟩,
     ⟨some 18, .mv, [.t 0], none⟩,
     ⟨some 19, .app 24 2 24, [.t 17, .t 18], none⟩,
     ⟨some 5, .mv, [.t 19], none⟩])
    (.seq (.reg [⟨some 20, .mv, [.t 5], none⟩,
     ⟨some 21, .mv, [.t 6], none⟩,
     ⟨some 22, .load 2 true, [.t 3], none⟩,
     ⟨some 23, .iad 2, [.t 20, .t 21], none⟩,
     ⟨none, .store 2, [.t 23, .t 22], none⟩])
    (.seq (.reg [⟨some 24, .mv, [.t 5], none⟩,
     ⟨some 4, .mv, [.t 24], none⟩])
    .ret)))
  .skip))
  (.seq (.reg [⟨some 8, .mv, [.c (.p (.v (.bool false)))], none⟩])
  (.seq (.seq (.reg [⟨some 9, .mv, [.c (.p (.v (.int .i64 0)))], none⟩])
  (.block 0
  (.loop
  (.seq (.seq (.reg [⟨some 25, .mv, [.t 9], none⟩,
   ⟨some 26, .mv, [.t 0], none⟩,
   ⟨some 27, .len 0, [.t 26], none⟩,
   ⟨some 28, .bin .lss, [.t 25, .t 27], none⟩])
  (.cond (.t 28)
  .skip
  (.exit 0)))
  (.seq (.block 1
  (.seq (.seq (.regd [⟨some 31, .mv, [.t 8], none⟩,
   ⟨some 32, .un .not, [.t 31], none⟩,
   ⟨some 33, .mv, [.t 32], none⟩,
   ⟨some 34, .mv, [.t 0], some (33, true)⟩,
   ⟨some 35, .mv, [.t 9], some (33, true)⟩,
   ⟨some 36, .iad 2, [.t 34, .t 35], some (33, true)⟩,
   ⟨some 37, .fad 0, [.t 36], some (33, true)⟩,
   ⟨some 38, .load 1 false, [.t 37], some (33, true)⟩,
   ⟨some 39, .fad 0, [.t 3], some (33, true)⟩,
   ⟨some 40, .load 1 false, [.t 39], some (33, true)⟩,
   ⟨some 41, .bin .gtr, [.t 38, .t 40], some (33, true)⟩,
   ⟨some 42, .pick, [.t 33, .t 41, .c (.p (.v (.bool false)))], none⟩])
  (.cond (.t 42)
  (.seq (.reg [⟨some 43, .mv, [.t 5], none⟩,
     ⟨some 44, .load 2 true, [.t 3], none⟩,
     ⟨some 45, .bsl 24 2 1 [.v (.string ⟨#[]⟩), .v (.int .i64 0)] [0], [.t 44], none⟩,
     ⟨some 46, .app 24 2 24, [.t 43, .t 45], none⟩,
     ⟨some 5, .mv, [.t 46], none⟩])
    (.reg [⟨some 8, .mv, [.c (.p (.v (.bool true)))], none⟩]))
  .skip))
  (.reg [⟨some 47, .mv, [.t 5], none⟩,
   ⟨some 48, .mv, [.t 0], none⟩,
   ⟨some 49, .mv, [.t 9], none⟩,
   ⟨some 50, .iad 2, [.t 48, .t 49], none⟩,
   ⟨some 51, .load 2 true, [.t 50], none⟩,
   ⟨some 52, .bsl 24 2 1 [.v (.string ⟨#[]⟩), .v (.int .i64 0)] [0], [.t 51], none⟩,
   ⟨some 53, .app 24 2 24, [.t 47, .t 52], none⟩,
   ⟨some 5, .mv, [.t 53], none⟩])))
  (.reg [⟨some 29, .mv, [.t 9], none⟩,
   ⟨some 30, .bin .add, [.t 29, .c (.p (.v (.int .i64 1)))], none⟩,
   ⟨some 9, .mv, [.t 30], none⟩]))))))
  (.seq (.seq (.reg [⟨some 54, .mv, [.t 8], none⟩,
   ⟨some 55, .un .not, [.t 54], none⟩])
  (.cond (.t 55)
  (.reg [⟨some 56, .mv, [.t 5], none⟩,
     ⟨some 57, .load 2 true, [.t 3], none⟩,
     ⟨some 58, .bsl 24 2 1 [.v (.string ⟨#[]⟩), .v (.int .i64 0)] [0], [.t 57], none⟩,
     ⟨some 59, .app 24 2 24, [.t 56, .t 58], none⟩,
     ⟨some 5, .mv, [.t 59], none⟩])
  .skip))
  (.seq (.reg [⟨some 60, .mv, [.t 5], none⟩,
   ⟨some 4, .mv, [.t 60], none⟩])
  .ret))))))))
theorem ret13 {ps : List PV} {p : PV} (hn : Nat.ble ps.length 61 = true) (h : (∀ q ∈ ps, q.bd) → Run Try.prog (fun e s' => (∀ id, e ≠ .exit id) ∧ ∃ ns, s'.out [.t 4] = some (p, ns)) [] c13 (S (initL 0 ps) [])) : Ret Try.prog 13 ps p :=
  ret_run Try.func13 rfl (by kernel_rfl) rfl (by kernel_rfl) (by kernel_rfl) (by kernel_rfl) (by kernel_rfl) (Nat.le_of_ble_eq_true hn) h

theorem row13 {ps : List PV} {ty es : Nat} {zs : List (List PV)} (hn : Nat.ble ps.length 61 = true) (h : (∀ q ∈ ps, q.bd) → Run Try.prog (fun e s' => (∀ id, e ≠ .exit id) ∧ ((s'.t 4 = .nil ∧ zs = []) ∨ ∃ n, s'.t 4 = .row n zs.length ∧ s'.o n = some (.row ty es zs false))) [] c13 (S (initL 0 ps) [])) : RetN Try.prog 13 ps ty es zs :=
  retN_run Try.func13 rfl (by kernel_rfl) rfl rfl (by decide) (by kernel_rfl) (by kernel_rfl) (by kernel_rfl) (Nat.le_of_ble_eq_true hn) h

/-- stevedore/stevedoreref02.Drop -/
def c18 : C :=
  (.seq (.reg [⟨some 3, .box, [.t 1], none⟩,
   ⟨some 4, .mv, [.c .nil], none⟩])
  (.seq (.reg [⟨some 10, .mv, [.t 0], none⟩,
   ⟨some 11, .load 2 true, [.t 3], none⟩,
   ⟨some 12, .call 11, [.t 10, .t 11], none⟩,
   ⟨some 9, .mv, [.t 12], none⟩,
   ⟨some 13, .ext 0, [.t 9], none⟩,
   ⟨some 14, .ext 1, [.t 9], none⟩,
   ⟨some 5, .mv, [.t 13], none⟩,
   ⟨some 6, .mv, [.t 14], none⟩])
  (.seq (.reg [⟨some 7, .mv, [.c .nil], none⟩])
  (.seq (.seq (.reg [⟨some 8, .mv, [.c (.p (.v (.int .i64 0)))], none⟩])
  (.block 0
  (.loop
  (.seq (.seq (.reg [⟨some 15, .mv, [.t 8], none⟩,
   ⟨some 16, .mv, [.t 0], none⟩,
   ⟨some 17, .len 0, [.t 16], none⟩,
   ⟨some 18, .bin .lss, [.t 15, .t 17], none⟩])
  (.cond (.t 18)
  .skip
  (.exit 0)))
  (.seq (.block 1
  (.seq (.reg [⟨some 21, .mv, [.t 6], none⟩,
   ⟨some 22, .un .not, [.t 21], none⟩,
   ⟨some 23, .mv, [.t 22], none⟩,
   ⟨some 24, .mv, [.t 8], some (23, false)⟩,
   ⟨some 25, .mv, [.t 5], some (23, false)⟩,
   ⟨some 26, .bin .neq, [.t 24, .t 25], some (23, false)⟩,
   ⟨some 27, .pick, [.t 23, .c (.p (.v (.bool true))), .t 26], none⟩])
  (.cond (.t 27)
  (.reg [⟨some 28, .mv, [.t 7], none⟩,
     ⟨some 29, .mv, [.t 0], none⟩,
     ⟨some 30, .mv, [.t 8], none⟩,
     ⟨some 31, .iad 2, [.t 29, .t 30], none⟩,
     ⟨some 32, .load 2 true, [.t 31], none⟩,
     ⟨some 33, .bsl 24 2 1 [.v (.string ⟨#[]⟩), .v (.int .i64 0)] [0], [.t 32], none⟩,
     ⟨some 34, .app 24 2 24, [.t 28, .t 33], none⟩,
     ⟨some 7, .mv, [.t 34], none⟩])
  .skip)))
  (.reg [⟨some 19, .mv, [.t 8], none⟩,
   ⟨some 20, .bin .add, [.t 19, .c (.p (.v (.int .i64 1)))], none⟩,
   ⟨some 8, .mv, [.t 20], none⟩]))))))
  (.seq (.reg [⟨some 35, .mv, [.t 7], none⟩,
   ⟨some 4, .mv, [.t 35], none⟩])
  .ret)))))
theorem ret18 {ps : List PV} {p : PV} (hn : Nat.ble ps.length 36 = true) (h : (∀ q ∈ ps, q.bd) → Run Try.prog (fun e s' => (∀ id, e ≠ .exit id) ∧ ∃ ns, s'.out [.t 4] = some (p, ns)) [] c18 (S (initL 0 ps) [])) : Ret Try.prog 18 ps p :=
  ret_run Try.func18 rfl (by kernel_rfl) rfl (by kernel_rfl) (by kernel_rfl) (by kernel_rfl) (by kernel_rfl) (Nat.le_of_ble_eq_true hn) h

theorem row18 {ps : List PV} {ty es : Nat} {zs : List (List PV)} (hn : Nat.ble ps.length 36 = true) (h : (∀ q ∈ ps, q.bd) → Run Try.prog (fun e s' => (∀ id, e ≠ .exit id) ∧ ((s'.t 4 = .nil ∧ zs = []) ∨ ∃ n, s'.t 4 = .row n zs.length ∧ s'.o n = some (.row ty es zs false))) [] c18 (S (initL 0 ps) [])) : RetN Try.prog 18 ps ty es zs :=
  retN_run Try.func18 rfl (by kernel_rfl) rfl rfl (by decide) (by kernel_rfl) (by kernel_rfl) (by kernel_rfl) (Nat.le_of_ble_eq_true hn) h

/-- stevedore/table.Keep[stevedore/api.Pair] -/
def c15 : C :=
  (.seq (.reg [⟨some 4, .mv, [.c .nil], none⟩])
  (.seq (.reg [⟨some 5, .mv, [.c .nil], none⟩])
  (.seq (.seq (.reg [⟨some 8, .mv, [.t 0], none⟩,
   ⟨some 9, .len 0, [.t 8], none⟩,
   ⟨some 10, .mv, [.c (.p (.v (.int .i64 0)))], none⟩])
  (.block 0
  (.loop
  (.seq (.reg [⟨some 11, .bin .lss, [.t 10, .t 9], none⟩])
  (.seq (.cond (.t 11)
  .skip
  (.exit 0))
  (.seq (.block 1
  (.seq (.reg [⟨some 12, .iad 2, [.t 8, .t 10], none⟩,
   ⟨some 13, .load 2 true, [.t 12], none⟩,
   ⟨some 7, .alloc [.v (.string ⟨#[]⟩), .v (.int .i64 0)], [], none⟩,
   ⟨none, .store 2, [.t 7, .t 13], none⟩])
  (.seq (.reg [⟨some 14, .mv, [.t 1], none⟩,
   ⟨some 15, .load 2 true, [.t 7], none⟩,
   ⟨some 16, .callv, [.t 14, .t 15], none⟩])
  (.cond (.t 16)
  (.reg [⟨some 17, .mv, [.t 5], none⟩,
     ⟨some 18, .load 2 true, [.t 7], none⟩,
     ⟨some 19, .bsl 24 2 1 [.v (.string ⟨#[]⟩), .v (.int .i64 0)] [0], [.t 18], none⟩,
     ⟨some 20, .app 24 2 24, [.t 17, .t 19], none⟩,
     ⟨some 5, .mv, [.t 20], none⟩])
  .skip))))
  (.reg [⟨some 21, .bin .add, [.t 10, .c (.p (.v (.int .i64 1)))], none⟩,
   ⟨some 10, .mv, [.t 21], none⟩])))))))
  (.seq (.reg [⟨some 22, .mv, [.t 5], none⟩,
   ⟨some 4, .mv, [.t 22], none⟩])
  .ret))))
theorem ret15 {ps : List PV} {p : PV} (hn : Nat.ble ps.length 23 = true) (h : (∀ q ∈ ps, q.bd) → Run Try.prog (fun e s' => (∀ id, e ≠ .exit id) ∧ ∃ ns, s'.out [.t 4] = some (p, ns)) [] c15 (S (initL 0 ps) [])) : Ret Try.prog 15 ps p :=
  ret_run Try.func15 rfl (by kernel_rfl) rfl (by kernel_rfl) (by kernel_rfl) (by kernel_rfl) (by kernel_rfl) (Nat.le_of_ble_eq_true hn) h

theorem row15 {ps : List PV} {ty es : Nat} {zs : List (List PV)} (hn : Nat.ble ps.length 23 = true) (h : (∀ q ∈ ps, q.bd) → Run Try.prog (fun e s' => (∀ id, e ≠ .exit id) ∧ ((s'.t 4 = .nil ∧ zs = []) ∨ ∃ n, s'.t 4 = .row n zs.length ∧ s'.o n = some (.row ty es zs false))) [] c15 (S (initL 0 ps) [])) : RetN Try.prog 15 ps ty es zs :=
  retN_run Try.func15 rfl (by kernel_rfl) rfl rfl (by decide) (by kernel_rfl) (by kernel_rfl) (by kernel_rfl) (Nat.le_of_ble_eq_true hn) h

/-- stevedore/stevedorelaw02.TableDoes$1 -/
def c16 : C :=
  (.seq (.reg [⟨some 2, .box, [.t 0], none⟩,
   ⟨some 3, .mv, [.c (.p (.v (.bool false)))], none⟩])
  (.seq (.reg [⟨some 4, .fad 1, [.t 2], none⟩,
   ⟨some 5, .load 1 false, [.t 4], none⟩,
   ⟨some 6, .fad 1, [.t 1], none⟩,
   ⟨some 7, .load 1 false, [.t 6], none⟩,
   ⟨some 8, .bin .geq, [.t 5, .t 7], none⟩,
   ⟨some 3, .mv, [.t 8], none⟩])
  .ret))
theorem ret16 {ps : List PV} {p : PV} (hn : Nat.ble ps.length 9 = true) (h : (∀ q ∈ ps, q.bd) → Run Try.prog (fun e s' => (∀ id, e ≠ .exit id) ∧ ∃ ns, s'.out [.t 3] = some (p, ns)) [] c16 (S (initL 0 ps) [])) : Ret Try.prog 16 ps p :=
  ret_run Try.func16 rfl (by kernel_rfl) rfl (by kernel_rfl) (by kernel_rfl) (by kernel_rfl) (by kernel_rfl) (Nat.le_of_ble_eq_true hn) h

/-- stevedore/stevedorelaw02.same -/
def c17 : C :=
  (.seq (.reg [⟨some 4, .mv, [.c (.p (.v (.bool false)))], none⟩])
  (.seq (.seq (.reg [⟨some 6, .mv, [.t 0], none⟩,
   ⟨some 7, .len 0, [.t 6], none⟩,
   ⟨some 8, .mv, [.t 1], none⟩,
   ⟨some 9, .len 0, [.t 8], none⟩,
   ⟨some 10, .bin .neq, [.t 7, .t 9], none⟩])
  (.cond (.t 10)
  (.seq (.reg [⟨some 4, .mv, [.c (.p (.v (.bool false)))], none⟩])
    .ret)
  .skip))
  (.seq (.seq (.reg [⟨some 5, .mv, [.c (.p (.v (.int .i64 0)))], none⟩])
  (.block 0
  (.loop
  (.seq (.seq (.reg [⟨some 11, .mv, [.t 5], none⟩,
   ⟨some 12, .mv, [.t 0], none⟩,
   ⟨some 13, .len 0, [.t 12], none⟩,
   ⟨some 14, .bin .lss, [.t 11, .t 13], none⟩])
  (.cond (.t 14)
  .skip
  (.exit 0)))
  (.seq (.block 1
  (.seq (.regd [⟨some 17, .mv, [.t 0], none⟩,
   ⟨some 18, .mv, [.t 5], none⟩,
   ⟨some 19, .iad 2, [.t 17, .t 18], none⟩,
   ⟨some 20, .load 2 true, [.t 19], none⟩,
   ⟨some 21, .mv, [.t 1], none⟩,
   ⟨some 22, .mv, [.t 5], none⟩,
   ⟨some 23, .iad 2, [.t 21, .t 22], none⟩,
   ⟨some 24, .load 2 true, [.t 23], none⟩,
   ⟨some 25, .eqs true [.s, .i .i64], [.t 20, .t 24], none⟩])
  (.cond (.t 25)
  (.seq (.reg [⟨some 4, .mv, [.c (.p (.v (.bool false)))], none⟩])
    .ret)
  .skip)))
  (.reg [⟨some 15, .mv, [.t 5], none⟩,
   ⟨some 16, .bin .add, [.t 15, .c (.p (.v (.int .i64 1)))], none⟩,
   ⟨some 5, .mv, [.t 16], none⟩]))))))
  (.seq (.reg [⟨some 4, .mv, [.c (.p (.v (.bool true)))], none⟩])
  .ret))))
theorem ret17 {ps : List PV} {p : PV} (hn : Nat.ble ps.length 26 = true) (h : (∀ q ∈ ps, q.bd) → Run Try.prog (fun e s' => (∀ id, e ≠ .exit id) ∧ ∃ ns, s'.out [.t 4] = some (p, ns)) [] c17 (S (initL 0 ps) [])) : Ret Try.prog 17 ps p :=
  ret_run Try.func17 rfl (by kernel_rfl) rfl (by kernel_rfl) (by kernel_rfl) (by kernel_rfl) (by kernel_rfl) (Nat.le_of_ble_eq_true hn) h

/-- (stevedore/table.Table[stevedore/api.Pair]).Rises -/
def c19 : C :=
  (.seq (.reg [⟨some 2, .box, [.t 0], none⟩,
   ⟨some 4, .mv, [.c (.p (.v (.bool false)))], none⟩])
  (.seq (.seq (.reg [⟨some 6, .mv, [.t 1], none⟩,
   ⟨some 7, .len 0, [.t 6], none⟩,
   ⟨some 8, .mv, [.c (.p (.v (.int .i64 0)))], none⟩])
  (.block 0
  (.loop
  (.seq (.reg [⟨some 9, .bin .lss, [.t 8, .t 7], none⟩])
  (.seq (.cond (.t 9)
  .skip
  (.exit 0))
  (.seq (.block 1
  (.seq (.reg [⟨some 10, .mv, [.t 8], none⟩,
   ⟨some 5, .mv, [.t 10], none⟩])
  (.seq (.regd [⟨some 11, .mv, [.t 5], none⟩,
   ⟨some 12, .bin .gtr, [.t 11, .c (.p (.v (.int .i64 0)))], none⟩,
   ⟨some 13, .mv, [.t 12], none⟩,
   ⟨some 14, .fad 0, [.t 2], some (13, true)⟩,
   ⟨some 15, .load 1 false, [.t 14], some (13, true)⟩,
   ⟨some 16, .mv, [.t 1], some (13, true)⟩,
   ⟨some 17, .mv, [.t 5], some (13, true)⟩,
   ⟨some 18, .bin .sub, [.t 17, .c (.p (.v (.int .i64 1)))], some (13, true)⟩,
   ⟨some 19, .iad 2, [.t 16, .t 18], some (13, true)⟩,
   ⟨some 20, .load 2 true, [.t 19], some (13, true)⟩,
   ⟨some 21, .mv, [.t 1], some (13, true)⟩,
   ⟨some 22, .mv, [.t 5], some (13, true)⟩,
   ⟨some 23, .iad 2, [.t 21, .t 22], some (13, true)⟩,
   ⟨some 24, .load 2 true, [.t 23], some (13, true)⟩,
   ⟨some 25, .callv, [.t 15, .t 20, .t 24], some (13, true)⟩,
   ⟨some 26, .bin .geq, [.t 25, .c (.p (.v (.int .i64 0)))], some (13, true)⟩,
   ⟨some 27, .pick, [.t 13, .t 26, .c (.p (.v (.bool false)))], none⟩])
  (.cond (.t 27)
  (.seq (.reg [⟨some 4, .mv, [.c (.p (.v (.bool false)))], none⟩])
    .ret)
  .skip))))
  (.reg [⟨some 28, .bin .add, [.t 8, .c (.p (.v (.int .i64 1)))], none⟩,
   ⟨some 8, .mv, [.t 28], none⟩])))))))
  (.seq (.reg [⟨some 4, .mv, [.c (.p (.v (.bool true)))], none⟩])
  .ret)))
theorem ret19 {ps : List PV} {p : PV} (hn : Nat.ble ps.length 29 = true) (h : (∀ q ∈ ps, q.bd) → Run Try.prog (fun e s' => (∀ id, e ≠ .exit id) ∧ ∃ ns, s'.out [.t 4] = some (p, ns)) [] c19 (S (initL 0 ps) [])) : Ret Try.prog 19 ps p :=
  ret_run Try.func19 rfl (by kernel_rfl) rfl (by kernel_rfl) (by kernel_rfl) (by kernel_rfl) (by kernel_rfl) (Nat.le_of_ble_eq_true hn) h

/-- stevedore/stevedoreref02.Rises -/
def c20 : C :=
  (.seq (.reg [⟨some 2, .mv, [.c (.p (.v (.bool false)))], none⟩])
  (.seq (.seq (.reg [⟨some 3, .mv, [.c (.p (.v (.int .i64 1)))], none⟩])
  (.block 0
  (.loop
  (.seq (.seq (.reg [⟨some 4, .mv, [.t 3], none⟩,
   ⟨some 5, .mv, [.t 0], none⟩,
   ⟨some 6, .len 0, [.t 5], none⟩,
   ⟨some 7, .bin .lss, [.t 4, .t 6], none⟩])
  (.cond (.t 7)
  .skip
  (.exit 0)))
  (.seq (.block 1
  (.seq (.regd [⟨some 10, .mv, [.t 0], none⟩,
   ⟨some 11, .mv, [.t 3], none⟩,
   ⟨some 12, .bin .sub, [.t 11, .c (.p (.v (.int .i64 1)))], none⟩,
   ⟨some 13, .iad 2, [.t 10, .t 12], none⟩,
   ⟨some 14, .fad 0, [.t 13], none⟩,
   ⟨some 15, .load 1 false, [.t 14], none⟩,
   ⟨some 16, .mv, [.t 0], none⟩,
   ⟨some 17, .mv, [.t 3], none⟩,
   ⟨some 18, .iad 2, [.t 16, .t 17], none⟩,
   ⟨some 19, .fad 0, [.t 18], none⟩,
   ⟨some 20, .load 1 false, [.t 19], none⟩,
   ⟨some 21, .bin .geq, [.t 15, .t 20], none⟩])
  (.cond (.t 21)
  (.seq (.reg [⟨some 2, .mv, [.c (.p (.v (.bool false)))], none⟩])
    .ret)
  .skip)))
  (.reg [⟨some 8, .mv, [.t 3], none⟩,
   ⟨some 9, .bin .add, [.t 8, .c (.p (.v (.int .i64 1)))], none⟩,
   ⟨some 3, .mv, [.t 9], none⟩]))))))
  (.seq (.reg [⟨some 2, .mv, [.c (.p (.v (.bool true)))], none⟩])
  .ret)))
theorem ret20 {ps : List PV} {p : PV} (hn : Nat.ble ps.length 22 = true) (h : (∀ q ∈ ps, q.bd) → Run Try.prog (fun e s' => (∀ id, e ≠ .exit id) ∧ ∃ ns, s'.out [.t 2] = some (p, ns)) [] c20 (S (initL 0 ps) [])) : Ret Try.prog 20 ps p :=
  ret_run Try.func20 rfl (by kernel_rfl) rfl (by kernel_rfl) (by kernel_rfl) (by kernel_rfl) (by kernel_rfl) (Nat.le_of_ble_eq_true hn) h

/-- stevedore/stevedorelaw02.order -/
def c22 : C :=
  (.seq (.reg [⟨some 2, .box, [.t 0], none⟩,
   ⟨some 3, .box, [.t 1], none⟩,
   ⟨some 4, .mv, [.c (.p (.v (.int .i64 0)))], none⟩])
  (.seq (.seq (.reg [⟨some 5, .fad 0, [.t 2], none⟩,
   ⟨some 6, .load 1 false, [.t 5], none⟩,
   ⟨some 7, .fad 0, [.t 3], none⟩,
   ⟨some 8, .load 1 false, [.t 7], none⟩,
   ⟨some 9, .bin .lss, [.t 6, .t 8], none⟩])
  (.cond (.t 9)
  (.seq (.reg [⟨some 4, .mv, [.c (.p (.v (.int .i64 (-1))))], none⟩])
    .ret)
  .skip))
  (.seq (.seq (.reg [⟨some 10, .fad 0, [.t 2], none⟩,
   ⟨some 11, .load 1 false, [.t 10], none⟩,
   ⟨some 12, .fad 0, [.t 3], none⟩,
   ⟨some 13, .load 1 false, [.t 12], none⟩,
   ⟨some 14, .bin .gtr, [.t 11, .t 13], none⟩])
  (.cond (.t 14)
  (.seq (.reg [⟨some 4, .mv, [.c (.p (.v (.int .i64 1)))], none⟩])
    .ret)
  .skip))
  (.seq (.reg [⟨some 4, .mv, [.c (.p (.v (.int .i64 0)))], none⟩])
  .ret))))
theorem ret22 {ps : List PV} {p : PV} (hn : Nat.ble ps.length 15 = true) (h : (∀ q ∈ ps, q.bd) → Run Try.prog (fun e s' => (∀ id, e ≠ .exit id) ∧ ∃ ns, s'.out [.t 4] = some (p, ns)) [] c22 (S (initL 0 ps) [])) : Ret Try.prog 22 ps p :=
  ret_run Try.func22 rfl (by kernel_rfl) rfl (by kernel_rfl) (by kernel_rfl) (by kernel_rfl) (by kernel_rfl) (Nat.le_of_ble_eq_true hn) h

/-- slices.IndexFunc[[]stevedore/api.Pair,stevedore/api.Pair] -/
def c23 : C :=
  (.seq (.reg [⟨some 4, .mv, [.c (.p (.v (.int .i64 0)))], none⟩])
  (.seq (.seq (.reg [⟨some 6, .mv, [.t 0], none⟩,
   ⟨some 7, .len 0, [.t 6], none⟩,
   ⟨some 8, .mv, [.c (.p (.v (.int .i64 0)))], none⟩])
  (.block 0
  (.loop
  (.seq (.reg [⟨some 9, .bin .lss, [.t 8, .t 7], none⟩])
  (.seq (.cond (.t 9)
  .skip
  (.exit 0))
  (.seq (.block 1
  (.seq (.reg [⟨some 10, .mv, [.t 8], none⟩,
   ⟨some 5, .mv, [.t 10], none⟩])
  (.seq (.reg [⟨some 11, .mv, [.t 1], none⟩,
   ⟨some 12, .mv, [.t 0], none⟩,
   ⟨some 13, .mv, [.t 5], none⟩,
   ⟨some 14, .iad 2, [.t 12, .t 13], none⟩,
   ⟨some 15, .load 2 true, [.t 14], none⟩,
   ⟨some 16, .callv, [.t 11, .t 15], none⟩])
  (.cond (.t 16)
  (.seq (.reg [⟨some 17, .mv, [.t 5], none⟩,
     ⟨some 4, .mv, [.t 17], none⟩])
    .ret)
  .skip))))
  (.reg [⟨some 18, .bin .add, [.t 8, .c (.p (.v (.int .i64 1)))], none⟩,
   ⟨some 8, .mv, [.t 18], none⟩])))))))
  (.seq (.reg [⟨some 4, .mv, [.c (.p (.v (.int .i64 (-1))))], none⟩])
  .ret)))
theorem ret23 {ps : List PV} {p : PV} (hn : Nat.ble ps.length 19 = true) (h : (∀ q ∈ ps, q.bd) → Run Try.prog (fun e s' => (∀ id, e ≠ .exit id) ∧ ∃ ns, s'.out [.t 4] = some (p, ns)) [] c23 (S (initL 0 ps) [])) : Ret Try.prog 23 ps p :=
  ret_run Try.func23 rfl (by kernel_rfl) rfl (by kernel_rfl) (by kernel_rfl) (by kernel_rfl) (by kernel_rfl) (Nat.le_of_ble_eq_true hn) h

/-- (stevedore/table.Table[stevedore/api.Pair]).Find$1 -/
def c24 : C :=
  (.seq (.reg [⟨some 3, .box, [.t 0], none⟩,
   ⟨some 4, .mv, [.c (.p (.v (.bool false)))], none⟩])
  (.seq (.reg [⟨some 5, .fad 0, [.t 1], none⟩,
   ⟨some 6, .load 1 false, [.t 5], none⟩,
   ⟨some 7, .load 2 true, [.t 3], none⟩,
   ⟨some 8, .load 2 true, [.t 2], none⟩,
   ⟨some 9, .callv, [.t 6, .t 7, .t 8], none⟩,
   ⟨some 10, .bin .eql, [.t 9, .c (.p (.v (.int .i64 0)))], none⟩,
   ⟨some 4, .mv, [.t 10], none⟩])
  .ret))
theorem ret24 {ps : List PV} {p : PV} (hn : Nat.ble ps.length 11 = true) (h : (∀ q ∈ ps, q.bd) → Run Try.prog (fun e s' => (∀ id, e ≠ .exit id) ∧ ∃ ns, s'.out [.t 4] = some (p, ns)) [] c24 (S (initL 0 ps) [])) : Ret Try.prog 24 ps p :=
  ret_run Try.func24 rfl (by kernel_rfl) rfl (by kernel_rfl) (by kernel_rfl) (by kernel_rfl) (by kernel_rfl) (Nat.le_of_ble_eq_true hn) h

/-- (stevedore/table.Table[stevedore/api.Pair]).Put$1 -/
def c26 : C :=
  (.seq (.reg [⟨some 3, .box, [.t 0], none⟩,
   ⟨some 4, .mv, [.c (.p (.v (.bool false)))], none⟩])
  (.seq (.reg [⟨some 5, .fad 0, [.t 1], none⟩,
   ⟨some 6, .load 1 false, [.t 5], none⟩,
   ⟨some 7, .load 2 true, [.t 3], none⟩,
   ⟨some 8, .load 2 true, [.t 2], none⟩,
   ⟨some 9, .callv, [.t 6, .t 7, .t 8], none⟩,
   ⟨some 10, .bin .gtr, [.t 9, .c (.p (.v (.int .i64 0)))], none⟩,
   ⟨some 4, .mv, [.t 10], none⟩])
  .ret))
theorem ret26 {ps : List PV} {p : PV} (hn : Nat.ble ps.length 11 = true) (h : (∀ q ∈ ps, q.bd) → Run Try.prog (fun e s' => (∀ id, e ≠ .exit id) ∧ ∃ ns, s'.out [.t 4] = some (p, ns)) [] c26 (S (initL 0 ps) [])) : Ret Try.prog 26 ps p :=
  ret_run Try.func26 rfl (by kernel_rfl) rfl (by kernel_rfl) (by kernel_rfl) (by kernel_rfl) (by kernel_rfl) (Nat.le_of_ble_eq_true hn) h

/-- stevedore/stevedorelaw02.awake$1 -/
def c29 : C :=
  (.seq (.reg [⟨some 1, .box, [.t 0], none⟩,
   ⟨some 2, .mv, [.c (.p (.v (.bool false)))], none⟩])
  (.seq (.reg [⟨some 3, .fad 1, [.t 1], none⟩,
   ⟨some 4, .load 1 false, [.t 3], none⟩,
   ⟨some 5, .bin .eql, [.t 4, .c (.p (.v (.int .i64 1)))], none⟩,
   ⟨some 2, .mv, [.t 5], none⟩])
  .ret))
theorem ret29 {ps : List PV} {p : PV} (hn : Nat.ble ps.length 6 = true) (h : (∀ q ∈ ps, q.bd) → Run Try.prog (fun e s' => (∀ id, e ≠ .exit id) ∧ ∃ ns, s'.out [.t 2] = some (p, ns)) [] c29 (S (initL 0 ps) [])) : Ret Try.prog 29 ps p :=
  ret_run Try.func29 rfl (by kernel_rfl) rfl (by kernel_rfl) (by kernel_rfl) (by kernel_rfl) (by kernel_rfl) (Nat.le_of_ble_eq_true hn) h

end Go.Fw
