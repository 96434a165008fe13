/-
  The code of some functions, for the abstract machine. Printed by a program (wip/tools/mkir.py).
-/
import Derived.Test.YtikgpjnfifnilaaFwU
import Derived.Test.YtikgpjnfifnilaaProg
import Derived.KernelRfl
set_option linter.unusedVariables false
set_option maxRecDepth 100000
namespace Go.Fw
open Go.Proofs

/-- stevedore/stevedorelaw02.TableFinds -/
def c6 : C :=
  (.seq (.reg [⟨some 3, .box, [.t 1], none⟩,
   ⟨some 4, .mv, [.c (.p (.v (.bool false)))], none⟩])
  (.seq (.regd [⟨some 10, .call 9, [], none⟩,
   ⟨some 11, .mv, [.t 0], none⟩,
   ⟨some 12, .load 2 true, [.t 3], none⟩,
   ⟨some 13, .call 10, [.t 10, .t 11, .t 12], none⟩,
   ⟨some 9, .mv, [.t 13], none⟩,
   ⟨some 14, .ext 0, [.t 9], none⟩,
   ⟨some 15, .ext 1, [.t 9], none⟩,
   ⟨some 5, .mv, [.t 14], none⟩,
   ⟨some 6, .mv, [.t 15], none⟩])
  (.seq (.reg [⟨some 17, .mv, [.t 0], none⟩,
   ⟨some 18, .load 2 true, [.t 3], none⟩,
   ⟨some 19, .call 11, [.t 17, .t 18], none⟩,
   ⟨some 16, .mv, [.t 19], none⟩,
   ⟨some 20, .ext 0, [.t 16], none⟩,
   ⟨some 21, .ext 1, [.t 16], none⟩,
   ⟨some 7, .mv, [.t 20], none⟩,
   ⟨some 8, .mv, [.t 21], none⟩])
  (.seq (.reg [⟨some 22, .mv, [.t 5], none⟩,
   ⟨some 23, .mv, [.t 7], none⟩,
   ⟨some 24, .bin .eql, [.t 22, .t 23], none⟩,
   ⟨some 25, .mv, [.t 24], none⟩,
   ⟨some 26, .mv, [.t 6], some (25, true)⟩,
   ⟨some 27, .mv, [.t 8], some (25, true)⟩,
   ⟨some 28, .beq false, [.t 26, .t 27], some (25, true)⟩,
   ⟨some 29, .pick, [.t 25, .t 28, .c (.p (.v (.bool false)))], none⟩,
   ⟨some 30, .mv, [.t 29], none⟩,
   ⟨some 31, .call 21, [], some (30, true)⟩,
   ⟨some 32, .pick, [.t 30, .t 31, .c (.p (.v (.bool false)))], none⟩,
   ⟨some 4, .mv, [.t 32], none⟩])
  .ret))))
theorem ret6 {ps : List PV} {p : PV} (hn : Nat.ble ps.length 33 = true) (h : (∀ q ∈ ps, q.bd) → Run Try.prog (fun e s' => (∀ id, e ≠ .exit id) ∧ ∃ ns, s'.out [.t 4] = some (p, ns)) [] c6 (S (initL 0 ps) [])) : Ret Try.prog 6 ps p :=
  ret_run Try.func6 rfl (by kernel_rfl) rfl (by kernel_rfl) (by kernel_rfl) (by kernel_rfl) (by kernel_rfl) (Nat.le_of_ble_eq_true hn) h

/-- stevedore/stevedorelaw02.TablePuts -/
def c7 : C :=
  (.seq (.reg [⟨some 3, .box, [.t 1], none⟩,
   ⟨some 4, .mv, [.c (.p (.v (.bool false)))], none⟩])
  (.seq (.regd [⟨some 5, .call 9, [], none⟩,
   ⟨some 6, .mv, [.t 0], none⟩,
   ⟨some 7, .load 2 true, [.t 3], none⟩,
   ⟨some 8, .call 12, [.t 5, .t 6, .t 7], none⟩,
   ⟨some 9, .mv, [.t 0], none⟩,
   ⟨some 10, .load 2 true, [.t 3], none⟩,
   ⟨some 11, .call 13, [.t 9, .t 10], none⟩,
   ⟨some 12, .call 17, [.t 8, .t 11], none⟩,
   ⟨some 13, .mv, [.t 12], none⟩,
   ⟨some 14, .call 21, [], some (13, true)⟩,
   ⟨some 15, .pick, [.t 13, .t 14, .c (.p (.v (.bool false)))], none⟩,
   ⟨some 4, .mv, [.t 15], none⟩])
  .ret))
theorem ret7 {ps : List PV} {p : PV} (hn : Nat.ble ps.length 16 = true) (h : (∀ q ∈ ps, q.bd) → Run Try.prog (fun e s' => (∀ id, e ≠ .exit id) ∧ ∃ ns, s'.out [.t 4] = some (p, ns)) [] c7 (S (initL 0 ps) [])) : Ret Try.prog 7 ps p :=
  ret_run Try.func7 rfl (by kernel_rfl) rfl (by kernel_rfl) (by kernel_rfl) (by kernel_rfl) (by kernel_rfl) (Nat.le_of_ble_eq_true hn) h

/-- stevedore/stevedorelaw02.TableDrops -/
def c8 : C :=
  (.seq (.reg [⟨some 3, .box, [.t 1], none⟩,
   ⟨some 4, .mv, [.c (.p (.v (.bool false)))], none⟩])
  (.seq (.regd [⟨some 5, .call 9, [], none⟩,
   ⟨some 6, .mv, [.t 0], none⟩,
   ⟨some 7, .load 2 true, [.t 3], none⟩,
   ⟨some 8, .call 14, [.t 5, .t 6, .t 7], none⟩,
   ⟨some 9, .mv, [.t 0], none⟩,
   ⟨some 10, .load 2 true, [.t 3], none⟩,
   ⟨some 11, .call 18, [.t 9, .t 10], none⟩,
   ⟨some 12, .call 17, [.t 8, .t 11], none⟩,
   ⟨some 13, .mv, [.t 12], none⟩,
   ⟨some 14, .call 21, [], some (13, true)⟩,
   ⟨some 15, .pick, [.t 13, .t 14, .c (.p (.v (.bool false)))], none⟩,
   ⟨some 4, .mv, [.t 15], none⟩])
  .ret))
theorem ret8 {ps : List PV} {p : PV} (hn : Nat.ble ps.length 16 = true) (h : (∀ q ∈ ps, q.bd) → Run Try.prog (fun e s' => (∀ id, e ≠ .exit id) ∧ ∃ ns, s'.out [.t 4] = some (p, ns)) [] c8 (S (initL 0 ps) [])) : Ret Try.prog 8 ps p :=
  ret_run Try.func8 rfl (by kernel_rfl) rfl (by kernel_rfl) (by kernel_rfl) (by kernel_rfl) (by kernel_rfl) (Nat.le_of_ble_eq_true hn) h

/-- stevedore/stevedorelaw02.awake -/
def c21 : C :=
  (.seq (.reg [⟨some 0, .mv, [.c (.p (.v (.bool false)))], none⟩])
  (.seq (.reg [⟨some 5, .call 9, [], none⟩,
   ⟨some 6, .build [.v (.string ⟨#[]⟩), .v (.int .i64 0)] [(0, 1), (1, 1)], [.c (.p (.v (.string ⟨#[97]⟩))), .c (.p (.v (.int .i64 1)))], none⟩,
   ⟨some 7, .build [.v (.string ⟨#[]⟩), .v (.int .i64 0)] [(0, 1), (1, 1)], [.c (.p (.v (.string ⟨#[100]⟩))), .c (.p (.v (.int .i64 1)))], none⟩,
   ⟨some 8, .bsl 24 2 2 [.v (.string ⟨#[]⟩), .v (.int .i64 0)] [0, 1], [.t 6, .t 7], none⟩,
   ⟨some 9, .build [.v (.string ⟨#[]⟩), .v (.int .i64 0)] [(0, 1), (1, 1)], [.c (.p (.v (.string ⟨#[99]⟩))), .c (.p (.v (.int .i64 1)))], none⟩,
   ⟨some 10, .call 12, [.t 5, .t 8, .t 9], none⟩,
   ⟨some 1, .mv, [.t 10], none⟩])
  (.seq (.reg [⟨some 11, .call 9, [], none⟩,
   ⟨some 12, .mv, [.t 1], none⟩,
   ⟨some 13, .build [.v (.string ⟨#[]⟩), .v (.int .i64 0)] [(0, 1), (1, 1)], [.c (.p (.v (.string ⟨#[97]⟩))), .c (.p (.v (.int .i64 2)))], none⟩,
   ⟨some 14, .call 12, [.t 11, .t 12, .t 13], none⟩,
   ⟨some 2, .mv, [.t 14], none⟩])
  (.seq (.reg [⟨some 16, .call 9, [], none⟩,
   ⟨some 17, .mv, [.t 2], none⟩,
   ⟨some 18, .build [.v (.string ⟨#[]⟩), .v (.int .i64 0)] [(0, 1)], [.c (.p (.v (.string ⟨#[98]⟩)))], none⟩,
   ⟨some 19, .call 10, [.t 16, .t 17, .t 18], none⟩,
   ⟨some 15, .mv, [.t 19], none⟩,
   ⟨some 20, .ext 0, [.t 15], none⟩,
   ⟨some 21, .ext 1, [.t 15], none⟩,
   ⟨some 3, .mv, [.t 20], none⟩,
   ⟨some 4, .mv, [.t 21], none⟩])
  (.seq (.regd [⟨some 22, .mv, [.t 2], none⟩,
   ⟨some 23, .build [.v (.string ⟨#[]⟩), .v (.int .i64 0)] [(0, 1), (1, 1)], [.c (.p (.v (.string ⟨#[97]⟩))), .c (.p (.v (.int .i64 2)))], none⟩,
   ⟨some 24, .build [.v (.string ⟨#[]⟩), .v (.int .i64 0)] [(0, 1), (1, 1)], [.c (.p (.v (.string ⟨#[99]⟩))), .c (.p (.v (.int .i64 1)))], none⟩,
   ⟨some 25, .build [.v (.string ⟨#[]⟩), .v (.int .i64 0)] [(0, 1), (1, 1)], [.c (.p (.v (.string ⟨#[100]⟩))), .c (.p (.v (.int .i64 1)))], none⟩,
   ⟨some 26, .bsl 24 2 3 [.v (.string ⟨#[]⟩), .v (.int .i64 0)] [0, 1, 2], [.t 23, .t 24, .t 25], none⟩,
   ⟨some 27, .call 17, [.t 22, .t 26], none⟩,
   ⟨some 28, .mv, [.t 27], none⟩,
   ⟨some 29, .mv, [.t 4], some (28, true)⟩,
   ⟨some 30, .un .not, [.t 29], some (28, true)⟩,
   ⟨some 31, .pick, [.t 28, .t 30, .c (.p (.v (.bool false)))], none⟩,
   ⟨some 32, .mv, [.t 31], none⟩,
   ⟨some 33, .call 9, [], some (32, true)⟩,
   ⟨some 34, .mv, [.t 2], some (32, true)⟩,
   ⟨some 35, .build [.v (.string ⟨#[]⟩), .v (.int .i64 0)] [(0, 1)], [.c (.p (.v (.string ⟨#[97]⟩)))], some (32, true)⟩,
   ⟨some 36, .call 14, [.t 33, .t 34, .t 35], some (32, true)⟩,
   ⟨some 37, .mv, [.t 2], some (32, true)⟩,
   ⟨some 38, .slc 2 true false, [.t 37, .c (.p (.v (.int .i64 1)))], some (32, true)⟩,
   ⟨some 39, .call 17, [.t 36, .t 38], some (32, true)⟩,
   ⟨some 40, .pick, [.t 32, .t 39, .c (.p (.v (.bool false)))], none⟩,
   ⟨some 41, .mv, [.t 40], none⟩,
   ⟨some 42, .call 9, [], some (41, true)⟩,
   ⟨some 43, .mv, [.t 2], some (41, true)⟩,
   ⟨some 44, .call 19, [.t 42, .t 43], some (41, true)⟩,
   ⟨some 45, .pick, [.t 41, .t 44, .c (.p (.v (.bool false)))], none⟩,
   ⟨some 46, .mv, [.t 45], none⟩,
   ⟨some 47, .mv, [.t 2], some (46, true)⟩,
   ⟨some 48, .call 15, [.t 47, .c (.p (.clo 29 []))], some (46, true)⟩,
   ⟨some 49, .len 0, [.t 48], some (46, true)⟩,
   ⟨some 50, .bin .eql, [.t 49, .c (.p (.v (.int .i64 2)))], some (46, true)⟩,
   ⟨some 51, .pick, [.t 46, .t 50, .c (.p (.v (.bool false)))], none⟩,
   ⟨some 0, .mv, [.t 51], none⟩])
  .ret)))))
theorem ret21 {ps : List PV} {p : PV} (hn : Nat.ble ps.length 52 = true) (h : (∀ q ∈ ps, q.bd) → Run Try.prog (fun e s' => (∀ id, e ≠ .exit id) ∧ ∃ ns, s'.out [.t 0] = some (p, ns)) [] c21 (S (initL 0 ps) [])) : Ret Try.prog 21 ps p :=
  ret_run Try.func21 rfl (by kernel_rfl) rfl (by kernel_rfl) (by kernel_rfl) (by kernel_rfl) (by kernel_rfl) (Nat.le_of_ble_eq_true hn) h

end Go.Fw
