/- Contracts of the small functions of chapter 15 (Geometry, ValidAddr, Index and their references), for every argument. -/
import Derived.Test.YtonloimepfojdaaRows
import Derived.WalkKit
import Derived.WalkSpells
import Derived.WalkLawsBesides
import Derived.Deep.QuietTactic
import Derived.BigQuiet
import Derived.Lib.Hide
namespace Go.Proofs.Ytonloimepfojdaa
open Go.RowKit
set_option linter.unusedVariables false
theorem results_tmp4 {fn : Func} {t u v x : Tmp} (h : fn.results = #[.tmp t, .tmp u, .tmp v, .tmp x]) (tmps : Array Value) (P : Program) (w : World) :
    (results fn tmps).run P w = .ok (.tuple #[tmps.getD t undef, tmps.getD u undef, tmps.getD v undef, tmps.getD x undef]) w := by simp [results, h]
theorem ret_int {k : IntKind} {a b : Int} (h : a = b) : Ending.returned (.int k a) = .returned (.int k b) := by rw [h]
theorem ret_bool {a b : Bool} (h : a = b) : Ending.returned (.bool a) = .returned (.bool b) := by rw [h]
def lev (w : Int) : Int := if w = 32 then 2 else if w = 39 then 3 else 0
def ib (w : Int) : Int := if w = 32 then 10 else if w = 39 then 9 else 0
def eb (w : Int) : Int := if w = 32 then 4 else if w = 39 then 8 else 0
def okw (w : Int) : Bool := decide (w = 32 ∨ w = 39)
def va (w a : Int) : Bool := decide (w = 32 ∧ 0 ≤ a ∧ a < 4294967296 ∨ w = 39 ∧ 0 ≤ a ∧ a < 549755813888)
def idx (w l a : Int) : Int :=
  if va w a = false then 0 else
  if w = 32 then (if l = 0 then a / 4096 % 1024 else if l = 1 then a / 4194304 % 1024 else 0)
  else (if l = 0 then a / 4096 % 512 else if l = 1 then a / 2097152 % 512 else if l = 2 then a / 1073741824 % 512 else 0)
theorem w_cases (w : Int) : w = 32 ∨ w = 39 ∨ ((w == 32) = false ∧ (w == 39) = false ∧ w ≠ 32 ∧ w ≠ 39) := by
  simp only [beq_eq_false_iff_ne]; omega
theorem geom (w : Int) (W : World) : Calls Try.prog 10 #[.int .i64 w] W fun e W' => e = .returned (.tuple #[.int .i64 (lev w), .int .i64 (ib w), .int .i64 (eb w), .bool (okw w)]) ∧ W = W' := by
  rcases w_cases w with rfl | rfl | ⟨h1, h2, h3, h4⟩
  · go_enter Try.func10, Try.ntmps10
    go_wp2
    refine bodyPost_ret (results_tmp4 rfl _ _ _) rfl ?_
    exact ⟨rfl, rfl⟩
  · go_enter Try.func10, Try.ntmps10
    go_wp2
    refine bodyPost_ret (results_tmp4 rfl _ _ _) rfl ?_
    exact ⟨rfl, rfl⟩
  · go_enter Try.func10, Try.ntmps10
    go_wp2
    refine bodyPost_ret (results_tmp4 rfl _ _ _) rfl ?_
    exact ⟨by simp [lev, ib, eb, okw, h3, h4], rfl⟩
theorem levels (w : Int) (W : World) : Calls Try.prog 11 #[.int .i64 w] W fun e W' => e = .returned (.int .i64 (lev w)) ∧ W = W' := by
  rcases w_cases w with rfl | rfl | ⟨h1, h2, h3, h4⟩ <;>
  · go_enter Try.func11, Try.ntmps11
    go_wp2
    go_ret
    exact ⟨ret_int (by simp [lev, *]), rfl⟩
theorem ibits (w : Int) (W : World) : Calls Try.prog 12 #[.int .i64 w] W fun e W' => e = .returned (.int .i64 (ib w)) ∧ W = W' := by
  rcases w_cases w with rfl | rfl | ⟨h1, h2, h3, h4⟩ <;>
  · go_enter Try.func12, Try.ntmps12
    go_wp2
    go_ret
    exact ⟨ret_int (by simp [ib, *]), rfl⟩
theorem ebytes (w : Int) (W : World) : Calls Try.prog 13 #[.int .i64 w] W fun e W' => e = .returned (.int .i64 (eb w)) ∧ W = W' := by
  rcases w_cases w with rfl | rfl | ⟨h1, h2, h3, h4⟩ <;>
  · go_enter Try.func13, Try.ntmps13
    go_wp2
    go_ret
    exact ⟨ret_int (by simp [eb, *]), rfl⟩
theorem okw_no {w : Int} (h3 : w ≠ 32) (h4 : w ≠ 39) : okw w = false := by simp [okw, h3, h4]
theorem va_no {w a : Int} (h3 : w ≠ 32) (h4 : w ≠ 39) : va w a = false := by simp [va, h3, h4]
theorem valid_addr (w a : Int) (W : World) : Calls Try.prog 14 #[.int .i64 w, .int .i64 a] W fun e W' => e = .returned (.bool (va w a)) ∧ W = W' := by
  rcases w_cases w with rfl | rfl | ⟨h1, h2, h3, h4⟩
  · have e1 : okw 32 = true := rfl
    go_enter Try.func14, Try.ntmps14
    go_wp2_with (go_at_call 10; refine (geom _ _).mono ?_; rintro e w' ⟨rfl, rfl⟩)
    all_goals
      go_ret
      exact ⟨ret_bool (by simp [va] <;> omega), rfl⟩
  · have e1 : okw 39 = true := rfl
    go_enter Try.func14, Try.ntmps14
    go_wp2_with (go_at_call 10; refine (geom _ _).mono ?_; rintro e w' ⟨rfl, rfl⟩)
    all_goals
      go_ret
      exact ⟨ret_bool (by simp [va] <;> omega), rfl⟩
  · have e1 := okw_no h3 h4
    go_enter Try.func14, Try.ntmps14
    go_wp2_with (go_at_call 10; refine (geom _ _).mono ?_; rintro e w' ⟨rfl, rfl⟩)
    all_goals
      go_ret
      exact ⟨ret_bool (by simp [va, h3, h4]), rfl⟩
theorem valid_addr_ref (w a : Int) (W : World) : Calls Try.prog 15 #[.int .i64 w, .int .i64 a] W fun e W' => e = .returned (.bool (va w a)) ∧ W = W' := by
  rcases w_cases w with rfl | rfl | ⟨h1, h2, h3, h4⟩ <;>
  · go_enter Try.func15, Try.ntmps15
    go_wp2
    all_goals
      go_ret
      exact ⟨ret_bool (by simp [va, *] <;> omega), rfl⟩
end Go.Proofs.Ytonloimepfojdaa
