/- Contract of Place. -/
import Derived.Test.YtajkhijphdnbpaaRows
import Derived.Test.YtajkhijphdnbpaaPlain
import Derived.WalkSpells
import Derived.WalkLawsBesides
namespace Go.Proofs.Ytajkhijphdnbpaa
set_option linter.unusedVariables false
theorem ret_int {a b : Int} (h : a = b) : Ending.returned (.int .i64 a) = .returned (.int .i64 b) := by rw [h]
theorem place (v n : Int) (h1 : 1 ≤ n) (h2 : n ≤ 4611686018427387904) (W : World) : Calls Try.prog 19 #[.int .i64 v, .int .i64 n] W fun e W' => e = .returned (.int .i64 (v % n)) ∧ W = W' := by
  obtain ⟨t1, t2⟩ := tmod_bd v n h1
  go_enter Try.func19, Try.ntmps19
  go_wp2
  · go_ret
    exact ⟨ret_int (tmod_neg h1 (by assumption)), rfl⟩
  · go_ret
    exact ⟨ret_int (tmod_pos h1 (by assumption)), rfl⟩
end Go.Proofs.Ytajkhijphdnbpaa
