/- Plain lemmas on integers. -/
import Derived.WalkKit
namespace Go.Proofs.YtigbmlgllgcbhaaDoor
set_option linter.unusedVariables false
theorem tmod_cases (v n : Int) (hn : 1 ≤ n) : (0 ≤ v.tmod n ∧ v.tmod n = v % n) ∨ (v.tmod n < 0 ∧ v.tmod n + n = v % n) := by
  have e := @Int.tmod_eq_emod v n
  have hb : (n.natAbs : Int) = n := Int.natAbs_of_nonneg (by omega)
  have m0 := Int.emod_nonneg v (show n ≠ 0 by omega)
  have m1 := Int.emod_lt_of_pos v (show 0 < n by omega)
  split at e <;> omega
theorem tmod_pos {v n : Int} (hn : 1 ≤ n) (h : 0 ≤ v.tmod n) : v.tmod n = v % n := by have := tmod_cases v n hn; omega
theorem tmod_neg {v n : Int} (hn : 1 ≤ n) (h : v.tmod n < 0) : v.tmod n + n = v % n := by have := tmod_cases v n hn; omega
theorem tmod_bd (v n : Int) (hn : 1 ≤ n) : -n ≤ v.tmod n ∧ v.tmod n < n := by
  have m0 := Int.emod_nonneg v (show n ≠ 0 by omega)
  have m1 := Int.emod_lt_of_pos v (show 0 < n by omega)
  have := tmod_cases v n hn; omega
end Go.Proofs.YtigbmlgllgcbhaaDoor
