/- Plain laws on the zigzag of a signed integer. -/
import Derived.WalkKit
namespace Go.Proofs.Ythjkhambmgepdaa
open Go.RowKit
set_option linter.unusedVariables false
theorem compl64 {x : Nat} (h : x < 2 ^ 64) : (2 ^ 64 - 1) ^^^ x = 2 ^ 64 - 1 - x := by
  apply Nat.eq_of_testBit_eq
  intro i
  rw [show 2 ^ 64 - 1 - x = 2 ^ 64 - (x + 1) by omega, Nat.testBit_two_pow_sub_succ h, Nat.testBit_xor, Nat.testBit_two_pow_sub_one]
  by_cases hi : i < 64
  · simp [hi]
  · have : x.testBit i = false := Nat.testBit_lt_two_pow (Nat.lt_of_lt_of_le h (Nat.pow_le_pow_right (by omega) (by omega)))
    simp [hi, this]
def zz (v : Int) : Nat := if v < 0 then (-(v + 1)).toNat * 2 + 1 else v.toNat * 2
theorem zpos {v : Int} (h0 : 0 ≤ v) (h1 : v < 9223372036854775808) : bits .xor .u64 (v * 2) (v / 9223372036854775808) = (zz v : Nat) := by
  have e : v / 9223372036854775808 = 0 := by omega
  rw [e]
  have h2 := u64_xor_nat (v.toNat * 2) 0 (by omega) (by omega)
  have e2 : ((v.toNat * 2 : Nat) : Int) = v * 2 := by omega
  rw [e2] at h2
  have e3 : zz v = v.toNat * 2 := by unfold zz; rw [if_neg (by omega)]
  rw [e3]
  simp only [Nat.xor_zero] at h2
  exact h2
theorem zneg {v : Int} (h0 : v < 0) (h1 : -9223372036854775808 ≤ v) :
    bits .xor .u64 (IntKind.u64.wrap (IntKind.u64.wrap v * 2)) (IntKind.u64.wrap (v / 9223372036854775808)) = (zz v : Nat) := by
  have e : v / 9223372036854775808 = -1 := by omega
  have e3 : zz v = (-(v + 1)).toNat * 2 + 1 := by unfold zz; rw [if_pos h0]
  have a1 : IntKind.u64.wrap (-1) = ((2 ^ 64 - 1 : Nat) : Int) := by rw [IntKind.wrap_u64]; omega
  have a2 : IntKind.u64.wrap (IntKind.u64.wrap v * 2) = ((2 ^ 64 - 1 - ((-(v + 1)).toNat * 2 + 1) : Nat) : Int) := by
    rw [IntKind.wrap_u64, IntKind.wrap_u64]; omega
  rw [e, a1, a2, u64_xor_nat _ _ (by omega) (by omega), e3, Nat.xor_comm, compl64 (by omega)]
  omega
theorem zz_lt {v : Int} (h0 : -9223372036854775808 ≤ v) (h1 : v < 9223372036854775808) : zz v < 18446744073709551616 := by unfold zz; split <;> omega
end Go.Proofs.Ythjkhambmgepdaa
