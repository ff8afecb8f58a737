/- Plain lemmas on the bit operations of the model's integers. -/
import Derived.WalkKit
namespace Go.Proofs.YtigbmlgllgcbhaaDoor
set_option linter.unusedVariables false
open Go.RowKit
theorem ofInt_i64 (a : Nat) (ha : a < 9223372036854775808) : (BitVec.ofInt 64 (a : Int)).toNat = a := by
  rw [BitVec.ofInt_natCast, BitVec.toNat_ofNat]; exact Nat.mod_eq_of_lt (by omega)
theorem i64_and_nat (a b : Nat) (ha : a < 9223372036854775808) (hb : b < 9223372036854775808) : bits .and .i64 (a : Int) (b : Int) = ((a &&& b : Nat) : Int) := by
  have hx : a &&& b < 2 ^ 63 := Nat.and_lt_two_pow _ (by omega)
  show IntKind.i64.wrap ((BitVec.ofInt 64 (a : Int) &&& BitVec.ofInt 64 (b : Int)).toNat : Int) = _
  rw [BitVec.toNat_and, ofInt_i64 a ha, ofInt_i64 b hb, IntKind.wrap_i64]
  omega
theorem and_mask_i64 (x : Int) (k : Nat) (hk : 2 ^ k ≤ 9223372036854775808) (m : Int) (hm : m = ((2 ^ k - 1 : Nat) : Int)) (h0 : 0 ≤ x) (h1 : x < 9223372036854775808) :
    bits .and .i64 x m = x % ((2 ^ k : Nat) : Int) := by
  obtain ⟨n, rfl⟩ := Int.eq_ofNat_of_zero_le h0
  have hp : 0 < 2 ^ k := Nat.two_pow_pos k
  rw [hm, i64_and_nat n (2 ^ k - 1) (by omega) (by omega), Nat.and_two_pow_sub_one_eq_mod]
  rfl
end Go.Proofs.YtigbmlgllgcbhaaDoor
