/- Contracts of Varint, of the reference's Varint, Zigzag and Unzigzag. -/
import Derived.Test.YthjkhambmgepdaaUvr
namespace Go.Proofs.Ythjkhambmgepdaa
open Go.RowKit
set_option linter.unusedVariables false
theorem uvGo_lt : ∀ (l : List UInt8) (n v o : Nat), n ≤ 9 → v < 128 ^ n → (uvGo l n v o).1 < 18446744073709551616
  | [], _, _, _, _, _ => by simp [uvGo]
  | x :: r, n, v, o, hn, hv => by
    unfold uvGo
    split
    · simp
    · rename_i h1
      split
      · simp
      · split
        · rename_i h2 h3
          simp only
          rcases Nat.lt_or_ge n 9 with h | h
          · have h4 := acc_lt hv h3
            have h5 := pow9 (k := n + 1) (by omega)
            omega
          · obtain rfl : n = 9 := by omega
            have h4 : x.toNat ≤ 1 := by omega
            have h5 : x.toNat * 128 ^ 9 ≤ 1 * 128 ^ 9 := Nat.mul_le_mul_right _ h4
            have h6 : (128 : Nat) ^ 9 = 9223372036854775808 := by decide +kernel
            rw [h6] at h5 hv ⊢
            omega
        · rename_i h2 h3
          exact uvGo_lt r (n + 1) _ _ (by omega) (acc_lt hv (Nat.mod_lt _ (by omega)))
theorem uvR_lt (bs : List UInt8) (off : Int) : (uvR bs off).1 < 18446744073709551616 := by
  unfold uvR
  split
  · simp
  · exact uvGo_lt _ _ _ _ (by omega) (by omega)
/-- Where it ends: behind at least one byte, within the bytes. -/
theorem uvGo_next : ∀ (l : List UInt8) (n v o : Nat), (uvGo l n v o).2.2 = 0 → o < (uvGo l n v o).2.1 ∧ (uvGo l n v o).2.1 ≤ o + l.length
  | [], _, _, _, h => by simp [uvGo] at h
  | x :: r, n, v, o, h => by
    unfold uvGo at h ⊢
    split
    · rename_i h1; simp [h1] at h
    · rename_i h1
      rw [if_neg h1] at h
      split
      · rename_i h2; simp [h2] at h
      · rename_i h2
        rw [if_neg h2] at h
        split
        · simp only [List.length_cons]; omega
        · rename_i h3
          rw [if_neg h3] at h
          have := uvGo_next r (n + 1) _ _ h
          simp only [List.length_cons]
          omega
theorem uvR_next {bs : List UInt8} {off : Int} (h : (uvR bs off).2.2 = 0) : 0 ≤ off ∧ off < (uvR bs off).2.1 ∧ (uvR bs off).2.1 ≤ bs.length := by
  unfold uvR at h ⊢
  split
  · rename_i h1; simp [h1] at h
  · rename_i h1
    rw [if_neg h1] at h
    have := uvGo_next _ _ _ _ h
    rw [List.length_drop] at this
    omega
def unzz (u : Nat) : Int := if u % 2 = 1 then -((u / 2 : Nat) : Int) - 1 else ((u / 2 : Nat) : Int)
def vR (bs : List UInt8) (off : Int) : Int × Nat × Nat := if (uvR bs off).2.2 = 0 then (unzz (uvR bs off).1, (uvR bs off).2.1, 0) else (0, 0, (uvR bs off).2.2)
def VPost (bs : List UInt8) (off : Int) (w : World) (e : Ending) (w' : World) : Prop := e = .returned (.tuple #[.int .i64 (vR bs off).1, .int .i64 ((vR bs off).2.1 : Nat), .int .i64 ((vR bs off).2.2 : Nat)]) ∧ w' = w
theorem and1u {u : Nat} (h : u < 18446744073709551616) : bits .and .u64 (u : Int) 1 = ((u % 2 : Nat) : Int) := by
  have := u64_and_nat u 1 h (by omega)
  rw [show u &&& 1 = u % 2 from Nat.and_two_pow_sub_one_eq_mod u 1] at this
  exact this
end Go.Proofs.Ythjkhambmgepdaa
