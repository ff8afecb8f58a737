/- Plain laws on variable-length integers. -/
import Derived.WalkKit
namespace Go.Proofs.Ythjkhambmgepdaa
set_option linter.unusedVariables false
/-- Byte i of an encoding of s groups. -/
def uvByte (v s i : Nat) : UInt8 := UInt8.ofNat (v / 128 ^ i % 128 + if i + 1 < s then 128 else 0)
def uvB (v s : Nat) : List UInt8 := (List.range s).map (uvByte v s)
/-- s is the number of groups of v. -/
def Grp (v s : Nat) : Prop := 1 ≤ s ∧ v < 128 ^ s ∧ (s = 1 ∨ 128 ^ (s - 1) ≤ v)
theorem Grp.le {v s : Nat} (h : Grp v s) (hv : v < 18446744073709551616) : s ≤ 10 := by
  rcases h.2.2 with h1 | h1
  · omega
  · rcases Nat.lt_or_ge 10 s with h2 | h2
    · have : 128 ^ 10 ≤ 128 ^ (s - 1) := Nat.pow_le_pow_right (by omega) (by omega)
      have e : (128 : Nat) ^ 10 = 1180591620717411303424 := by decide
      omega
    · exact h2
theorem Grp.uniq {v s t : Nat} (h : Grp v s) (k : Grp v t) : s = t := by
  rcases Nat.lt_trichotomy s t with hl | hl | hl
  · rcases k.2.2 with h1 | h1
    · have := h.1; omega
    · have : 128 ^ s ≤ 128 ^ (t - 1) := Nat.pow_le_pow_right (by omega) (by omega)
      have := h.2.1; omega
  · exact hl
  · rcases h.2.2 with h1 | h1
    · have := k.1; omega
    · have : 128 ^ t ≤ 128 ^ (s - 1) := Nat.pow_le_pow_right (by omega) (by omega)
      have := k.2.1; omega
theorem uvB_len (v s : Nat) : (uvB v s).length = s := by simp [uvB]
theorem uvB_take (v s i : Nat) (h : i < s) : (uvB v s).take (i + 1) = (uvB v s).take i ++ [uvByte v s i] := by
  rw [List.take_succ_eq_append_getElem (by rw [uvB_len]; exact h)]
  simp [uvB]
end Go.Proofs.Ythjkhambmgepdaa
