/- Plain laws on the Internet checksum as a function on lists of bytes. -/
import Derived.WalkKit
namespace Go.Proofs.Ythjkhambmgepdaa
set_option linter.unusedVariables false
def normS (T : Nat) : Nat := if T = 0 then 0 else (T - 1) % 65535 + 1
def addS (s w : Nat) : Nat := if s + w > 65535 then s + w - 65535 else s + w
theorem normS_le (T : Nat) : normS T ≤ 65535 := by unfold normS; split <;> omega
theorem addS_norm (T w : Nat) (h : w ≤ 65535) : addS (normS T) w = normS (T + w) := by
  unfold addS normS
  by_cases h0 : T = 0
  · subst h0
    by_cases hw : w = 0
    · subst hw; rfl
    · rw [if_pos rfl, if_neg (by omega), if_neg (by omega)]; omega
  · rw [if_neg h0, if_neg (show T + w ≠ 0 by omega)]
    split <;> omega
def WS : List UInt8 → Nat
  | [] => 0
  | [a] => a.toNat * 256
  | a :: b :: r => a.toNat * 256 + b.toNat + WS r
theorem WS_append : ∀ (as bs : List UInt8), as.length % 2 = 0 → WS (as ++ bs) = WS as + WS bs
  | [], bs, _ => by simp [WS]
  | [a], bs, h => by simp at h
  | a :: b :: r, bs, h => by
    have ih := WS_append r bs (by simp at h; omega)
    simp only [List.cons_append, WS, ih]
    omega
def sum16 (bs : List UInt8) : Nat := 65535 - normS (WS bs)
theorem sum16_le (bs : List UInt8) : sum16 bs ≤ 65535 := by unfold sum16; omega
theorem sum_self (b : List UInt8) (h : b.length % 2 = 0) (x y : UInt8) (hx : x.toNat * 256 + y.toNat = sum16 b) : sum16 (b ++ [x, y]) = 0 := by
  have hw : WS [x, y] = sum16 b := by simp [WS]; exact hx
  unfold sum16 at hx ⊢
  rw [WS_append _ _ h, hw]
  unfold sum16 normS
  split <;> split <;> omega
theorem sum_zero_end (b : List UInt8) (h : b.length % 2 = 0) (x : UInt8) : sum16 (b ++ [x]) = sum16 (b ++ [x] ++ [0]) := by
  have e : WS (b ++ [x] ++ [0]) = WS (b ++ [x]) := by
    rw [List.append_assoc, WS_append _ _ h, WS_append _ _ h]
    simp [WS]
  unfold sum16
  rw [e]
end Go.Proofs.Ythjkhambmgepdaa
