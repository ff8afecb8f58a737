/- Plain laws: what is encoded is decoded. -/
import Derived.Test.YthjkhambmgepdaaVar
import Derived.Test.YthjkhambmgepdaaUv
import Derived.Test.YthjkhambmgepdaaZig
namespace Go.Proofs.Ythjkhambmgepdaa
set_option linter.unusedVariables false
theorem uvByte_nat (v s i : Nat) : (uvByte v s i).toNat = v / 128 ^ i % 128 + if i + 1 < s then 128 else 0 := by
  unfold uvByte
  rw [UInt8.toNat_ofNat']
  have : v / 128 ^ i % 128 < 128 := Nat.mod_lt _ (by omega)
  split <;> omega
theorem uvB_drop (v s i : Nat) (h : i < s) : (uvB v s).drop i = uvByte v s i :: (uvB v s).drop (i + 1) := by
  rw [List.drop_eq_getElem_cons (by rw [uvB_len]; exact h)]
  simp [uvB]
theorem uvGo_enc {v s : Nat} (hg : Grp v s) (hv : v < 18446744073709551616) (r : List UInt8) (o : Nat) : ∀ j i, i + j = s → 0 < j → uvGo ((uvB v s).drop i ++ r) i (v % 128 ^ i) (o + i) = (v, o + s, 0)
  | 0, _, _, h => by omega
  | j + 1, i, hij, _ => by
    have hs10 := hg.le hv
    have hb := uvByte_nat v s i
    have hm : v / 128 ^ i % 128 < 128 := Nat.mod_lt _ (by omega)
    rw [uvB_drop v s i (by omega), List.cons_append, uvGo]
    by_cases hl : i + 1 < s
    · rw [if_pos hl] at hb
      rw [if_neg (by omega), if_neg (by omega), if_neg (by omega)]
      have e : v % 128 ^ i + (uvByte v s i).toNat % 128 * 128 ^ i = v % 128 ^ (i + 1) := by
        rw [hb, Nat.add_mod_right, Nat.mod_mod, Nat.mod_pow_succ, Nat.mul_comm]
      rw [e]
      exact uvGo_enc hg hv r o j (i + 1) (by omega) (by omega)
    · obtain rfl : s = i + 1 := by omega
      rw [if_neg hl] at hb
      have hd : v / 128 ^ i < 128 := (Nat.div_lt_iff_lt_mul (Nat.pow_pos (by omega))).2 (by have := hg.2.1; rw [Nat.pow_succ, Nat.mul_comm] at this; exact this)
      rw [Nat.mod_eq_of_lt hd] at hb
      have h9 : ¬ (i = 9 ∧ 1 < (uvByte v (i + 1) i).toNat) := by
        rintro ⟨rfl, h2⟩
        have h6 : (128 : Nat) ^ 9 = 9223372036854775808 := by decide +kernel
        rw [h6] at hb
        omega
      have h0 : ¬ (0 < i ∧ (uvByte v (i + 1) i).toNat = 0) := by
        rintro ⟨h1, h2⟩
        rcases hg.2.2 with h3 | h3
        · omega
        · rw [Nat.add_sub_cancel] at h3
          have := Nat.div_pos h3 (Nat.pow_pos (by omega))
          omega
      rw [if_neg h9, if_neg h0, if_pos (by omega), hb, Nat.add_zero]
      have e : v % 128 ^ i + v / 128 ^ i * 128 ^ i = v := by rw [Nat.mul_comm]; exact Nat.mod_add_div v (128 ^ i)
      rw [e]
      rfl
theorem uvR_enc {v s : Nat} (hg : Grp v s) (hv : v < 18446744073709551616) (h r : List UInt8) : uvR (h ++ (uvB v s ++ r)) (h.length : Nat) = (v, h.length + s, 0) := by
  unfold uvR
  rw [if_neg (by simp; omega)]
  have e : (h ++ (uvB v s ++ r)).drop ((h.length : Int).toNat) = (uvB v s).drop 0 ++ r := by simp
  rw [e]
  have := uvGo_enc hg hv r h.length s 0 (by omega) hg.1
  simpa [Nat.mod_one] using this
theorem unzz_zz {v : Int} (h0 : -9223372036854775808 ≤ v) (h1 : v < 9223372036854775808) : unzz (zz v) = v := by
  unfold zz
  split
  · rename_i h
    unfold unzz
    rw [if_pos (by omega)]
    omega
  · rename_i h
    unfold unzz
    rw [if_neg (by omega)]
    omega
theorem vR_enc {v : Int} {s : Nat} (h0 : -9223372036854775808 ≤ v) (h1 : v < 9223372036854775808) (hg : Grp (zz v) s) (h r : List UInt8) : vR (h ++ (uvB (zz v) s ++ r)) (h.length : Nat) = (v, h.length + s, 0) := by
  unfold vR
  rw [uvR_enc hg (zz_lt h0 h1), unzz_zz h0 h1]
  rfl
end Go.Proofs.Ythjkhambmgepdaa
