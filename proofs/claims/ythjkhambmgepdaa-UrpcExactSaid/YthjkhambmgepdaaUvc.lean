/- Plain laws: what is decoded is the encoding of what it yields, and a part of it that is shorter is cut off. -/
import Derived.Test.YthjkhambmgepdaaUve
import Derived.Test.YthjkhambmgepdaaByt
namespace Go.Proofs.Ythjkhambmgepdaa
set_option linter.unusedVariables false
theorem byte_of {x : UInt8} {v s i : Nat} (h : x.toNat = v / 128 ^ i % 128 + if i + 1 < s then 128 else 0) : x = uvByte v s i := by
  apply UInt8.toNat_inj.1
  rw [uvByte_nat]
  exact h
theorem uvGo_conv : ∀ (l : List UInt8) (i acc o v n : Nat), uvGo l i acc o = (v, n, 0) → i ≤ 9 → acc < 128 ^ i →
    ∃ j, 0 < j ∧ n = o + j ∧ j ≤ l.length ∧ l.take j = (uvB v (i + j)).drop i ∧ Grp v (i + j) ∧ v % 128 ^ i = acc ∧ uvGo (l.take (j - 1)) i acc o = (0, 0, 52)
  | [], _, _, _, _, _, h, _, _ => by simp [uvGo] at h
  | x :: r, i, acc, o, v, n, h, hi, ha => by
    have hx256 := x.toNat_lt
    have hp := Nat.pow_pos (n := i) (show 0 < 128 by omega)
    rw [uvGo] at h
    by_cases h1 : i = 9 ∧ 1 < x.toNat
    · rw [if_pos h1] at h; simp at h
    · rw [if_neg h1] at h
      by_cases h2 : 0 < i ∧ x.toNat = 0
      · rw [if_pos h2] at h; simp at h
      · rw [if_neg h2] at h
        by_cases h3 : x.toNat < 128
        · rw [if_pos h3] at h
          simp only [Prod.mk.injEq] at h
          obtain ⟨hv, hn, _⟩ := h
          have hd : v / 128 ^ i = x.toNat := by
            rw [← hv, Nat.add_mul_div_right _ _ hp, Nat.div_eq_of_lt ha, Nat.zero_add]
          refine ⟨1, by omega, hn.symm, by simp, ?_, ⟨by omega, ?_, ?_⟩, ?_, rfl⟩
          · rw [uvB_drop v (i + 1) i (by omega), List.drop_eq_nil_of_le (by rw [uvB_len]; omega)]
            rw [byte_of (x := x) (v := v) (s := i + 1) (i := i) (by rw [if_neg (by omega), hd, Nat.mod_eq_of_lt h3, Nat.add_zero])]
            rfl
          · rw [← hv]; exact acc_lt ha h3
          · rcases Nat.eq_zero_or_pos i with h4 | h4
            · exact .inl (by omega)
            · have h5 : 1 * 128 ^ i ≤ x.toNat * 128 ^ i := Nat.mul_le_mul_right _ (by have : x.toNat ≠ 0 := fun e => h2 ⟨h4, e⟩; omega)
              exact .inr (by simp only [Nat.add_sub_cancel]; omega)
          · rw [← hv, Nat.add_mul_mod_self_right, Nat.mod_eq_of_lt ha]
        · rw [if_neg h3] at h
          have hi9 : i + 1 ≤ 9 := by omega
          obtain ⟨j, j0, hn, hjl, ht, hg, hm, hc⟩ := uvGo_conv r (i + 1) _ (o + 1) v n h hi9 (acc_lt ha (Nat.mod_lt _ (by omega)))
          have e1 : i + 1 + j = i + (j + 1) := by omega
          rw [e1] at ht hg
          have hm0 : v % 128 ^ i = acc := by
            have h5 : v % 128 ^ (i + 1) % 128 ^ i = v % 128 ^ i := Nat.mod_mod_of_dvd _ (by rw [Nat.pow_succ]; exact Nat.dvd_mul_right _ _)
            rw [← h5, hm, Nat.add_mul_mod_self_right, Nat.mod_eq_of_lt ha]
          have hq : v / 128 ^ i % 128 = x.toNat % 128 := by
            have h5 := Nat.mod_pow_succ (x := v) (b := 128) (k := i)
            rw [hm, hm0, Nat.mul_comm (128 ^ i)] at h5
            have h6 : x.toNat % 128 * 128 ^ i = v / 128 ^ i % 128 * 128 ^ i := by omega
            exact (Nat.eq_of_mul_eq_mul_right hp h6).symm
          refine ⟨j + 1, by omega, by omega, by simp; omega, ?_, hg, hm0, ?_⟩
          · rw [List.take_succ_cons, ht, uvB_drop v (i + (j + 1)) i (by omega)]
            rw [byte_of (x := x) (v := v) (s := i + (j + 1)) (i := i) (by rw [if_pos (by omega), hq]; omega)]
          · rw [show j + 1 - 1 = (j - 1) + 1 by omega, List.take_succ_cons, uvGo, if_neg h1, if_neg h2, if_neg h3]
            exact hc
theorem uvR_conv {bs : List UInt8} {o v n : Nat} (h : uvR bs (o : Nat) = (v, n, 0)) : ∃ j, 0 < j ∧ n = o + j ∧ o + j ≤ bs.length ∧ (bs.drop o).take j = uvB v j ∧ Grp v j ∧ uvR (bs.take (n - 1)) (o : Nat) = (0, 0, 52) := by
  have hh := h
  unfold uvR at h
  by_cases h1 : (o : Int) < 0 ∨ (bs.length : Int) < o
  · rw [if_pos h1] at h; simp at h
  · rw [if_neg h1] at h
    obtain ⟨j, j0, hn, hjl, ht, hg, _, hc⟩ := uvGo_conv _ 0 0 _ v n h (by omega) (by omega)
    rw [Int.toNat_natCast] at *
    rw [List.length_drop] at hjl
    rw [Nat.zero_add] at hg ht
    refine ⟨j, j0, hn, by omega, by simpa using ht, hg, ?_⟩
    unfold uvR
    rw [if_neg (by rw [List.length_take]; omega), Int.toNat_natCast, List.drop_take, show n - 1 - o = j - 1 by omega]
    exact hc
theorem zz_unzz {u : Nat} (h : u < 18446744073709551616) : zz (unzz u) = u ∧ -9223372036854775808 ≤ unzz u ∧ unzz u < 9223372036854775808 := by
  unfold unzz
  split
  · refine ⟨?_, by omega, by omega⟩
    unfold zz
    rw [if_pos (by omega)]
    omega
  · refine ⟨?_, by omega, by omega⟩
    unfold zz
    rw [if_neg (by omega)]
    omega
theorem bR_conv {bs ps : List UInt8} {o k : Nat} {limit : Int} (h : bR bs (o : Nat) limit = (ps, k, 0)) : ∃ v j, uvR bs (o : Nat) = (v, o + j, 0) ∧ v = ps.length ∧ 0 < j ∧ k = o + (j + v) ∧ o + (j + v) ≤ bs.length ∧ Grp v j ∧ (bs.drop o).take (j + v) = uvB v j ++ ps := by
  unfold bR at h
  by_cases h1 : (o : Int) < 0 ∨ (bs.length : Int) < o ∨ limit < 0
  · rw [if_pos h1] at h; simp at h
  · rw [if_neg h1] at h
    by_cases h2 : (uvR bs (o : Nat)).2.2 ≠ 0
    · rw [if_pos h2] at h
      simp only [Prod.mk.injEq] at h
      omega
    · rw [if_neg h2] at h
      by_cases h3 : limit < (uvR bs (o : Nat)).1
      · rw [if_pos h3] at h; simp at h
      · rw [if_neg h3] at h
        by_cases h4 : bs.length - (uvR bs (o : Nat)).2.1 < (uvR bs (o : Nat)).1
        · rw [if_pos h4] at h; simp at h
        · rw [if_neg h4] at h
          obtain ⟨v, n, e⟩ : ∃ v n, uvR bs (o : Nat) = (v, n, 0) := ⟨_, _, by
            have : (uvR bs (o : Nat)).2.2 = 0 := by omega
            rw [← this]⟩
          rw [e] at h h4
          simp only [Prod.mk.injEq] at h
          obtain ⟨j, j0, hn, hjl, ht, hg, _⟩ := uvR_conv e
          simp only at h4
          obtain ⟨hp, hk, _⟩ := h
          subst hn
          have hlen : ps.length = v := by rw [← hp]; simp; omega
          refine ⟨v, j, e, hlen.symm, j0, by omega, by omega, hg, ?_⟩
          rw [List.take_add, ht, List.drop_drop, hp]
end Go.Proofs.Ythjkhambmgepdaa
