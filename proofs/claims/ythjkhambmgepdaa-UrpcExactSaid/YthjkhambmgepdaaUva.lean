/- Contract of the reference's AppendUvarint. -/
import Derived.Test.YthjkhambmgepdaaAfix
import Derived.Test.YthjkhambmgepdaaWuv
namespace Go.Proofs.Ythjkhambmgepdaa
open Go.RowKit
set_option linter.unusedVariables false
theorem or128u64 {x : Nat} (h : x < 128) : bits .or .u64 (x : Int) 128 = ((x + 128 : Nat) : Int) := by
  have := u64_or_nat x 128 (by omega) (by omega)
  have e := Nat.two_pow_add_eq_or_of_lt (i := 7) h 1
  rw [Nat.or_comm, show (128 : Nat) = 2 ^ 7 * 1 from rfl, ← e] at this
  rw [show x + 128 = 2 ^ 7 * 1 + x by omega]
  exact this
set_option maxRecDepth 20000 in
set_option maxHeartbeats 2000000 in
theorem append_uvown (A : Option Addr) (n c : Nat) (bs : List UInt8) (v s : Nat) (w : World) (hA : IsB w A n bs) (hn : n ≤ 1000000) (hv : v < 18446744073709551616) (hg : Grp v s) :
    Calls Try.prog 129 #[.slice A n c, .int .u64 v] w (fun e w' => ∃ A' n' c', e = .returned (.slice A' n' c') ∧ OwnB w' w.heap.size 5 A' n' c' (bs ++ uvB v s) ∧ Below w.heap.size w w') := by
  have hl := Lib.hid hA.1
  have HG := Lib.hid hg
  have hs10 := hg.le hv
  have hl1 : 0 + n ≤ 140737488355328 := by omega
  go_enter Try.func129, Try.ntmps129
  go_upto_region 2 with ((at_builtin; (refine wp_append_b (P := Try.prog) rfl _ _ 44 rfl Try.underlying44 info_b (OwnB.nil w w.heap.size 5) hA hl1 (Nat.le_refl _) rfl rfl ?_); intro A1 n1 c1 w1 hn1 ho1 hb1 hg1 hat1))
  have ho2 : OwnB w1 w.heap.size 5 A1 n1 c1 (bs ++ (uvB v s).take 0) := by simpa using ho1
  clear hg1 hat1 ho1 hg
  go_loopw [1, 5] (fun x o wr => ∃ (k : Nat) (A8 : Option Addr) (n8 c8 : Nat), k < s ∧ x = .int .u64 (v / 128 ^ k : Nat) ∧ o = .slice A8 n8 c8 ∧ (k = 0 ∨ 128 ^ k ≤ v) ∧ OwnB wr w.heap.size 5 A8 n8 c8 (bs ++ (uvB v s).take k) ∧ Below w.heap.size w wr) (fun x _ _ => (intOf x).toNat)
  case atStart => exact ⟨0, A1, n1, c1, by have := HG.out.1; omega, by go_num, rfl, .inl rfl, ho2, hb1⟩
  case round =>
    obtain ⟨k, A8, n8, c8, hk, rfl, rfl, hkv, ho8, hb8⟩ := hrel
    have hV : v / 128 ^ k < 18446744073709551616 := Nat.lt_of_le_of_lt (Nat.div_le_self _ _) hv
    have HD := Lib.hid (div_step v k)
    have HT := Lib.hid (uvB_take v s k hk)
    have HUb : Hid (uvByte v s k = UInt8.ofNat (v / 128 ^ k % 128 + if k + 1 < s then 128 else 0)) := Lib.hid rfl
    have l8 : n8 + 1 ≤ 140737488355328 := by have h1 := ho8.len; have h2 := hl.out; simp [uvB_len] at h1; omega
    have HK : Hid (128 ≤ v / 128 ^ k → k + 1 < s ∧ 128 ^ (k + 1) ≤ v) := Lib.hid (fun h => by
      have h1 : 128 ^ (k + 1) ≤ v := by
        rw [Nat.pow_succ, Nat.mul_comm]
        exact (Nat.le_div_iff_mul_le (Nat.pow_pos (by omega))).1 h
      refine ⟨?_, h1⟩
      rcases Nat.lt_or_ge (k + 1) s with h2 | h2
      · exact h2
      · have h3 := HG.out.2.1
        have h4 : 128 ^ s ≤ 128 ^ (k + 1) := Nat.pow_le_pow_right (by omega) h2
        omega)
    have HZ : Hid (v / 128 ^ k < 128 → k + 1 = s) := Lib.hid (fun h => by
      refine Grp.uniq (v := v) ⟨by omega, ?_, ?_⟩ HG.out
      · rw [Nat.pow_succ, Nat.mul_comm]
        exact (Nat.div_lt_iff_lt_mul (Nat.pow_pos (by omega))).1 h
      · rcases hkv with h1 | h1
        · exact .inl (by omega)
        · exact .inr (by simpa using h1))
    clear hkv
    generalize v / 128 ^ k = V at *
    by_cases hV1 : 128 ≤ V
    · obtain ⟨hk1, hkv⟩ := HK.out hV1
      have HKV := Lib.hid hkv
      have HB : Value.int .u8 (bits .or .u64 (bits .and .u64 (V : Int) 127) 128 % 256) = bv (uvByte v s k) := by
        rw [and127 hV, or128u64 (Nat.mod_lt _ (by omega)), HUb.out, if_pos hk1, ← bv_nat _ (by omega)]
        congr 1
        omega
      have i1 : ∀ w : World, IsB (w.alloc (.cells #[.int .u8 (bits .or .u64 (bits .and .u64 (V : Int) 127) 128 % 256)] 5)) (some ⟨w.heap.size, 0, none⟩) 1 [uvByte v s k] := fun w => by
        rw [HB]
        exact IsB.lit w 5 (0, 0) [uvByte v s k]
      have hd : V / 128 < V := by omega
      clear hkv HB HUb
      go_wp2_with ((at_builtin; (refine wp_append_b (P := Try.prog) rfl _ _ 44 rfl Try.underlying44 info_b (OwnB.alloc ho8 _) (i1 _) l8 (by have := hb8.size; simp; omega) rfl rfl ?_); intro A2 n2 c2 w2 hn2 ho2 hb2 hg2 hat2))
      exact ⟨⟨k + 1, A2, n2, c2, hk1, by rw [← HD.out]; go_num, rfl, .inr HKV.out, by rw [HT.out, ← List.append_assoc]; exact ho2, (hb8.alloc hb8.size _).trans hb2⟩, by simp [intOf]; omega⟩
    · have hks := HZ.out (by omega)
      have HB : Value.int .u8 (V : Int) = bv (uvByte v s k) := by
        rw [HUb.out, if_neg (by omega), ← bv_nat _ (by omega)]
        congr 1
        omega
      have i1 : ∀ w : World, IsB (w.alloc (.cells #[.int .u8 (V : Int)] 5)) (some ⟨w.heap.size, 0, none⟩) 1 [uvByte v s k] := fun w => by
        rw [HB]
        exact IsB.lit w 5 (0, 0) [uvByte v s k]
      clear HB HUb
      go_wp2_with ((at_builtin; (refine wp_append_b (P := Try.prog) rfl _ _ 44 rfl Try.underlying44 info_b (OwnB.alloc ho8 _) (i1 _) l8 (by have := hb8.size; simp; omega) rfl rfl ?_); intro A2 n2 c2 w2 hn2 ho2 hb2 hg2 hat2))
      go_ret
      refine ⟨A2, n2, c2, rfl, ?_, (hb8.alloc hb8.size _).trans hb2⟩
      have hi := ho2
      rw [List.append_assoc, ← HT.out, hks, List.take_of_length_le (by rw [uvB_len]; omega)] at hi
      exact hi
theorem append_uvref (A : Option Addr) (n c : Nat) (bs : List UInt8) (v s : Nat) (w : World) (hA : IsB w A n bs) (hn : n ≤ 1000000) (hv : v < 18446744073709551616) (hg : Grp v s) :
    Calls Try.prog 129 #[.slice A n c, .int .u64 v] w (GivesB w (bs ++ uvB v s)) :=
  (append_uvown A n c bs v s w hA hn hv hg).mono fun e w' ⟨A', n', c', he, ho, hb⟩ => ⟨A', n', c', he, ho.isB, hb⟩
end Go.Proofs.Ythjkhambmgepdaa
