/- Contracts of the two Sum16 functions. -/
import Derived.Test.YthjkhambmgepdaaRows
import Derived.Test.YthjkhambmgepdaaSum
import Derived.Test.YthjkhambmgepdaaRow
import Derived.Test.YthjkhambmgepdaaBits
import Derived.WalkSpells
import Derived.WalkLawsBesides
import Derived.Lib.Hide
namespace Go.Proofs.Ythjkhambmgepdaa
open Go.RowKit
set_option linter.unusedVariables false
theorem ret_s {k : IntKind} {a b : Int} (h : a = b) : Ending.returned (.int k a) = .returned (.int k b) := by rw [h]
theorem compl16 {x : Nat} (h : x ≤ 65535) : 65535 ^^^ x = 65535 - x := by
  have e : (65535 : Nat) = 2 ^ 16 - 1 := by decide
  rw [e]
  apply Nat.eq_of_testBit_eq
  intro i
  rw [show 2 ^ 16 - 1 - x = 2 ^ 16 - (x + 1) by omega, Nat.testBit_two_pow_sub_succ (by omega), Nat.testBit_xor, Nat.testBit_two_pow_sub_one]
  by_cases hi : i < 16
  · simp [hi]
  · have : x.testBit i = false := Nat.testBit_lt_two_pow (Nat.lt_of_lt_of_le (show x < 2 ^ 16 by omega) (Nat.pow_le_pow_right (by omega) (by omega)))
    simp [hi, this]
theorem or_word {x y : Nat} (hx : x < 256) (hy : y < 256) : bits .or .u32 ((x : Int) * 256) (y : Int) = ((x * 256 + y : Nat) : Int) := by
  have h := u32_or_nat (x * 256) y (by omega) (by omega)
  have e := Nat.two_pow_add_eq_or_of_lt (i := 8) hy x
  rw [show x * 256 = 2 ^ 8 * x by omega, ← e] at h
  have e2 : ((2 ^ 8 * x : Nat) : Int) = (x : Int) * 256 := by omega
  rw [e2] at h
  rw [h]; omega
theorem WS_two {bs : List UInt8} {k : Nat} (h : k + 1 < bs.length) (hk : k % 2 = 0) : WS (bs.take (k + 2)) = WS (bs.take k) + (bs[k].toNat * 256 + bs[k + 1].toNat) := by
  rw [List.take_succ_eq_append_getElem h, List.take_succ_eq_append_getElem (by omega), List.append_assoc, WS_append _ _ (by simp; omega)]
  simp [WS]
theorem WS_one {bs : List UInt8} {k : Nat} (h : k + 1 = bs.length) (hk : k % 2 = 0) : WS (bs.take (k + 2)) = WS (bs.take k) + bs[k].toNat * 256 := by
  have e0 : bs.take k ++ [bs[k]] = bs := by rw [← List.take_succ_eq_append_getElem (by omega)]; exact List.take_of_length_le (by omega)
  rw [List.take_of_length_le (by omega)]
  have := WS_append (bs.take k) [bs[k]] (by simp; omega)
  rw [e0] at this
  simpa [WS] using this
theorem int_val {k : IntKind} {a b : Int} (h : a = b) : Value.int k a = Value.int k b := by rw [h]
theorem addS_gt {s w : Nat} (h : 65535 < s + w) : addS s w = s + w - 65535 := by simp [addS, h]
theorem addS_le {s w : Nat} (h : s + w ≤ 65535) : addS s w = s + w := by simp [addS]; omega
theorem and_ffff {T : Int} (h0 : 0 ≤ T) (h1 : T < 4294967296) : bits .and .u32 T 65535 = T % 65536 := by
  obtain ⟨n, rfl⟩ := Int.eq_ofNat_of_zero_le h0
  have := u32_and_nat n 65535 (by omega) (by omega)
  rw [show n &&& 65535 = n % 65536 from Nat.and_two_pow_sub_one_eq_mod n 16] at this
  exact this
def SumPost (bs : List UInt8) (w : World) (e : Ending) (w' : World) : Prop := e = .returned (.int .u16 (sum16 bs)) ∧ w = w'
set_option maxHeartbeats 1000000 in
theorem sum_ref (A : Option Addr) (n c : Nat) (bs : List UInt8) (w : World) (hA : IsB w A n bs) (hn : n ≤ 1000000000) :
    Calls Try.prog 96 #[.slice A n c] w (SumPost bs w) := by
  have hl := Lib.hid hA.1
  go_enter Try.func96, Try.ntmps96
  go_wp2
  go_loop [3, 4] (fun s i => ∃ k : Nat, k ≤ n + 1 ∧ k % 2 = 0 ∧ i = .int .i64 k ∧ s = .int .u32 (normS (WS (bs.take k)) : Nat)) (fun _ i => n + 2 - (intOf i).toNat)
  case atStart => exact ⟨0, by omega, rfl, rfl, rfl⟩
  case round =>
    obtain ⟨k, hk, he, rfl, rfl⟩ := hrel
    have hE := Lib.hid he
    clear he
    have hs := normS_le (WS (bs.take k))
    by_cases hlt : k < n
    · obtain ⟨b, o, rfl, _, hc⟩ := hA.at_ (by omega)
      have hkl : k < bs.length := by have := hl.out; omega
      have hck := hc k hkl
      have hx : bs[k].toNat < 256 := bs[k].toNat_lt
      by_cases h2 : k + 1 < n
      · have hkl2 : k + 1 < bs.length := by have := hl.out; omega
        have hck2 := hc (k + 1) hkl2
        have ea : o + (k + 1) = o + k + 1 := by omega
        have hx2 : bs[k + 1].toNat < 256 := bs[k + 1].toNat_lt
        have HS : Hid (normS (WS (bs.take (k + 2))) = addS (normS (WS (bs.take k))) (bs[k].toNat * 256 + bs[k + 1].toNat)) := Lib.hid (by rw [addS_norm _ _ (by omega), WS_two hkl2 hE.out])
        generalize normS (WS (bs.take k)) = s at *
        generalize bs[k].toNat = x at *
        generalize bs[k + 1].toNat = y at *
        have e1 := or_word hx hx2
        clear hc ea
        rcases (by omega : 65535 < s + (x * 256 + y) ∨ s + (x * 256 + y) ≤ 65535) with hg | hg
        · have HL := Lib.hid (addS_gt hg)
          go_wp2
          exact ⟨⟨k + 2, by omega, by have := hE.out; omega, by go_num, by rw [HS.out, HL.out]; exact int_val (by omega)⟩, by simp [intOf]; omega⟩
        · have HL := Lib.hid (addS_le hg)
          go_wp2
          exact ⟨⟨k + 2, by omega, by have := hE.out; omega, by go_num, by rw [HS.out, HL.out]; go_num⟩, by simp [intOf]; omega⟩
      · have HS : Hid (normS (WS (bs.take (k + 2))) = addS (normS (WS (bs.take k))) (bs[k].toNat * 256)) := Lib.hid (by rw [addS_norm _ _ (by omega), WS_one (by have := hl.out; omega) hE.out])
        generalize normS (WS (bs.take k)) = s at *
        generalize bs[k].toNat = x at *
        clear hc
        rcases (by omega : 65535 < s + x * 256 ∨ s + x * 256 ≤ 65535) with hg | hg
        · have HL := Lib.hid (addS_gt hg)
          go_wp2
          exact ⟨⟨k + 2, by omega, by have := hE.out; omega, by go_num, by rw [HS.out, HL.out]; exact int_val (by omega)⟩, by simp [intOf]; omega⟩
        · have HL := Lib.hid (addS_le hg)
          go_wp2
          exact ⟨⟨k + 2, by omega, by have := hE.out; omega, by go_num, by rw [HS.out, HL.out]; go_num⟩, by simp [intOf]; omega⟩
    · have ht : bs.take k = bs := List.take_of_length_le (by have := hl.out; omega)
      rw [ht] at hs ⊢
      clear ht
      have e1 := u16_xor_nat 65535 _ (by omega) (show normS (WS bs) < 65536 by omega)
      go_wp2
      go_ret
      exact ⟨ret_s (by unfold sum16; rw [← compl16 hs, ← e1]; rfl), rfl⟩
set_option maxHeartbeats 1000000 in
theorem sum16_any (A : Option Addr) (n c : Nat) (bs : List UInt8) (w : World) (hA : IsB w A n bs) (hn : n ≤ 1000000000) :
    Calls Try.prog 97 #[.slice A n c] w (SumPost bs w) := by
  have hl := Lib.hid hA.1
  go_enter Try.func97, Try.ntmps97
  go_wp2
  go_loop [3, 4] (fun s i => ∃ k : Nat, k ≤ n + 1 ∧ k % 2 = 0 ∧ i = .int .i64 k ∧ s = .int .u32 (normS (WS (bs.take k)) : Nat)) (fun _ i => n + 2 - (intOf i).toNat)
  case atStart => exact ⟨0, by omega, rfl, rfl, rfl⟩
  case round =>
    obtain ⟨k, hk, he, rfl, rfl⟩ := hrel
    have hE := Lib.hid he
    clear he
    have hs := normS_le (WS (bs.take k))
    by_cases hlt : k < n
    · obtain ⟨b, o, rfl, _, hc⟩ := hA.at_ (by omega)
      have hkl : k < bs.length := by have := hl.out; omega
      have hck := hc k hkl
      have hx : bs[k].toNat < 256 := bs[k].toNat_lt
      by_cases h2 : k + 1 < n
      · have hkl2 : k + 1 < bs.length := by have := hl.out; omega
        have hck2 := hc (k + 1) hkl2
        have ea : o + (k + 1) = o + k + 1 := by omega
        have hx2 : bs[k + 1].toNat < 256 := bs[k + 1].toNat_lt
        have HS : Hid (normS (WS (bs.take (k + 2))) = addS (normS (WS (bs.take k))) (bs[k].toNat * 256 + bs[k + 1].toNat)) := Lib.hid (by rw [addS_norm _ _ (by omega), WS_two hkl2 hE.out])
        generalize normS (WS (bs.take k)) = s at *
        generalize bs[k].toNat = x at *
        generalize bs[k + 1].toNat = y at *
        have e1 := or_word hx hx2
        clear hc ea
        rcases (by omega : 65535 < s + (x * 256 + y) ∨ s + (x * 256 + y) ≤ 65535) with hg | hg
        · have HL := Lib.hid (addS_gt hg)
          have eM := and_ffff (T := (s : Int) + ((x : Int) * 256 + (y : Int))) (by omega) (by omega)
          go_wp2
          exact ⟨⟨k + 2, by omega, by have := hE.out; omega, by go_num, by rw [HS.out, HL.out]; exact int_val (by omega)⟩, by simp [intOf]; omega⟩
        · have HL := Lib.hid (addS_le hg)
          go_wp2
          exact ⟨⟨k + 2, by omega, by have := hE.out; omega, by go_num, by rw [HS.out, HL.out]; go_num⟩, by simp [intOf]; omega⟩
      · have HS : Hid (normS (WS (bs.take (k + 2))) = addS (normS (WS (bs.take k))) (bs[k].toNat * 256)) := Lib.hid (by rw [addS_norm _ _ (by omega), WS_one (by have := hl.out; omega) hE.out])
        generalize normS (WS (bs.take k)) = s at *
        generalize bs[k].toNat = x at *
        clear hc
        rcases (by omega : 65535 < s + x * 256 ∨ s + x * 256 ≤ 65535) with hg | hg
        · have HL := Lib.hid (addS_gt hg)
          have eM := and_ffff (T := (s : Int) + (x : Int) * 256) (by omega) (by omega)
          go_wp2
          exact ⟨⟨k + 2, by omega, by have := hE.out; omega, by go_num, by rw [HS.out, HL.out]; exact int_val (by omega)⟩, by simp [intOf]; omega⟩
        · have HL := Lib.hid (addS_le hg)
          go_wp2
          exact ⟨⟨k + 2, by omega, by have := hE.out; omega, by go_num, by rw [HS.out, HL.out]; go_num⟩, by simp [intOf]; omega⟩
    · have ht : bs.take k = bs := List.take_of_length_le (by have := hl.out; omega)
      rw [ht] at hs ⊢
      clear ht
      have e1 := u16_xor_nat 65535 _ (by omega) (show normS (WS bs) < 65536 by omega)
      go_wp2
      go_ret
      exact ⟨ret_s (by unfold sum16; rw [← compl16 hs, ← e1]; rfl), rfl⟩
end Go.Proofs.Ythjkhambmgepdaa
