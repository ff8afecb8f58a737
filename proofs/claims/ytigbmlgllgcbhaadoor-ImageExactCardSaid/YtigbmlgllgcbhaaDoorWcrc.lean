/- Contracts of the two CRC32 functions. -/
import Derived.Test.YtigbmlgllgcbhaaDoorRows
import Derived.Test.YtigbmlgllgcbhaaDoorCrc
import Derived.Test.YtigbmlgllgcbhaaDoorRow
import Derived.Test.YtigbmlgllgcbhaaDoorBits
import Derived.WalkSpells
import Derived.WalkLawsBesides
import Derived.Lib.Hide
namespace Go.Proofs.YtigbmlgllgcbhaaDoor
open Go.RowKit
set_option linter.unusedVariables false
theorem itL_succ (n c : Nat) : itL (n + 1) c = crcL (itL n c) := by rw [itL_add n 1]; rfl
theorem crcL_odd {c : Nat} (h : c % 2 = 1) : crcL c = c / 2 ^^^ 3988292384 := by simp [crcL, h]
theorem crcL_even {c : Nat} (h : c % 2 = 0) : crcL c = c / 2 := by simp [crcL, h]
theorem and1_u32 {D r : Nat} (h : D < 4294967296) (hr : D % 2 = r) : bits .and .u32 (D : Int) 1 = (r : Int) := by
  have := u32_and_nat D 1 h (by omega)
  rw [nat_mask1, hr] at this
  exact this
theorem take_snoc {bs : List UInt8} {k : Nat} (h : k < bs.length) : bs.take (k + 1) = bs.take k ++ [bs[k]] := by
  rw [List.take_succ_eq_append_getElem h]
theorem ret_k {k : IntKind} {a b : Int} (h : a = b) : Ending.returned (.int k a) = .returned (.int k b) := by rw [h]
def CrcPost (bs : List UInt8) (w : World) (e : Ending) (w' : World) : Prop := e = .returned (.int .u32 (crc bs)) ∧ w = w'
set_option maxHeartbeats 1000000 in
theorem crc_ref (A : Option Addr) (n c : Nat) (bs : List UInt8) (w : World) (hA : IsB w A n bs) (hn : n ≤ 1000000000) :
    Calls Tryd.prog 38 #[.slice A n c] w (CrcPost bs w) := by
  have hl := Lib.hid hA.1
  go_enter Tryd.func38, Tryd.ntmps38
  go_wp2
  go_loop [3, 4] (fun s i => ∃ k : Nat, k ≤ n ∧ i = .int .i64 k ∧ s = .int .u32 (crcS 4294967295 (bs.take k) : Nat)) (fun _ i => n - (intOf i).toNat)
  case atStart => exact ⟨0, by omega, rfl, rfl⟩
  case round =>
    obtain ⟨k, hk, rfl, rfl⟩ := hrel
    by_cases hlt : k < n
    · obtain ⟨b, o, rfl, _, hc⟩ := hA.at_ (by omega)
      have hkl : k < bs.length := by have := hl.out; omega
      have hck := hc k hkl
      have hx : bs[k].toNat < 256 := bs[k].toNat_lt
      have hC : crcS 4294967295 (bs.take k) < 4294967296 := crcS_lt (by omega) _
      have HS : Hid (crcS 4294967295 (bs.take (k + 1)) = itL 8 (crcS 4294967295 (bs.take k) ^^^ bs[k].toNat)) := Lib.hid (by rw [take_snoc hkl, crcS_snoc])
      generalize crcS 4294967295 (bs.take k) = C at *
      generalize bs[k].toNat = x at *
      have hD : C ^^^ x < 4294967296 := Nat.xor_lt_two_pow (n := 32) hC (by omega)
      have e1 := u32_xor_nat C x hC (by omega)
      clear hc
      go_wp2
      go_loop [3, 5] (fun s i => ∃ j : Nat, j ≤ 8 ∧ i = .int .i64 j ∧ s = .int .u32 (itL j (C ^^^ x) : Nat)) (fun _ i => 8 - (intOf i).toNat)
      case atStart => exact ⟨0, by omega, rfl, rfl⟩
      case round =>
        obtain ⟨j, hj, rfl, rfl⟩ := hrel
        by_cases hj8 : j < 8
        · have HJ := Lib.hid (itL_succ j (C ^^^ x))
          have hD' : itL j (C ^^^ x) < 4294967296 := itL_lt j hD
          generalize itL j (C ^^^ x) = D at *
          have e2 := u32_xor_nat (D / 2) 3988292384 (by omega) (by omega)
          have e3 : ((D / 2 : Nat) : Int) = (D : Int) / 2 := by omega
          rw [e3] at e2
          have e4 : ((3988292384 : Nat) : Int) = 3988292384 := rfl
          rw [e4] at e2
          clear e3 e4
          rcases Nat.mod_two_eq_zero_or_one D with hp | hp
          · have hp' : bits .and .u32 (D : Int) 1 = 0 := and1_u32 hD' hp
            have HL := Lib.hid (crcL_even hp)
            clear hp
            go_wp2
            exact ⟨⟨j + 1, by omega, by go_num, by rw [HJ.out, HL.out]; go_num⟩, by simp [intOf]; omega⟩
          · have hp' : bits .and .u32 (D : Int) 1 = 1 := and1_u32 hD' hp
            have HL := Lib.hid (crcL_odd hp)
            clear hp
            go_wp2
            exact ⟨⟨j + 1, by omega, by go_num, by rw [HJ.out, HL.out]⟩, by simp [intOf]; omega⟩
        · obtain rfl : j = 8 := by omega
          go_wp2
          exact ⟨⟨k + 1, by omega, by go_num, by rw [HS.out]⟩, by simp [intOf]; omega⟩
    · obtain rfl : k = n := by omega
      have hC : crcS 4294967295 bs < 4294967296 := crcS_lt (by omega) _
      have ht : bs.take k = bs := List.take_of_length_le (by have := hl.out; omega)
      rw [ht]
      clear ht
      have e1 := u32_xor_nat 4294967295 _ (by omega) hC
      go_wp2
      go_ret
      exact ⟨ret_k (by unfold crc; rw [compl_xor hC, ← e1]; rfl), rfl⟩
theorem split256 (C : Nat) : C = (C / 256 * 2 ^ 8) ^^^ (C % 256) := by
  apply Nat.eq_of_testBit_eq
  intro i
  rw [Nat.testBit_xor, Nat.testBit_mul_two_pow, show C % 256 = C % 2 ^ 8 from rfl, Nat.testBit_mod_two_pow, show C / 256 = C / 2 ^ 8 from rfl, Nat.testBit_div_two_pow]
  by_cases h : i < 8
  · simp [h, show ¬ 8 ≤ i by omega]
  · simp [h, show 8 ≤ i by omega, show i - 8 + 8 = i by omega]
theorem tab_step (C x : Nat) : itL 8 (C ^^^ x) = C / 256 ^^^ itL 8 (C % 256 ^^^ x) := by
  have h := split256 C
  rw [show C ^^^ x = (C / 256 * 2 ^ 8) ^^^ (C % 256 ^^^ x) by rw [← Nat.xor_assoc, ← h], itL_xor, itL_shift]
def tab (k : Nat) : Array Value := ((List.range 256).map fun i => if i < k then Value.int .u32 (itL 8 i : Nat) else Value.int .u32 0).toArray
theorem tab_get (k i : Nat) (h : i < 256) : (tab k)[i]? = some (if i < k then Value.int .u32 (itL 8 i : Nat) else Value.int .u32 0) := by simp [tab, h]
theorem tab_set (k : Nat) (h : k < 256) : (tab k).setIfInBounds k (.int .u32 (itL 8 k : Nat)) = tab (k + 1) := by
  apply Array.ext_getElem?
  intro i
  rw [Array.getElem?_setIfInBounds]
  by_cases hi : i < 256
  · rw [tab_get _ _ hi, tab_get _ _ hi]
    by_cases e : k = i
    · subst e; simp [tab, h]
    · have : (i < k + 1) ↔ (i < k) := by omega
      simp [e, this]
  · have h1 : ∀ m, (tab m)[i]? = none := fun m => by simp [tab]; omega
    rw [h1, h1, if_neg (by omega)]
theorem zero_tab (w : World) : (zeroValue 77).run Tryd.prog w = .ok (.agg (tab 0)) w := by kernel_rfl
set_option maxHeartbeats 4000000 in
set_option maxRecDepth 100000 in
theorem crc32 (A : Option Addr) (n c : Nat) (bs : List UInt8) (w : World) (hA : IsB w A n bs) (hn : n ≤ 1000000000) :
    Calls Tryd.prog 28 #[.slice A n c] w fun e w' => e = .returned (.int .u32 (crc bs)) ∧ Below w.heap.size w w' := by
  have hl := Lib.hid hA.1
  have hz := zero_tab
  go_enter Tryd.func28, Tryd.ntmps28
  go_wp2
  clear hz
  go_loopw [10] (fun i wr => ∃ k : Nat, k ≤ 256 ∧ i = .int .i64 k ∧ Row wr w.heap.size 77 (tab k) ∧ Below w.heap.size w wr) (fun i _ => 256 - (intOf i).toNat)
  case atStart => exact ⟨0, by omega, rfl, Row.born _ _ _, (Below.refl _ _).alloc (Nat.le_refl _) _⟩
  case round =>
    obtain ⟨k, hk, rfl, hr, hB⟩ := hrel
    by_cases hlt : k < 256
    · have hkc := hr.cell k
      rw [tab_get k k hlt] at hkc
      have hkf := hr.frozen k
      go_wp2
      go_loop [5, 6] (fun s i => ∃ j : Nat, j ≤ 8 ∧ i = .int .i64 j ∧ s = .int .u32 (itL j k : Nat)) (fun _ i => 8 - (intOf i).toNat)
      case atStart => exact ⟨0, by omega, rfl, rfl⟩
      case round =>
        obtain ⟨j, hj, rfl, rfl⟩ := hrel
        by_cases hj8 : j < 8
        · have HJ := Lib.hid (itL_succ j k)
          have hD' : itL j k < 4294967296 := itL_lt j (by omega)
          generalize itL j k = D at *
          have e2 := u32_xor_nat (D / 2) 3988292384 (by omega) (by omega)
          have e3 : ((D / 2 : Nat) : Int) = (D : Int) / 2 := by omega
          rw [e3] at e2
          have e4 : ((3988292384 : Nat) : Int) = 3988292384 := rfl
          rw [e4] at e2
          clear e3 e4
          rcases Nat.mod_two_eq_zero_or_one D with hp | hp
          · have hp' : bits .and .u32 (D : Int) 1 = 0 := and1_u32 hD' hp
            have HL := Lib.hid (crcL_even hp)
            clear hp
            go_wp2
            exact ⟨⟨j + 1, by omega, by go_num, by rw [HJ.out, HL.out]; go_num⟩, by simp [intOf]; omega⟩
          · have hp' : bits .and .u32 (D : Int) 1 = 1 := and1_u32 hD' hp
            have HL := Lib.hid (crcL_odd hp)
            clear hp
            go_wp2
            exact ⟨⟨j + 1, by omega, by go_num, by rw [HJ.out, HL.out]⟩, by simp [intOf]; omega⟩
        · obtain rfl : j = 8 := by omega
          go_wp2
          exact ⟨⟨k + 1, by omega, by go_num, by rw [← tab_set k hlt]; exact hr.set k _, hB.setCell (Nat.le_refl _) _⟩, by simp [intOf]; omega⟩
    · obtain rfl : k = 256 := by omega
      have hAr := hA.below hB
      go_wp2
      go_loop [7, 33] (fun s i => ∃ k : Nat, k ≤ n ∧ i = .int .i64 k ∧ s = .int .u32 (crcS 4294967295 (bs.take k) : Nat)) (fun _ i => n - (intOf i).toNat)
      case atStart => exact ⟨0, by omega, rfl, rfl⟩
      case round =>
        obtain ⟨k, hk, rfl, rfl⟩ := hrel
        by_cases hlt : k < n
        · obtain ⟨b, o, rfl, _, hc⟩ := hAr.at_ (by omega)
          have hkl : k < bs.length := by have := hl.out; omega
          have hck := hc k hkl
          have hx : bs[k].toNat < 256 := bs[k].toNat_lt
          have hC : crcS 4294967295 (bs.take k) < 4294967296 := crcS_lt (by omega) _
          have HS : Hid (crcS 4294967295 (bs.take (k + 1)) = crcS 4294967295 (bs.take k) / 256 ^^^ itL 8 (crcS 4294967295 (bs.take k) % 256 ^^^ bs[k].toNat)) := Lib.hid (by rw [take_snoc hkl, crcS_snoc, tab_step])
          generalize crcS 4294967295 (bs.take k) = C at *
          generalize bs[k].toNat = x at *
          have e1 := u8_xor_nat (C % 256) x (by omega) hx
          have e0 : ((C % 256 : Nat) : Int) = (C : Int) % 256 := by omega
          rw [e0] at e1
          clear e0
          have hy : C % 256 ^^^ x < 256 := Nat.xor_lt_two_pow (n := 8) (by omega) (by omega)
          have hyi : ((C % 256 ^^^ x : Nat) : Int) < 256 := by omega
          generalize C % 256 ^^^ x = y at *
          have hty := hr.cell y
          rw [tab_get 256 y hy, if_pos hy] at hty
          have e2 := u32_xor_nat (C / 256) (itL 8 y) (by omega) (itL_lt 8 (by omega))
          have e3 : ((C / 256 : Nat) : Int) = (C : Int) / 256 := by omega
          rw [e3] at e2
          clear hc e3
          go_wp2
          exact ⟨⟨k + 1, by omega, by go_num, by rw [HS.out]⟩, by simp [intOf]; omega⟩
        · obtain rfl : k = n := by omega
          have hC : crcS 4294967295 bs < 4294967296 := crcS_lt (by omega) _
          have ht : bs.take k = bs := List.take_of_length_le (by have := hl.out; omega)
          rw [ht]
          clear ht
          have e1 := u32_xor_nat 4294967295 _ (by omega) hC
          go_wp2
          go_ret
          exact ⟨ret_k (by unfold crc; rw [compl_xor hC, ← e1]; rfl), hB⟩
end Go.Proofs.YtigbmlgllgcbhaaDoor
