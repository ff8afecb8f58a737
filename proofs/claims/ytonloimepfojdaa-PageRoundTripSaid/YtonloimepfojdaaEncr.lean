/- Contract of the reference's Encode, for every argument. -/
import Derived.Test.YtonloimepfojdaaEnc
namespace Go.Proofs.Ytonloimepfojdaa
open Go.RowKit
set_option linter.unusedVariables false
set_option maxHeartbeats 4000000 in
theorem encode_ref_no (w : Int) (p l : Bool) (r b : Int) (W : World) (h1 : (w == 32) = false) (h2 : (w == 39) = false) (h3 : w ≠ 32) (h4 : w ≠ 39) :
    Calls Try.prog 22 #[.int .i64 w, .agg #[.bool p, .bool l, .int .i64 r, .int .i64 b]] W (EncPost w p l r b W) := by
  have h5 : (w != 32) = true := by simpa using h3
  have h6 : (w != 39) = true := by simpa using h4
  go_enter Try.func22, Try.ntmps22
  go_wp2
  go_ret2
  exact ⟨by simp [encV, encE, okw, h3, h4], (Below.refl _ _).alloc (Nat.le_refl _) _⟩
set_option maxHeartbeats 4000000 in
theorem encode_ref_32 (p l : Bool) (r b : Int) (W : World) : Calls Try.prog 22 #[.int .i64 32, .agg #[.bool p, .bool l, .int .i64 r, .int .i64 b]] W (EncPost 32 p l r b W) := by
  have hw : okw 32 = true := rfl
  cases ha : aligned b
  · cases p <;> cases l <;>
    · go_enter Try.func22, Try.ntmps22
      go_wp2_with (first | (go_at_call 36; refine (paged _ _).mono ?_; rintro e w' ⟨rfl, rfl⟩))
      all_goals
        go_ret2
        refine enc_ret ?_ ?_ ((Below.refl _ _).alloc (Nat.le_refl _) _)
        · simp_all [encV, encGood]
        · simp_all [encE, encGood, encZero]
  · have hb : 0 ≤ b ∧ b < 1099511627776 ∧ b % 4096 = 0 := by simpa [aligned] using ha
    obtain ⟨b1, b2, b3⟩ := hb
    have B3 := Lib.hid b3; clear b3
    cases p <;> cases l <;>
    · rcases (by omega : r < 0 ∨ 3 < r ∨ 0 ≤ r ∧ r ≤ 3) with h | h | ⟨h, h'⟩ <;>
      · go_enter Try.func22, Try.ntmps22
        go_wp2_with (first | (go_at_call 36; refine (paged _ _).mono ?_; rintro e w' ⟨rfl, rfl⟩))
        all_goals
          go_ret2
          refine enc_ret ?_ ?_ ((Below.refl _ _).alloc (Nat.le_refl _) _)
          · first | (simp [encV, encGood, hw, ha]; omega) | (simp_all [encV, encGood]; done) | (simp_all [encV, encGood]; omega)
          · first | (simp [encE, encGood, encZero, hw, ha]; omega) | (simp_all [encE, encGood, encZero]; done) | (simp_all [encE, encGood, encZero]; omega)
set_option maxHeartbeats 4000000 in
theorem encode_ref_39 (p l : Bool) (r b : Int) (W : World) : Calls Try.prog 22 #[.int .i64 39, .agg #[.bool p, .bool l, .int .i64 r, .int .i64 b]] W (EncPost 39 p l r b W) := by
  have hw : okw 39 = true := rfl
  cases ha : aligned b
  · cases p <;> cases l <;>
    · go_enter Try.func22, Try.ntmps22
      go_wp2_with (first | (go_at_call 36; refine (paged _ _).mono ?_; rintro e w' ⟨rfl, rfl⟩))
      all_goals
        go_ret2
        refine enc_ret ?_ ?_ ((Below.refl _ _).alloc (Nat.le_refl _) _)
        · simp_all [encV, encGood]
        · simp_all [encE, encGood, encZero]
  · have hb : 0 ≤ b ∧ b < 1099511627776 ∧ b % 4096 = 0 := by simpa [aligned] using ha
    obtain ⟨b1, b2, b3⟩ := hb
    have B3 := Lib.hid b3; clear b3
    cases p <;> cases l <;>
    · rcases (by omega : r < 0 ∨ 3 < r ∨ 0 ≤ r ∧ r ≤ 3) with h | h | ⟨h, h'⟩ <;>
      · go_enter Try.func22, Try.ntmps22
        go_wp2_with (first | (go_at_call 36; refine (paged _ _).mono ?_; rintro e w' ⟨rfl, rfl⟩))
        all_goals
          go_ret2
          refine enc_ret ?_ ?_ ((Below.refl _ _).alloc (Nat.le_refl _) _)
          · first | (simp [encV, encGood, hw, ha]; omega) | (simp_all [encV, encGood]; done) | (simp_all [encV, encGood]; omega)
          · first | (simp [encE, encGood, encZero, hw, ha]; omega) | (simp_all [encE, encGood, encZero]; done) | (simp_all [encE, encGood, encZero]; omega)
theorem encode_ref (w : Int) (p l : Bool) (r b : Int) (W : World) : Calls Try.prog 22 #[.int .i64 w, .agg #[.bool p, .bool l, .int .i64 r, .int .i64 b]] W (EncPost w p l r b W) := by
  rcases w_cases w with rfl | rfl | ⟨h1, h2, h3, h4⟩
  · exact encode_ref_32 p l r b W
  · exact encode_ref_39 p l r b W
  · exact encode_ref_no w p l r b W h1 h2 h3 h4
end Go.Proofs.Ytonloimepfojdaa
