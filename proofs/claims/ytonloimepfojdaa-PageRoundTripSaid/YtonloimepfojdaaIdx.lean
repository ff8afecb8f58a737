/- Contracts of Index and its reference, for every argument. -/
import Derived.Test.YtonloimepfojdaaGeo
import Derived.Test.YtonloimepfojdaaBits
import Derived.Handy
namespace Go.Proofs.Ytonloimepfojdaa
open Go.RowKit
set_option linter.unusedVariables false
theorem idx_no {w l a : Int} (h : va w a = false) : idx w l a = 0 := by simp [idx, h]
theorem va_yes {w a : Int} (h : va w a = true) : w = 32 ∧ 0 ≤ a ∧ a < 4294967296 ∨ w = 39 ∧ 0 ≤ a ∧ a < 549755813888 := by simpa [va] using h
theorem and1023 (x : Int) (h0 : 0 ≤ x) (h1 : x < 9223372036854775808) : bits .and .i64 x 1023 = x % 1024 := and_mask_i64 x 10 (by decide) 1023 rfl h0 h1
theorem and511 (x : Int) (h0 : 0 ≤ x) (h1 : x < 9223372036854775808) : bits .and .i64 x 511 = x % 512 := and_mask_i64 x 9 (by decide) 511 rfl h0 h1
def IdxPost (w l a : Int) (W : World) (e : Ending) (W' : World) : Prop := e = .returned (.int .i64 (idx w l a)) ∧ ∃ n, W' = W.drewN n
theorem index (w l a : Int) (W : World) : Calls Try.prog 16 #[.int .i64 w, .int .i64 l, .int .i64 a] W (IdxPost w l a W) := by
  cases hv : va w a
  · rcases w_cases w with rfl | rfl | ⟨h1, h2, h3, h4⟩ <;>
    · go_enter Try.func16, Try.ntmps16
      go_wp2_with (first | (go_at_call 10; refine (geom _ _).mono ?_; rintro e w' ⟨rfl, rfl⟩) | (go_at_call 14; refine (valid_addr _ _ _).mono ?_; rintro e w' ⟨rfl, rfl⟩))
      all_goals
        go_ret
        exact ⟨ret_int (by rw [idx_no hv]), 0, rfl⟩
  · rcases va_yes hv with ⟨rfl, h0, h1⟩ | ⟨rfl, h0, h1⟩
    · have e1 : lev 32 = 2 := rfl
      have e2 : ib 32 = 10 := rfl
      rcases (by omega : l < 0 ∨ 2 ≤ l ∨ l = 0 ∨ l = 1) with h | h | rfl | rfl
      · go_enter Try.func16, Try.ntmps16
        go_wp2_with (first | (go_at_call 10; refine (geom _ _).mono ?_; rintro e w' ⟨rfl, rfl⟩) | (go_at_call 14; refine (valid_addr _ _ _).mono ?_; rintro e w' ⟨rfl, rfl⟩))
        go_ret
        exact ⟨ret_int (by simp [idx, hv]; omega), 0, rfl⟩
      · go_enter Try.func16, Try.ntmps16
        go_wp2_with (first | (go_at_call 10; refine (geom _ _).mono ?_; rintro e w' ⟨rfl, rfl⟩) | (go_at_call 14; refine (valid_addr _ _ _).mono ?_; rintro e w' ⟨rfl, rfl⟩))
        go_ret
        exact ⟨ret_int (by simp [idx, hv]; omega), 0, rfl⟩
      · go_enter Try.func16, Try.ntmps16
        go_wp2_with (first | (go_at_call 10; refine (geom _ _).mono ?_; rintro e w' ⟨rfl, rfl⟩) | (go_at_call 14; refine (valid_addr _ _ _).mono ?_; rintro e w' ⟨rfl, rfl⟩))
        go_quiet (fail)
        go_wp2
        go_ret
        exact ⟨ret_int (by rw [and1023 _ (by omega) (by omega)]; simp [idx, hv]), _, rfl⟩
      · go_enter Try.func16, Try.ntmps16
        go_wp2_with (first | (go_at_call 10; refine (geom _ _).mono ?_; rintro e w' ⟨rfl, rfl⟩) | (go_at_call 14; refine (valid_addr _ _ _).mono ?_; rintro e w' ⟨rfl, rfl⟩))
        go_quiet (fail)
        go_wp2
        go_ret
        exact ⟨ret_int (by rw [and1023 _ (by omega) (by omega)]; simp [idx, hv]), _, rfl⟩
    · have e1 : lev 39 = 3 := rfl
      have e2 : ib 39 = 9 := rfl
      rcases (by omega : l < 0 ∨ 3 ≤ l ∨ l = 0 ∨ l = 1 ∨ l = 2) with h | h | rfl | rfl | rfl
      · go_enter Try.func16, Try.ntmps16
        go_wp2_with (first | (go_at_call 10; refine (geom _ _).mono ?_; rintro e w' ⟨rfl, rfl⟩) | (go_at_call 14; refine (valid_addr _ _ _).mono ?_; rintro e w' ⟨rfl, rfl⟩))
        go_ret
        exact ⟨ret_int (by simp [idx, hv]; omega), 0, rfl⟩
      · go_enter Try.func16, Try.ntmps16
        go_wp2_with (first | (go_at_call 10; refine (geom _ _).mono ?_; rintro e w' ⟨rfl, rfl⟩) | (go_at_call 14; refine (valid_addr _ _ _).mono ?_; rintro e w' ⟨rfl, rfl⟩))
        go_ret
        exact ⟨ret_int (by simp [idx, hv]; omega), 0, rfl⟩
      · go_enter Try.func16, Try.ntmps16
        go_wp2_with (first | (go_at_call 10; refine (geom _ _).mono ?_; rintro e w' ⟨rfl, rfl⟩) | (go_at_call 14; refine (valid_addr _ _ _).mono ?_; rintro e w' ⟨rfl, rfl⟩))
        go_quiet (fail)
        go_wp2
        go_ret
        exact ⟨ret_int (by rw [and511 _ (by omega) (by omega)]; simp [idx, hv]), _, rfl⟩
      · go_enter Try.func16, Try.ntmps16
        go_wp2_with (first | (go_at_call 10; refine (geom _ _).mono ?_; rintro e w' ⟨rfl, rfl⟩) | (go_at_call 14; refine (valid_addr _ _ _).mono ?_; rintro e w' ⟨rfl, rfl⟩))
        go_quiet (fail)
        go_wp2
        go_ret
        exact ⟨ret_int (by rw [and511 _ (by omega) (by omega)]; simp [idx, hv]), _, rfl⟩
      · go_enter Try.func16, Try.ntmps16
        go_wp2_with (first | (go_at_call 10; refine (geom _ _).mono ?_; rintro e w' ⟨rfl, rfl⟩) | (go_at_call 14; refine (valid_addr _ _ _).mono ?_; rintro e w' ⟨rfl, rfl⟩))
        go_quiet (fail)
        go_wp2
        go_ret
        exact ⟨ret_int (by rw [and511 _ (by omega) (by omega)]; simp [idx, hv]), _, rfl⟩
theorem index_ref (w l a : Int) (W : World) : Calls Try.prog 17 #[.int .i64 w, .int .i64 l, .int .i64 a] W (IdxPost w l a W) := by
  cases hv : va w a
  · rcases w_cases w with rfl | rfl | ⟨h1, h2, h3, h4⟩ <;>
    · go_enter Try.func17, Try.ntmps17
      go_wp2_with (first | (go_at_call 15; refine (valid_addr_ref _ _ _).mono ?_; rintro e w' ⟨rfl, rfl⟩) | (go_at_call 11; refine (levels _ _).mono ?_; rintro e w' ⟨rfl, rfl⟩) | (go_at_call 12; refine (ibits _ _).mono ?_; rintro e w' ⟨rfl, rfl⟩))
      all_goals
        go_ret
        exact ⟨ret_int (by rw [idx_no hv]), 0, rfl⟩
  · rcases va_yes hv with ⟨rfl, h0, h1⟩ | ⟨rfl, h0, h1⟩
    · have e1 : lev 32 = 2 := rfl
      have e2 : ib 32 = 10 := rfl
      rcases (by omega : l < 0 ∨ 2 ≤ l ∨ l = 0 ∨ l = 1) with h | h | rfl | rfl
      · go_enter Try.func17, Try.ntmps17
        go_wp2_with (first | (go_at_call 15; refine (valid_addr_ref _ _ _).mono ?_; rintro e w' ⟨rfl, rfl⟩) | (go_at_call 11; refine (levels _ _).mono ?_; rintro e w' ⟨rfl, rfl⟩) | (go_at_call 12; refine (ibits _ _).mono ?_; rintro e w' ⟨rfl, rfl⟩))
        go_ret
        exact ⟨ret_int (by simp [idx, hv]; omega), 0, rfl⟩
      · go_enter Try.func17, Try.ntmps17
        go_wp2_with (first | (go_at_call 15; refine (valid_addr_ref _ _ _).mono ?_; rintro e w' ⟨rfl, rfl⟩) | (go_at_call 11; refine (levels _ _).mono ?_; rintro e w' ⟨rfl, rfl⟩) | (go_at_call 12; refine (ibits _ _).mono ?_; rintro e w' ⟨rfl, rfl⟩))
        go_ret
        exact ⟨ret_int (by simp [idx, hv]; omega), 0, rfl⟩
      · go_enter Try.func17, Try.ntmps17
        go_wp2_with (first | (go_at_call 15; refine (valid_addr_ref _ _ _).mono ?_; rintro e w' ⟨rfl, rfl⟩) | (go_at_call 11; refine (levels _ _).mono ?_; rintro e w' ⟨rfl, rfl⟩) | (go_at_call 12; refine (ibits _ _).mono ?_; rintro e w' ⟨rfl, rfl⟩))
        refine wp_loop_rounds 1 ?_
        repeat any_goals (rw [rounds_succ]; go_wp2_with (first | (go_at_call 15; refine (valid_addr_ref _ _ _).mono ?_; rintro e w' ⟨rfl, rfl⟩) | (go_at_call 11; refine (levels _ _).mono ?_; rintro e w' ⟨rfl, rfl⟩) | (go_at_call 12; refine (ibits _ _).mono ?_; rintro e w' ⟨rfl, rfl⟩)))
        go_ret
        exact ⟨ret_int (by simp [idx, hv]; try omega), 0, rfl⟩
      · go_enter Try.func17, Try.ntmps17
        go_wp2_with (first | (go_at_call 15; refine (valid_addr_ref _ _ _).mono ?_; rintro e w' ⟨rfl, rfl⟩) | (go_at_call 11; refine (levels _ _).mono ?_; rintro e w' ⟨rfl, rfl⟩) | (go_at_call 12; refine (ibits _ _).mono ?_; rintro e w' ⟨rfl, rfl⟩))
        refine wp_loop_rounds 2 ?_
        repeat any_goals (rw [rounds_succ]; go_wp2_with (first | (go_at_call 15; refine (valid_addr_ref _ _ _).mono ?_; rintro e w' ⟨rfl, rfl⟩) | (go_at_call 11; refine (levels _ _).mono ?_; rintro e w' ⟨rfl, rfl⟩) | (go_at_call 12; refine (ibits _ _).mono ?_; rintro e w' ⟨rfl, rfl⟩)))
        go_ret
        exact ⟨ret_int (by simp [idx, hv]; try omega), 0, rfl⟩
    · have e1 : lev 39 = 3 := rfl
      have e2 : ib 39 = 9 := rfl
      rcases (by omega : l < 0 ∨ 3 ≤ l ∨ l = 0 ∨ l = 1 ∨ l = 2) with h | h | rfl | rfl | rfl
      · go_enter Try.func17, Try.ntmps17
        go_wp2_with (first | (go_at_call 15; refine (valid_addr_ref _ _ _).mono ?_; rintro e w' ⟨rfl, rfl⟩) | (go_at_call 11; refine (levels _ _).mono ?_; rintro e w' ⟨rfl, rfl⟩) | (go_at_call 12; refine (ibits _ _).mono ?_; rintro e w' ⟨rfl, rfl⟩))
        go_ret
        exact ⟨ret_int (by simp [idx, hv]; omega), 0, rfl⟩
      · go_enter Try.func17, Try.ntmps17
        go_wp2_with (first | (go_at_call 15; refine (valid_addr_ref _ _ _).mono ?_; rintro e w' ⟨rfl, rfl⟩) | (go_at_call 11; refine (levels _ _).mono ?_; rintro e w' ⟨rfl, rfl⟩) | (go_at_call 12; refine (ibits _ _).mono ?_; rintro e w' ⟨rfl, rfl⟩))
        go_ret
        exact ⟨ret_int (by simp [idx, hv]; omega), 0, rfl⟩
      · go_enter Try.func17, Try.ntmps17
        go_wp2_with (first | (go_at_call 15; refine (valid_addr_ref _ _ _).mono ?_; rintro e w' ⟨rfl, rfl⟩) | (go_at_call 11; refine (levels _ _).mono ?_; rintro e w' ⟨rfl, rfl⟩) | (go_at_call 12; refine (ibits _ _).mono ?_; rintro e w' ⟨rfl, rfl⟩))
        refine wp_loop_rounds 1 ?_
        repeat any_goals (rw [rounds_succ]; go_wp2_with (first | (go_at_call 15; refine (valid_addr_ref _ _ _).mono ?_; rintro e w' ⟨rfl, rfl⟩) | (go_at_call 11; refine (levels _ _).mono ?_; rintro e w' ⟨rfl, rfl⟩) | (go_at_call 12; refine (ibits _ _).mono ?_; rintro e w' ⟨rfl, rfl⟩)))
        go_ret
        exact ⟨ret_int (by simp [idx, hv]; try omega), 0, rfl⟩
      · go_enter Try.func17, Try.ntmps17
        go_wp2_with (first | (go_at_call 15; refine (valid_addr_ref _ _ _).mono ?_; rintro e w' ⟨rfl, rfl⟩) | (go_at_call 11; refine (levels _ _).mono ?_; rintro e w' ⟨rfl, rfl⟩) | (go_at_call 12; refine (ibits _ _).mono ?_; rintro e w' ⟨rfl, rfl⟩))
        refine wp_loop_rounds 2 ?_
        repeat any_goals (rw [rounds_succ]; go_wp2_with (first | (go_at_call 15; refine (valid_addr_ref _ _ _).mono ?_; rintro e w' ⟨rfl, rfl⟩) | (go_at_call 11; refine (levels _ _).mono ?_; rintro e w' ⟨rfl, rfl⟩) | (go_at_call 12; refine (ibits _ _).mono ?_; rintro e w' ⟨rfl, rfl⟩)))
        go_ret
        exact ⟨ret_int (by simp [idx, hv]; try omega), 0, rfl⟩
      · go_enter Try.func17, Try.ntmps17
        go_wp2_with (first | (go_at_call 15; refine (valid_addr_ref _ _ _).mono ?_; rintro e w' ⟨rfl, rfl⟩) | (go_at_call 11; refine (levels _ _).mono ?_; rintro e w' ⟨rfl, rfl⟩) | (go_at_call 12; refine (ibits _ _).mono ?_; rintro e w' ⟨rfl, rfl⟩))
        refine wp_loop_rounds 3 ?_
        repeat any_goals (rw [rounds_succ]; go_wp2_with (first | (go_at_call 15; refine (valid_addr_ref _ _ _).mono ?_; rintro e w' ⟨rfl, rfl⟩) | (go_at_call 11; refine (levels _ _).mono ?_; rintro e w' ⟨rfl, rfl⟩) | (go_at_call 12; refine (ibits _ _).mono ?_; rintro e w' ⟨rfl, rfl⟩)))
        go_ret
        exact ⟨ret_int (by simp [idx, hv]; try omega), 0, rfl⟩
end Go.Proofs.Ytonloimepfojdaa
