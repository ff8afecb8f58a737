/- The walk of PageIndices: it returns true, for every argument, and writes nothing that was there. -/
import Derived.Test.YtonloimepfojdaaLgeo
import Derived.Test.YtonloimepfojdaaPlain
namespace Go.Proofs.Ytonloimepfojdaa
open Go.RowKit
set_option linter.unusedVariables false
theorem place (v n : Int) (h1 : 1 ≤ n) (h2 : n ≤ 4611686018427387904) (W : World) : Calls Try.prog 20 #[.int .i64 v, .int .i64 n] W fun e W' => e = .returned (.int .i64 (v % n)) ∧ W = W' := by
  obtain ⟨t1, t2⟩ := tmod_bd v n h1
  go_enter Try.func20, Try.ntmps20
  go_wp2
  · go_ret
    exact ⟨ret_int (tmod_neg h1 (by assumption)), rfl⟩
  · go_ret
    exact ⟨ret_int (tmod_pos h1 (by assumption)), rfl⟩
def wd (n : Int) : Int := if n % 2 = 0 then 32 else 39
theorem width (n : Int) (W : World) : Calls Try.prog 19 #[.int .i64 n] W fun e W' => e = .returned (.int .i64 (wd n)) ∧ Below W.heap.size W W' := by
  rcases (by omega : n % 2 = 0 ∨ n % 2 = 1) with h | h
  · have e1 : Hid (wd n = 32) := Lib.hid (by simp [wd, h])
    go_enter Try.func19, Try.ntmps19
    go_wp2_with (go_at_call 20; refine (place _ _ (by omega) (by omega) _).mono ?_; rintro e w' ⟨rfl, rfl⟩)
    go_ret
    exact ⟨ret_int (by rw [e1.out]), (Below.refl _ _).alloc (Nat.le_refl _) _⟩
  · have e1 : Hid (wd n = 39) := Lib.hid (by simp [wd, h])
    go_enter Try.func19, Try.ntmps19
    go_wp2_with (go_at_call 20; refine (place _ _ (by omega) (by omega) _).mono ?_; rintro e w' ⟨rfl, rfl⟩)
    go_ret
    exact ⟨ret_int (by rw [e1.out]), (Below.refl _ _).alloc (Nat.le_refl _) _⟩
set_option maxHeartbeats 1000000 in
theorem law_indices (w0 a0 : Int) (W : World) : Calls Try.prog 4 #[.int .i64 w0, .int .i64 a0] W (True1 W) := by
  rcases (by unfold wd; split <;> simp : wd w0 = 32 ∨ wd w0 = 39) with hk | hk
  · have HK := Lib.hid hk
    clear hk
    have e4 : lev 32 = 2 := rfl
    have e5 : ib 32 = 10 := rfl
    have e7 : okw 32 = true := rfl
    go_enter Try.func4, Try.ntmps4
    go_wp2_with fail
    refine (width _ _).mono ?_
    rintro e w1 ⟨rfl, hb⟩
    rw [HK.out]
    go_wp2_with (first | (go_at_call 10; refine (geom _ _).mono ?_; rintro e w' ⟨rfl, rfl⟩))
    refine (place _ _ (by omega) (by omega) _).mono ?_
    rintro e w' ⟨rfl, rfl⟩
    have b0 : 0 ≤ a0 % 4294967296 := by omega
    have b1 : a0 % 4294967296 < 4294967296 := by omega
    generalize a0 % 4294967296 = a at *
    have i1 : idx 32 1 a = a / 4194304 % 1024 := by simp [idx, va, b0, b1]
    have i0 : idx 32 0 a = a / 4096 % 1024 := by simp [idx, va, b0, b1]
    have v1 : va 32 a = true := by simp [va, b0, b1]
    have v2 : va 32 (a + 4294967296) = false := by simp [va]; omega
    have v3 : va 32 (-1 - a) = false := by simp [va]; omega
    go_wp2_with (first | (go_at_call 14; refine (valid_addr _ _ _).mono ?_; rintro e w' ⟨rfl, rfl⟩) | (go_at_call 16; refine (index _ _ _ _).mono ?_; rintro e w' ⟨rfl, n, rfl⟩) | (go_at_call 18; refine (awake_ok _).mono ?_; rintro e w2 ⟨rfl, hb2⟩))
    refine wp_loop_rounds 3 ?_
    repeat any_goals (rw [rounds_succ]; go_wp2_with (first | (go_at_call 14; refine (valid_addr _ _ _).mono ?_; rintro e w' ⟨rfl, rfl⟩) | (go_at_call 16; refine (index _ _ _ _).mono ?_; rintro e w' ⟨rfl, n, rfl⟩) | (go_at_call 18; refine (awake_ok _).mono ?_; rintro e w2 ⟨rfl, hb2⟩)))
    go_ret
    exact ⟨rfl, hb.trans ((below_drewN (Below.refl _ _) _).trans (hb2.mono hb.size))⟩
  · have HK := Lib.hid hk
    clear hk
    have e4 : lev 39 = 3 := rfl
    have e5 : ib 39 = 9 := rfl
    have e7 : okw 39 = true := rfl
    go_enter Try.func4, Try.ntmps4
    go_wp2_with fail
    refine (width _ _).mono ?_
    rintro e w1 ⟨rfl, hb⟩
    rw [HK.out]
    go_wp2_with (first | (go_at_call 10; refine (geom _ _).mono ?_; rintro e w' ⟨rfl, rfl⟩))
    refine (place _ _ (by omega) (by omega) _).mono ?_
    rintro e w' ⟨rfl, rfl⟩
    have b0 : 0 ≤ a0 % 549755813888 := by omega
    have b1 : a0 % 549755813888 < 549755813888 := by omega
    generalize a0 % 549755813888 = a at *
    have i2 : idx 39 2 a = a / 1073741824 % 512 := by simp [idx, va, b0, b1]
    have i1 : idx 39 1 a = a / 2097152 % 512 := by simp [idx, va, b0, b1]
    have i0 : idx 39 0 a = a / 4096 % 512 := by simp [idx, va, b0, b1]
    have v1 : va 39 a = true := by simp [va, b0, b1]
    have v2 : va 39 (a + 549755813888) = false := by simp [va]; omega
    have v3 : va 39 (-1 - a) = false := by simp [va]; omega
    go_wp2_with (first | (go_at_call 14; refine (valid_addr _ _ _).mono ?_; rintro e w' ⟨rfl, rfl⟩) | (go_at_call 16; refine (index _ _ _ _).mono ?_; rintro e w' ⟨rfl, n, rfl⟩) | (go_at_call 18; refine (awake_ok _).mono ?_; rintro e w2 ⟨rfl, hb2⟩))
    refine wp_loop_rounds 4 ?_
    repeat any_goals (rw [rounds_succ]; go_wp2_with (first | (go_at_call 14; refine (valid_addr _ _ _).mono ?_; rintro e w' ⟨rfl, rfl⟩) | (go_at_call 16; refine (index _ _ _ _).mono ?_; rintro e w' ⟨rfl, n, rfl⟩) | (go_at_call 18; refine (awake_ok _).mono ?_; rintro e w2 ⟨rfl, hb2⟩)))
    go_ret
    exact ⟨rfl, hb.trans ((below_drewN (Below.refl _ _) _).trans (hb2.mono hb.size))⟩
theorem walk_indices (w a : Int) (_ : (Lit.int .i64 w).wf = true) (_ : (Lit.int .i64 a).wf = true) (W : World) :
    Calls Try.prog 4 #[.int .i64 w, .int .i64 a] W (True1 W) := law_indices w a W
end Go.Proofs.Ytonloimepfojdaa
