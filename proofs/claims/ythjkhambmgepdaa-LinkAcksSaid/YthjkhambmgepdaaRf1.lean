/- Ring: the reference's small functions; AckCount and NewReceiver for every argument. -/
import Derived.Test.YthjkhambmgepdaaPoll
namespace Go.Proofs.Ythjkhambmgepdaa
open Go.RowKit
set_option linter.unusedVariables false
theorem lines_ref (n : Int) (W : World) : Calls Try.prog 33 #[.int .i64 n] W fun e W' => e = .returned (.bool (vl n)) ∧ W = W' := by
  rcases (by omega : n = 2 ∨ n = 4 ∨ n = 8 ∨ n = 16 ∨ n = 32 ∨ n = 64 ∨ (n ≠ 2 ∧ n ≠ 4 ∧ n ≠ 8 ∧ n ≠ 16 ∧ n ≠ 32 ∧ n ≠ 64)) with rfl | rfl | rfl | rfl | rfl | rfl | ⟨h1, h2, h3, h4, h5, h6⟩
  iterate 6
    · go_enter Try.func33, Try.ntmps33
      go_wp2
      go_ret
      exact ⟨ret_bool rfl, rfl⟩
  · have e1 : (n == 2) = false := by simpa using h1
    have e2 : (n == 4) = false := by simpa using h2
    have e3 : (n == 8) = false := by simpa using h3
    have e4 : (n == 16) = false := by simpa using h4
    have e5 : (n == 32) = false := by simpa using h5
    have e6 : (n == 64) = false := by simpa using h6
    have HV := Lib.hid (show vl n = false by simp [vl, h1, h2, h3, h4, h5, h6])
    go_enter Try.func33, Try.ntmps33
    go_wp2
    go_ret
    exact ⟨ret_bool HV.out.symm, rfl⟩
theorem sender_ref (n s a : Int) (hs : 0 ≤ s) (hs1 : s < 18446744073709551616) (ha : 0 ≤ a) (W : World) : Calls Try.prog 99 #[.agg #[.int .i64 n, .int .u64 s, .int .u64 a]] W (VsPost n s a W) := by
  cases hn : vl n
  · go_enter Try.func99, Try.ntmps99
    go_wp2_with (go_at_call 33; refine (lines_ref _ _).mono ?_; rintro e w' ⟨rfl, rfl⟩)
    go_ret
    exact ⟨ret_bool (by simp [vs, hn]), (Below.refl _ _).alloc (Nat.le_refl _) _⟩
  · obtain ⟨n0, n1⟩ := vl_range hn
    rcases (by omega : a ≤ s ∨ s < a) with h1 | h1
    · rcases (by omega : s - a ≤ n ∨ n < s - a) with h2 | h2
      · go_enter Try.func99, Try.ntmps99
        go_wp2_with (go_at_call 33; refine (lines_ref _ _).mono ?_; rintro e w' ⟨rfl, rfl⟩)
        go_ret
        exact ⟨ret_bool (by simp [vs, hn, h1, h2]), (Below.refl _ _).alloc (Nat.le_refl _) _⟩
      · go_enter Try.func99, Try.ntmps99
        go_wp2_with (go_at_call 33; refine (lines_ref _ _).mono ?_; rintro e w' ⟨rfl, rfl⟩)
        go_ret
        exact ⟨ret_bool (by simp [vs, hn]; omega), (Below.refl _ _).alloc (Nat.le_refl _) _⟩
    · go_enter Try.func99, Try.ntmps99
      go_wp2_with (go_at_call 33; refine (lines_ref _ _).mono ?_; rintro e w' ⟨rfl, rfl⟩)
      go_ret
      exact ⟨ret_bool (by simp [vs, hn]; omega), (Below.refl _ _).alloc (Nat.le_refl _) _⟩
theorem receiver_ref (n x : Int) (W : World) : Calls Try.prog 100 #[.agg #[.int .i64 n, .int .u64 x]] W (VrPost n x W) := by
  cases hn : vl n
  all_goals
    go_enter Try.func100, Try.ntmps100
    go_wp2_with (go_at_call 33; refine (lines_ref _ _).mono ?_; rintro e w' ⟨rfl, rfl⟩)
    go_ret
    exact ⟨ret_bool (by simp [vr, hn]), (Below.refl _ _).alloc (Nat.le_refl _) _⟩
theorem free_ref (n s a : Int) (hs : 0 ≤ s) (hs1 : s < 18446744073709551616) (ha : 0 ≤ a) (W : World) : Calls Try.prog 37 #[.agg #[.int .i64 n, .int .u64 s, .int .u64 a]] W (FrPost n s a W) := by
  cases hv : vs n s a
  · go_enter Try.func37, Try.ntmps37
    go_wp2_with (go_at_call 99; refine (sender_ref _ _ _ hs hs1 ha _).mono ?_; rintro e w' ⟨rfl, hb⟩)
    go_ret
    exact ⟨ret_int (by simp [fr, hv]), (one_new hb).2.2⟩
  · obtain ⟨_, n0, n1, h1, h2, h3⟩ := vs_yes hv
    go_enter Try.func37, Try.ntmps37
    go_wp2_with fail
    refine (sender_ref _ _ _ hs hs1 ha _).mono ?_
    rintro e w' ⟨rfl, hb⟩
    obtain ⟨r1, hz, hB⟩ := one_new hb
    obtain ⟨⟨c0, c1, c2⟩, f1⟩ := three_cells r1
    clear r1 hb
    go_wp2
    go_ret
    exact ⟨ret_int (by simp [fr, hv]), hB⟩
def acN (n x : Int) : Int := if vr n x = true then IntKind.u16.wrap x else 0
theorem ack_any (n x : Int) (W : World) : Calls Try.prog 38 #[.agg #[.int .i64 n, .int .u64 x]] W (fun e W' => e = .returned (.int .u16 (acN n x)) ∧ Below W.heap.size W W') := by
  cases hv : vr n x
  · have HV := Lib.hid hv
    have HA := Lib.hid (show acN n x = 0 by simp [acN, hv])
    clear hv
    go_enter Try.func38, Try.ntmps38
    go_wp2_with fail
    refine (valid_receiver _ _ _).mono ?_
    rintro e w1 ⟨rfl, hb⟩
    rw [HV.out]
    obtain ⟨r1, hz, hB⟩ := one_new hb
    clear hb
    go_wp2
    go_ret
    exact ⟨ret_int HA.out.symm, hB⟩
  · have HV := Lib.hid hv
    have HA := Lib.hid (show acN n x = IntKind.u16.wrap x by simp [acN, hv])
    clear hv
    go_enter Try.func38, Try.ntmps38
    go_wp2_with fail
    refine (valid_receiver _ _ _).mono ?_
    rintro e w1 ⟨rfl, hb⟩
    rw [HV.out]
    obtain ⟨r1, hz, hB⟩ := one_new hb
    obtain ⟨⟨c0, c1⟩, f1⟩ := two_cells r1
    clear hb
    go_wp2
    go_ret
    exact ⟨ret_int HA.out.symm, hB⟩
theorem ack_ref (n x : Int) (W : World) : Calls Try.prog 39 #[.agg #[.int .i64 n, .int .u64 x]] W (fun e W' => e = .returned (.int .u16 (acN n x)) ∧ Below W.heap.size W W') := by
  cases hv : vr n x
  · have HV := Lib.hid hv
    have HA := Lib.hid (show acN n x = 0 by simp [acN, hv])
    clear hv
    go_enter Try.func39, Try.ntmps39
    go_wp2_with fail
    refine (receiver_ref _ _ _).mono ?_
    rintro e w1 ⟨rfl, hb⟩
    rw [HV.out]
    obtain ⟨r1, hz, hB⟩ := one_new hb
    clear hb
    go_wp2
    go_ret
    exact ⟨ret_int HA.out.symm, hB⟩
  · have HV := Lib.hid hv
    have HA := Lib.hid (show acN n x = IntKind.u16.wrap x by simp [acN, hv])
    clear hv
    go_enter Try.func39, Try.ntmps39
    go_wp2_with fail
    refine (receiver_ref _ _ _).mono ?_
    rintro e w1 ⟨rfl, hb⟩
    rw [HV.out]
    obtain ⟨r1, hz, hB⟩ := one_new hb
    obtain ⟨⟨c0, c1⟩, f1⟩ := two_cells r1
    clear hb
    go_wp2
    go_ret
    exact ⟨ret_int HA.out.symm, hB⟩
theorem receiver_any (n : Int) (W : World) : Calls Try.prog 28 #[.int .i64 n] W (fun e W' => e = .returned (.tuple #[.agg #[.int .i64 (nsN n), .int .u64 0], .int .i64 (nsE n)]) ∧ Below W.heap.size W W') := by
  cases hn : vl n
  · have H1 := Lib.hid (show nsN n = 0 by simp [nsN, hn])
    have H2 := Lib.hid (show nsE n = 6 by simp [nsE, hn])
    go_enter Try.func28, Try.ntmps28
    go_wp2_with (go_at_call 91; refine (valid_lines _ _).mono ?_; rintro e w' ⟨rfl, rfl⟩)
    refine bodyPost_ret (v := .tuple #[.agg #[.int .i64 0, .int .u64 0], .int .i64 6]) (by simp [results, Try.results28, go_sem]) rfl ⟨by rw [H1.out, H2.out], ?_⟩
    go_grown
  · have H1 := Lib.hid (show nsN n = n by simp [nsN, hn])
    have H2 := Lib.hid (show nsE n = 0 by simp [nsE, hn])
    go_enter Try.func28, Try.ntmps28
    go_wp2_with (go_at_call 91; refine (valid_lines _ _).mono ?_; rintro e w' ⟨rfl, rfl⟩)
    refine bodyPost_ret (v := .tuple #[.agg #[.int .i64 n, .int .u64 0], .int .i64 0]) (by simp [results, Try.results28, go_sem]) rfl ⟨by rw [H1.out, H2.out], ?_⟩
    go_grown
end Go.Proofs.Ythjkhambmgepdaa
