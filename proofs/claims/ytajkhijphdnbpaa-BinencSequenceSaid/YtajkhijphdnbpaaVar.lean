/- Contracts of Varint, of the reference's Varint, Zigzag and Unzigzag. -/
import Derived.Test.YtajkhijphdnbpaaUvr
namespace Go.Proofs.Ytajkhijphdnbpaa
open Go.RowKit
set_option linter.unusedVariables false
theorem uvGo_lt : ∀ (l : List UInt8) (n v o : Nat), n ≤ 9 → v < 128 ^ n → (uvGo l n v o).1 < 18446744073709551616
  | [], _, _, _, _, _ => by simp [uvGo]
  | x :: r, n, v, o, hn, hv => by
    unfold uvGo
    split
    · simp
    · rename_i h1
      split
      · simp
      · split
        · rename_i h2 h3
          simp only
          rcases Nat.lt_or_ge n 9 with h | h
          · have h4 := acc_lt hv h3
            have h5 := pow9 (k := n + 1) (by omega)
            omega
          · obtain rfl : n = 9 := by omega
            have h4 : x.toNat ≤ 1 := by omega
            have h5 : x.toNat * 128 ^ 9 ≤ 1 * 128 ^ 9 := Nat.mul_le_mul_right _ h4
            have h6 : (128 : Nat) ^ 9 = 9223372036854775808 := by decide +kernel
            rw [h6] at h5 hv ⊢
            omega
        · rename_i h2 h3
          exact uvGo_lt r (n + 1) _ _ (by omega) (acc_lt hv (Nat.mod_lt _ (by omega)))
theorem uvR_lt (bs : List UInt8) (off : Int) : (uvR bs off).1 < 18446744073709551616 := by
  unfold uvR
  split
  · simp
  · exact uvGo_lt _ _ _ _ (by omega) (by omega)
/-- Where it ends: behind at least one byte, within the bytes. -/
theorem uvGo_next : ∀ (l : List UInt8) (n v o : Nat), (uvGo l n v o).2.2 = 0 → o < (uvGo l n v o).2.1 ∧ (uvGo l n v o).2.1 ≤ o + l.length
  | [], _, _, _, h => by simp [uvGo] at h
  | x :: r, n, v, o, h => by
    unfold uvGo at h ⊢
    split
    · rename_i h1; simp [h1] at h
    · rename_i h1
      rw [if_neg h1] at h
      split
      · rename_i h2; simp [h2] at h
      · rename_i h2
        rw [if_neg h2] at h
        split
        · simp only [List.length_cons]; omega
        · rename_i h3
          rw [if_neg h3] at h
          have := uvGo_next r (n + 1) _ _ h
          simp only [List.length_cons]
          omega
theorem uvR_next {bs : List UInt8} {off : Int} (h : (uvR bs off).2.2 = 0) : 0 ≤ off ∧ off < (uvR bs off).2.1 ∧ (uvR bs off).2.1 ≤ bs.length := by
  unfold uvR at h ⊢
  split
  · rename_i h1; simp [h1] at h
  · rename_i h1
    rw [if_neg h1] at h
    have := uvGo_next _ _ _ _ h
    rw [List.length_drop] at this
    omega
def unzz (u : Nat) : Int := if u % 2 = 1 then -((u / 2 : Nat) : Int) - 1 else ((u / 2 : Nat) : Int)
def vR (bs : List UInt8) (off : Int) : Int × Nat × Nat := if (uvR bs off).2.2 = 0 then (unzz (uvR bs off).1, (uvR bs off).2.1, 0) else (0, 0, (uvR bs off).2.2)
def VPost (bs : List UInt8) (off : Int) (w : World) (e : Ending) (w' : World) : Prop := e = .returned (.tuple #[.int .i64 (vR bs off).1, .int .i64 ((vR bs off).2.1 : Nat), .int .i64 ((vR bs off).2.2 : Nat)]) ∧ w' = w
theorem and1 {u : Nat} (h : u < 18446744073709551616) : bits .and .u64 (u : Int) 1 = ((u % 2 : Nat) : Int) := by
  have := u64_and_nat u 1 h (by omega)
  rw [show u &&& 1 = u % 2 from Nat.and_two_pow_sub_one_eq_mod u 1] at this
  exact this
theorem unzigzag (u : Nat) (w : World) (hu : u < 18446744073709551616) : Calls Try.prog 42 #[.int .u64 u] w (fun e w' => e = .returned (.int .i64 (unzz u)) ∧ w' = w) := by
  have ha := and1 hu
  have hY : u / 2 < 9223372036854775808 := by omega
  obtain ⟨Y, hYe⟩ : ∃ Y, Y = u / 2 := ⟨_, rfl⟩
  have hd : (u : Int) / 2 = (Y : Int) := by omega
  have HU : Hid (unzz u = if u % 2 = 1 then -(Y : Int) - 1 else (Y : Int)) := Lib.hid (by unfold unzz; rw [← hYe])
  rw [← hYe] at hY
  clear hYe
  by_cases h1 : u % 2 = 1
  · rw [h1] at ha
    rw [if_pos h1] at HU
    clear h1
    go_enter Try.func42, Try.ntmps42
    go_wp2
    go_ret
    exact ⟨by rw [HU.out]; rfl, rfl⟩
  · rw [show u % 2 = 0 by omega] at ha
    rw [if_neg h1] at HU
    clear h1
    go_enter Try.func42, Try.ntmps42
    go_wp2
    go_ret
    exact ⟨by rw [HU.out]; rfl, rfl⟩
theorem zigzag_ref (v : Int) (w : World) (h0 : -9223372036854775808 ≤ v) (h1 : v < 9223372036854775808) : Calls Try.prog 35 #[.int .i64 v] w (fun e w' => e = .returned (.int .u64 (zz v : Nat)) ∧ w' = w) := by
  by_cases h2 : v < 0
  · obtain ⟨Y, hY⟩ : ∃ Y : Nat, v = -(Y : Int) - 1 := ⟨(-(v + 1)).toNat, by omega⟩
    have HZ : Hid (zz v = Y * 2 + 1) := Lib.hid (by unfold zz; rw [if_pos h2]; omega)
    have hY2 : Y < 9223372036854775808 := by omega
    have e1 : v + 1 = -(Y : Int) := by omega
    clear hY
    go_enter Try.func35, Try.ntmps35
    go_wp2
    go_ret
    exact ⟨by rw [HZ.out]; go_num, rfl⟩
  · obtain ⟨Y, rfl⟩ : ∃ Y : Nat, v = (Y : Int) := ⟨v.toNat, by omega⟩
    have HZ : Hid (zz Y = Y * 2) := Lib.hid (by unfold zz; rw [if_neg h2]; omega)
    have hY2 : Y < 9223372036854775808 := by omega
    clear h0 h1
    go_enter Try.func35, Try.ntmps35
    go_wp2
    go_ret
    exact ⟨by rw [HZ.out]; go_num, rfl⟩
theorem varint01 (A : Option Addr) (n c : Nat) (bs : List UInt8) (off : Int) (w : World) (hA : IsB w A n bs) (hn : n ≤ 1000000000) (b0 : -9223372036854775808 ≤ off) (b1 : off < 9223372036854775808) :
    Calls Try.prog 30 #[.slice A n c, .int .i64 off] w (VPost bs off w) := by
  have hC := uvarint01 A n c bs off w hA hn b0 b1
  have hu := uvR_lt bs off
  unfold UvPost VPost vR at *
  generalize uvR bs off = r at *
  obtain ⟨u, nx, er⟩ := r
  simp only at hC hu
  have HC := Lib.hid hC
  clear hC hA
  have ha := and1 hu
  have hY : u / 2 < 9223372036854775808 := by omega
  obtain ⟨Y, hYe⟩ : ∃ Y, Y = u / 2 := ⟨_, rfl⟩
  have hd : (u : Int) / 2 = (Y : Int) := by omega
  have HU : Hid (unzz u = if u % 2 = 1 then -(Y : Int) - 1 else (Y : Int)) := Lib.hid (by unfold unzz; rw [← hYe])
  rw [← hYe] at hY
  clear hYe
  by_cases he : er = 0
  · subst he
    by_cases h1 : u % 2 = 1
    · rw [h1] at ha
      rw [if_pos h1] at HU
      clear h1
      go_enter Try.func30, Try.ntmps30
      go_wp2_with (go_at_call 28; refine HC.out.mono ?_; rintro e w' ⟨rfl, rfl⟩)
      refine bodyPost_ret (v := .tuple #[.int .i64 (-(Y : Int) - 1), .int .i64 (nx : Nat), .int .i64 0]) (by simp [results, Try.results30, go_sem]) rfl ⟨by simp [HU.out], rfl⟩
    · rw [show u % 2 = 0 by omega] at ha
      rw [if_neg h1] at HU
      clear h1
      go_enter Try.func30, Try.ntmps30
      go_wp2_with (go_at_call 28; refine HC.out.mono ?_; rintro e w' ⟨rfl, rfl⟩)
      refine bodyPost_ret (v := .tuple #[.int .i64 (Y : Int), .int .i64 (nx : Nat), .int .i64 0]) (by simp [results, Try.results30, go_sem]) rfl ⟨by simp [HU.out], rfl⟩
  · have heb : ((er : Int) != 0) = true := by simpa using he
    clear ha hd hY
    go_enter Try.func30, Try.ntmps30
    go_wp2_with (go_at_call 28; refine HC.out.mono ?_; rintro e w' ⟨rfl, rfl⟩)
    refine bodyPost_ret (v := .tuple #[.int .i64 0, .int .i64 0, .int .i64 (er : Nat)]) (by simp [results, Try.results30, go_sem]) rfl ⟨by simp, rfl⟩
theorem varint_ref (A : Option Addr) (n c : Nat) (bs : List UInt8) (off : Int) (w : World) (hA : IsB w A n bs) (hn : n ≤ 1000000000) (b0 : -9223372036854775808 ≤ off) (b1 : off < 9223372036854775808) :
    Calls Try.prog 31 #[.slice A n c, .int .i64 off] w (VPost bs off w) := by
  have hC := uvarint_ref A n c bs off w hA hn b0 b1
  have hu := uvR_lt bs off
  unfold UvPost VPost vR at *
  generalize uvR bs off = r at *
  obtain ⟨u, nx, er⟩ := r
  simp only at hC hu
  have HC := Lib.hid hC
  have HZ := Lib.hid (unzigzag u w hu)
  clear hC hA hu
  by_cases he : er = 0
  · subst he
    go_enter Try.func31, Try.ntmps31
    go_wp2_with (first | (go_at_call 29; refine HC.out.mono ?_; rintro e w' ⟨rfl, rfl⟩) | (go_at_call 42; refine HZ.out.mono ?_; rintro e w' ⟨rfl, rfl⟩))
    refine bodyPost_ret (v := .tuple #[.int .i64 (unzz u), .int .i64 (nx : Nat), .int .i64 0]) (by simp [results, Try.results31, go_sem]) rfl ⟨by simp, rfl⟩
  · have heb : ((er : Int) != 0) = true := by simpa using he
    go_enter Try.func31, Try.ntmps31
    go_wp2_with (go_at_call 29; refine HC.out.mono ?_; rintro e w' ⟨rfl, rfl⟩)
    refine bodyPost_ret (v := .tuple #[.int .i64 0, .int .i64 0, .int .i64 (er : Nat)]) (by simp [results, Try.results31, go_sem]) rfl ⟨by simp, rfl⟩
end Go.Proofs.Ytajkhijphdnbpaa
