/- The walk of BinencRoundTrip. -/
import Derived.Test.YtajkhijphdnbpaaLvar
import Derived.Test.YtajkhijphdnbpaaUve
import Derived.Test.YtajkhijphdnbpaaPlace
namespace Go.Proofs.Ytajkhijphdnbpaa
open Go.RowKit
set_option linter.unusedVariables false
set_option maxRecDepth 20000 in
set_option maxHeartbeats 4000000 in
theorem law_rt (A : Option Addr) (n c : Nat) (hs : List UInt8) (v : Nat) (bits_ v2 : Int) (B : Option Addr) (m d : Nat) (ts : List UInt8) (w : World) (hA : IsB w A n hs) (hn : n ≤ 9223372036854775807) (hB : IsB w B m ts) (hm : m ≤ 9223372036854775807)
    (hv : v < 18446744073709551616) (b0 : -9223372036854775808 ≤ bits_) (b1 : bits_ < 9223372036854775808) (z0 : -9223372036854775808 ≤ v2) (z1 : v2 < 9223372036854775808) :
    Calls Try.prog 9 #[.slice A n c, .int .u64 v, .int .i64 bits_, .int .i64 v2, .slice B m d] w (True1 w) := by
  by_cases hbad : 100 < n ∨ 100 < m
  · rcases Nat.lt_or_ge 100 n with h1 | h1
    · go_enter Try.func9, Try.ntmps9
      go_wp2_with (go_at_call 13; refine (awake01 _).mono ?_; rintro e w1 ⟨rfl, hb1⟩)
      go_ret
      exact ⟨rfl, hb1⟩
    · have h2 : 100 < m := by omega
      clear hbad
      go_enter Try.func9, Try.ntmps9
      go_wp2_with (go_at_call 13; refine (awake01 _).mono ?_; rintro e w1 ⟨rfl, hb1⟩)
      go_ret
      exact ⟨rfl, hb1⟩
  · have hn1 : n ≤ 100 := by omega
    have hm1 : m ≤ 100 := by omega
    clear hbad hn hm
    obtain ⟨P, hP, hP64⟩ : ∃ P : Nat, bits_ % 64 = (P : Int) ∧ P < 64 := ⟨(bits_ % 64).toNat, by omega, by omega⟩
    obtain ⟨x, hx⟩ : ∃ x, x = v / 2 ^ P := ⟨_, rfl⟩
    have hx64 : x < 18446744073709551616 := by rw [hx]; exact Nat.lt_of_le_of_lt (Nat.div_le_self _ _) hv
    have hxi : (v : Int) / 2 ^ P = (x : Int) := by rw [hx]; simp
    obtain ⟨s, hg⟩ := Grp.ex x
    obtain ⟨s2, hg2⟩ := Grp.ex (zz v2)
    have hs10 := hg.le hx64
    have hs20 := hg2.le (zz_lt z0 z1)
    have HG := Lib.hid hg
    have HG2 := Lib.hid hg2
    have HA := Lib.hid hA
    have HB := Lib.hid hB
    have hl := Lib.hid hA.1
    have hl2 := Lib.hid hB.1
    clear hg hg2 hA hB hx
    go_enter Try.func9, Try.ntmps9
    go_wp2_with fail
    refine (place bits_ 64 (by omega) (by omega) _).mono ?_
    rintro e w' ⟨rfl, rfl⟩
    rw [hP]
    clear hP b0 b1
    go_wp2
    go_loop [12, 13] (fun z r => ∃ t : Nat, 1 ≤ t ∧ t ≤ s ∧ z = .int .i64 t ∧ r = .int .u64 (x / 128 ^ t : Nat) ∧ (t = 1 ∨ 128 ^ (t - 1) ≤ x)) (fun _ r => (intOf r).toNat)
    case atStart => exact ⟨1, by omega, HG.out.1, rfl, by go_num, .inl rfl⟩
    case round =>
      obtain ⟨t, t1, ts1, rfl, rfl, ht⟩ := hrel
      have HT := Lib.hid ht
      clear ht
      have HD := Lib.hid (div_step x t)
      have HR : Hid (0 < x / 128 ^ t → 128 ^ t ≤ x) := Lib.hid (fun h => by
        rcases Nat.lt_or_ge x (128 ^ t) with h1 | h1
        · rw [Nat.div_eq_of_lt h1] at h; omega
        · exact h1)
      have HZ : Hid (x / 128 ^ t = 0 → x < 128 ^ t) := Lib.hid (fun h => by
        rcases Nat.lt_or_ge x (128 ^ t) with h1 | h1
        · exact h1
        · have := Nat.div_pos h1 (Nat.pow_pos (by omega)); omega)
      have hRv : x / 128 ^ t ≤ x := Nat.div_le_self _ _
      generalize hR : x / 128 ^ t = R at *
      have HRe := Lib.hid hR
      clear hR
      by_cases h0 : 0 < R
      · have hts : t < s := by
          rcases Nat.lt_or_ge t s with h1 | h1
          · exact h1
          · have := HG.out.2.1
            have : 128 ^ s ≤ 128 ^ t := Nat.pow_le_pow_right (by omega) h1
            have := HR.out h0
            omega
        go_wp2
        exact ⟨⟨t + 1, by omega, by omega, by go_num, by rw [← HD.out, ← HRe.out]; go_num, .inr (HR.out h0)⟩, by simp [intOf]; omega⟩
      · obtain rfl : R = 0 := by omega
        have hts : t = s := Grp.uniq (v := x) ⟨t1, HZ.out rfl, HT.out⟩ HG.out
        subst hts
        clear HT HD HR HZ HRe hRv
        go_wp2_with fail
        refine (append_uvarint A n c hs x t _ HA.out (by omega) hx64 HG.out).mono ?_
        rintro e w1 ⟨g1, m1, hge1, hm1, rfl, hr1, hb1⟩
        have hi1 := IsB.of_row hr1
        rw [← hm1.out] at hi1
        obtain rfl : m1 = n + t := by have := hm1.out; have := hl.out; simp [uvB_len] at *; omega
        have hI1 := Lib.hid hi1
        clear hr1 hm1 hi1
        go_wp2_with fail
        refine (append_varint (some ⟨g1, 0, none⟩) (n + t) (n + t) (hs ++ uvB x t) v2 s2 w1 hI1.out (by omega) z0 z1 HG2.out).mono ?_
        rintro e w2 ⟨g2, m2, hge2, hm2, rfl, hr2, hb2⟩
        have hi2 := IsB.of_row hr2
        rw [← hm2.out] at hi2
        obtain rfl : m2 = n + t + s2 := by have := hm2.out; have := hl.out; simp [uvB_len] at *; omega
        have hb12 := below_next hb1 hb2
        have l2 : 0 + (n + t + s2) ≤ 140737488355328 := by omega
        have HB2 := HB.out.below hb12
        clear hr2 hm2 hb1 hb2
        have HU : Hid (uvR (hs ++ uvB x t ++ uvB (zz v2) s2 ++ ts) (n : Nat) = (x, n + t, 0)) := Lib.hid (by
          have := uvR_enc HG.out hx64 hs (uvB (zz v2) s2 ++ ts)
          rw [← hl.out] at this
          simpa using this)
        have HV : Hid (vR (hs ++ uvB x t ++ uvB (zz v2) s2 ++ ts) ((n + t : Nat) : Int) = (v2, n + t + s2, 0)) := Lib.hid (by
          have := vR_enc z0 z1 HG2.out (hs ++ uvB x t) ts
          have e : (hs ++ uvB x t).length = n + t := by have := hl.out; simp [uvB_len]; omega
          rw [e] at this
          simpa using this)
        go_wp2_with (first
          | (at_builtin; (refine wp_append_b (P := Try.prog) rfl _ _ 22 rfl Try.underlying22 info_b (OwnB.nil w2 w2.heap.size 5) hi2 l2 (Nat.le_refl _) rfl rfl ?_); intro A3 n3 c3 w3 hn3 ho3 hb3 hg3 hat3)
          | (at_builtin; (refine wp_append_b (P := Try.prog) rfl _ _ 22 rfl Try.underlying22 info_b ho3 (HB2.below hb3) (by have := hn3.out; omega) hb3.size rfl rfl ?_); intro A4 n4 c4 w4 hn4 ho4 hb4 hg4 hat4))
        have q4 : Below w2.heap.size w2 w4 := hb3.trans hb4
        have hi4 := ho4.isB
        have HC := uvarint01 A4 n4 c4 _ n w4 hi4 (by have := hn3.out; have := hn4.out; omega) (by omega) (by omega)
        unfold UvPost at HC
        rw [show ([] ++ (hs ++ uvB x t ++ uvB (zz v2) s2) ++ ts) = hs ++ uvB x t ++ uvB (zz v2) s2 ++ ts by simp, HU.out] at HC
        have HC := Lib.hid HC
        have HI2 := Lib.hid (hi2.below q4)
        have HB4 := Lib.hid (HB2.below q4)
        have hb14 := below_next hb12 q4
        clear hi4 hat3 hat4 hg3 hg4 ho3 hb3 hb4 hn3 hn4 q4 ho4 hb12 hI1 hi2 HB2 HU
        refine HC.out.mono ?_
        rintro e w5 ⟨rfl, rfl⟩
        clear HC
        go_wp2_with (first
          | (at_builtin; (refine wp_append_b (P := Try.prog) rfl _ _ 22 rfl Try.underlying22 info_b (OwnB.nil w5 w5.heap.size 5) HI2.out l2 (Nat.le_refl _) rfl rfl ?_); intro A3 n3 c3 w3 hn3 ho3 hb3 hg3 hat3)
          | (at_builtin; (refine wp_append_b (P := Try.prog) rfl _ _ 22 rfl Try.underlying22 info_b ho3 (HB4.out.below hb3) (by have := hn3.out; omega) hb3.size rfl rfl ?_); intro A4 n4 c4 w4 hn4 ho4 hb4 hg4 hat4))
        have q4 : Below w5.heap.size w5 w4 := hb3.trans hb4
        have hi4 := ho4.isB
        have HC := varint01 A4 n4 c4 _ ((n : Int) + t) w4 hi4 (by have := hn3.out; have := hn4.out; omega) (by omega) (by omega)
        unfold VPost at HC
        rw [show ([] ++ (hs ++ uvB x t ++ uvB (zz v2) s2) ++ ts) = hs ++ uvB x t ++ uvB (zz v2) s2 ++ ts by simp, ← Int.natCast_add, HV.out, Int.natCast_add] at HC
        have HC := Lib.hid HC
        have hb15 := below_next hb14 q4
        clear hi4 hat3 hat4 hg3 hg4 ho3 hb3 hb4 hn3 hn4 q4 ho4 hb14 HI2 HB4 HV
        refine HC.out.mono ?_
        rintro e w6 ⟨rfl, rfl⟩
        clear HC
        go_wp2_with fail
        refine (awake01 _).mono ?_
        rintro e w7 ⟨rfl, hb7⟩
        go_wp2
        go_ret
        exact ⟨rfl, below_next hb15 hb7⟩
theorem walk_rt (W : World) (A : Option Addr) (n c : Nat) (zs : List Int) (v bits_ v2 : Int) (B : Option Addr) (m d : Nat) (ys : List Int) (h : IsRow .u8 W A n c zs) (hv : (Lit.int .u64 v).wf = true) (ho : (Lit.int .i64 bits_).wf = true) (h2 : (Lit.int .i64 v2).wf = true) (h3 : IsRow .u8 W B m d ys) :
    Calls Try.prog 9 #[.slice A n c, .int .u64 v, .int .i64 bits_, .int .i64 v2, .slice B m d] W (True1 W) := by
  obtain ⟨hs, hA, hn⟩ := h.isB
  obtain ⟨ts, hB, hm⟩ := h3.isB
  simp [Lit.wf, IntKind.min, IntKind.max, IntKind.signed, IntKind.bits] at hv ho h2
  obtain ⟨V, rfl⟩ : ∃ V : Nat, v = (V : Int) := ⟨v.toNat, by omega⟩
  exact law_rt A n c hs V bits_ v2 B m d ts W hA hn hB hm (by omega) (by omega) (by omega) (by omega) (by omega)
end Go.Proofs.Ytajkhijphdnbpaa
