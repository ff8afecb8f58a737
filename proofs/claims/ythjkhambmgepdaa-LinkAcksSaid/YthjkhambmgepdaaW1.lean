/- Place of multikernelkit; the walk of RingWrap. -/
import Derived.Test.YthjkhambmgepdaaR4
namespace Go.Proofs.Ythjkhambmgepdaa
open Go.RowKit
set_option linter.unusedVariables false
theorem place (v n : Int) (h1 : 1 ≤ n) (h2 : n ≤ 4611686018427387904) (W : World) : Calls Try.prog 20 #[.int .i64 v, .int .i64 n] W fun e W' => e = .returned (.int .i64 (v % n)) ∧ W = W' := by
  obtain ⟨t1, t2⟩ := tmod_bd v n h1
  go_enter Try.func20, Try.ntmps20
  go_wp2
  · go_ret
    exact ⟨ret_int (tmod_neg h1 (by assumption)), rfl⟩
  · go_ret
    exact ⟨ret_int (tmod_pos h1 (by assumption)), rfl⟩
theorem lines_of (p : Int) (p0 : 0 ≤ p) (p1 : p ≤ 5) : ∃ n, wrap64 (2 * 2 ^ p.toNat) = n ∧ vl n = true ∧ 2 ≤ n ∧ n ≤ 64 := by
  rcases (by omega : p = 0 ∨ p = 1 ∨ p = 2 ∨ p = 3 ∨ p = 4 ∨ p = 5) with rfl | rfl | rfl | rfl | rfl | rfl
  · exact ⟨2, by rw [IntWalk.wrap64_in _ (by decide)]; decide, rfl, by omega, by omega⟩
  · exact ⟨4, by rw [IntWalk.wrap64_in _ (by decide)]; decide, rfl, by omega, by omega⟩
  · exact ⟨8, by rw [IntWalk.wrap64_in _ (by decide)]; decide, rfl, by omega, by omega⟩
  · exact ⟨16, by rw [IntWalk.wrap64_in _ (by decide)]; decide, rfl, by omega, by omega⟩
  · exact ⟨32, by rw [IntWalk.wrap64_in _ (by decide)]; decide, rfl, by omega, by omega⟩
  · exact ⟨64, by rw [IntWalk.wrap64_in _ (by decide)]; decide, rfl, by omega, by omega⟩
theorem u16_bd (x : Int) : 0 ≤ IntKind.u16.wrap x ∧ IntKind.u16.wrap x < 65536 := by rw [IntKind.wrap_u16]; omega
theorem mv_of (b i : Int) (i0 : 0 ≤ i) (i1 : i ≤ 64) : mv (IntKind.u16.wrap (b + i)) b = i := by unfold mv; rw [IntKind.wrap_u16]; omega
structure Acked (n s a k d : Int) : Prop where
  en : akN n s a k = n
  es : akS n s a k = s
  ea : akA n s a k = a + d
  ee : akE n s a k = 0
theorem acked {n s a k d : Int} (hv : vs n s a = true) (hm : mv k a = d) (hd : d ≤ s - a) : Acked n s a k d := by
  have h : akOk n s a k = true := by simp [akOk, hv, hm, hd]
  exact ⟨by simp [akN, h], by simp [akS, h], by simp [akA, h, hm], by simp [akE, hv, hm, hd]⟩
theorem ack_no {n s a k : Int} (hv : vs n s a = true) (hd : s - a < mv k a) : akE n s a k = 66 := by
  simp [akE, hv]; omega
theorem law_wrap (l s0 o k : Int) (hs0 : 0 ≤ s0) (hs1 : s0 < 18446744073709551616) (k0 : 0 ≤ k) (k1 : k < 65536) (W : World) :
    Calls Try.prog 3 #[.int .i64 l, .int .u64 s0, .int .i64 o, .int .u16 k] W (True1 W) := by
  have p0 : 0 ≤ l % 6 := by omega
  have p1 : l % 6 ≤ 5 := by omega
  go_enter Try.func3, Try.ntmps3
  go_wp2_with fail
  refine (place _ _ (by omega) (by omega) _).mono ?_
  rintro e w' ⟨rfl, rfl⟩
  generalize l % 6 = p at *
  go_wp2_with fail
  obtain ⟨n, hn, hvl, n0, n1⟩ := lines_of p p0 p1
  rw [hn, IntWalk.wrap64_in (n + 1) (by omega)]
  clear hn
  refine (place _ _ (by omega) (by omega) _).mono ?_
  rintro e w' ⟨rfl, rfl⟩
  have K0 : 0 ≤ o % (n + 1) := Int.emod_nonneg _ (by omega)
  have K1 : o % (n + 1) ≤ n := by have := Int.emod_lt_of_pos o (show 0 < n + 1 by omega); omega
  generalize o % (n + 1) = K at *
  have b0 : 0 ≤ s0 / 8 := by omega
  have b1 : s0 / 8 < 2305843009213693952 := by omega
  have hv0 : vs n (s0 / 8 + K) (s0 / 8) = true := vs_mk ⟨hvl, n0, n1, by omega, by omega, by omega⟩
  have HV := Lib.hid hv0
  have hfr : Hid (fr n (s0 / 8 + K) (s0 / 8) = n - K) := Lib.hid (by simp [fr, hv0]; omega)
  clear hv0
  go_wp2_with fail
  generalize s0 / 8 = b at *
  go_loopw [13] (fun i wr => ∃ j : Int, 0 ≤ j ∧ j ≤ K + 1 ∧ i = .int .u64 j ∧ Row wr W.heap.size 27 #[.int .i64 n, .int .u64 (b + K), .int .u64 b] ∧ Below W.heap.size W wr) (fun i _ => (K + 1 - intOf i).toNat)
  case atStart => exact ⟨0, by omega, by omega, rfl, Row.born _ _ _, (Below.refl _ _).alloc (Nat.le_refl _) _⟩
  case round =>
    obtain ⟨j, j0, j1, rfl, hr, hB⟩ := hrel
    obtain ⟨⟨c0, c1, c2⟩, f1⟩ := three_cells hr
    by_cases hlt : j ≤ K
    · obtain ⟨x0, x1⟩ := u16_bd (b + j)
      have A := Lib.hid (acked HV.out (mv_of b j j0 (by omega)) (show j ≤ b + K - b by omega))
      go_wp2_with fail
      refine (acknowledge _ _ _ _ (by omega) (by omega) (by omega) x0 x1 _).mono ?_
      rintro e w2 ⟨rfl, hb⟩
      rw [A.out.en, A.out.es, A.out.ea, A.out.ee]
      have hr := hr.below hb hr.lt
      have hB := hB.trans (hb.mono hB.size)
      clear c0 c1 c2 f1 hb
      go_wp2_with fail
      exact ⟨⟨j + 1, by omega, by omega, rfl, hr.alloc _, hB.alloc hB.size _⟩, by simp [intOf]; omega⟩
    · go_wp2_with fail
      refine (acknowledge _ _ _ _ (by omega) (by omega) (by omega) k0 k1 _).mono ?_
      rintro e w2 ⟨rfl, hb⟩
      have hr := hr.below hb hr.lt
      have hB := hB.trans (hb.mono hB.size)
      have hl := hr.lt
      clear c0 c1 c2 f1 hb
      obtain ⟨⟨c0, c1, c2⟩, f1⟩ := three_cells hr
      have hm := mv_wrap k b
      rcases (by omega : mv k b ≤ K ∨ K < mv k b) with hk | hk
      · have A := acked HV.out rfl (show mv k b ≤ b + K - b by omega)
        rw [A.ee]
        clear A
        go_wp2_with (first | (go_at_call 22; refine (free _ _ _ (by omega) (by omega) (by omega) _).mono ?_; rintro e w3 ⟨rfl, hb3⟩; rw [hfr.out]) | (go_at_call 23; refine (awake19 _).mono ?_; rintro e w4 ⟨rfl, hb4⟩))
        go_ret
        have hB3 := (hB.alloc hB.size _).trans (hb3.mono (by have := hB.size; simp; omega))
        exact ⟨rfl, hB3.trans (hb4.mono hB3.size)⟩
      · rw [ack_no HV.out (show b + K - b < mv k b by omega)]
        go_wp2_with (first | (go_at_call 22; refine (free _ _ _ (by omega) (by omega) (by omega) _).mono ?_; rintro e w3 ⟨rfl, hb3⟩; rw [hfr.out]) | (go_at_call 23; refine (awake19 _).mono ?_; rintro e w4 ⟨rfl, hb4⟩))
        go_ret
        have hB3 := (hB.alloc hB.size _).trans (hb3.mono (by have := hB.size; simp; omega))
        exact ⟨ret_bool (by simp; omega), hB3.trans (hb4.mono hB3.size)⟩
theorem walk_wrap (l s0 o k : Int) (_ : (Lit.int .i64 l).wf = true) (h1 : (Lit.int .u64 s0).wf = true) (_ : (Lit.int .i64 o).wf = true) (h3 : (Lit.int .u16 k).wf = true) (W : World) :
    Calls Try.prog 3 #[.int .i64 l, .int .u64 s0, .int .i64 o, .int .u16 k] W (True1 W) :=
  law_wrap l s0 o k (bounds_u64 h1).1 (by have := (bounds_u64 h1).2; omega) (bounds_u16 h3).1 (by have := (bounds_u16 h3).2; omega) W
end Go.Proofs.Ythjkhambmgepdaa
