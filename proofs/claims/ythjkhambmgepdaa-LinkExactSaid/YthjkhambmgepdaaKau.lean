/- Texts Rf2, without what this claim does not use. -/
import Derived.Test.YthjkhambmgepdaaKab
namespace Go.Proofs.Ythjkhambmgepdaa
section
open Go.RowKit
set_option linter.unusedVariables false
set_option maxHeartbeats 1000000 in
theorem ack_refE (n s a k : Int) (hs : 0 ≤ s) (hs1 : s < 18446744073709551616) (ha : 0 ≤ a) (hv : vs n s a = false) (W : World) :
    Calls Try.prog 35 #[.agg #[.int .i64 n, .int .u64 s, .int .u64 a], .int .u16 k] W (AkPost n s a k W) := by
  go_enter Try.func35, Try.ntmps35
  go_wp2_with fail
  refine (sender_ref _ _ _ hs hs1 ha _).mono ?_
  rintro e w' ⟨rfl, hb⟩
  obtain ⟨r1, r2, hz, hB⟩ := two_new hb
  obtain ⟨⟨c0, c1, c2⟩, f1⟩ := three_cells r1
  obtain ⟨⟨d0, d1, d2⟩, f2⟩ := three_cells r2
  clear r1 r2 hb
  go_wp2
  refine bodyPost_ret (v := .tuple #[.agg #[.int .i64 0, .int .u64 0, .int .u64 0], .int .i64 74]) (by simp [results, Try.results35, go_sem, d0, d1, d2]) rfl ?_
  refine ak_ret (by simp [akN, akOk, hv]) (by simp [akS, akOk, hv]) (by simp [akA, akOk, hv]) (by simp [akE, hv]) ?_
  exact ((hB.setCell (by simp) _).setCell (by simp) _).setCell (by simp) _
set_option maxHeartbeats 2000000 in
theorem ack_refY (n s a k : Int) (hs : 0 ≤ s) (hs1 : s < 18446744073709551616) (ha : 0 ≤ a) (k0 : 0 ≤ k) (k1 : k < 65536) (hv : vs n s a = true) (W : World) :
    Calls Try.prog 35 #[.agg #[.int .i64 n, .int .u64 s, .int .u64 a], .int .u16 k] W (AkPost n s a k W) := by
  obtain ⟨_, n0, n1, h1, h2, h3⟩ := vs_yes hv
  obtain ⟨m, hm⟩ : ∃ m : Nat, mv k a = m := ⟨(mv k a).toNat, by unfold mv; omega⟩
  have m1 : m < 65536 := by unfold mv at hm; omega
  have hmk : ∀ j : Nat, j < 65536 → (((a + j) % 65536 == k) = decide (j = m)) := fun j hj => by
    rw [Bool.eq_iff_iff, beq_iff_eq, decide_eq_true_eq]
    unfold mv at hm
    omega
  have HV := Lib.hid hv
  have HM := Lib.hid hm
  have HMK := Lib.hid hmk
  clear hm hmk hv
  go_enter Try.func35, Try.ntmps35
  go_wp2_with fail
  refine (sender_ref _ _ _ hs hs1 ha _).mono ?_
  rintro e w1 ⟨rfl, hb⟩
  rw [HV.out]
  obtain ⟨r1, r2, hz, hB⟩ := two_new hb
  obtain ⟨⟨c0, c1, c2⟩, f1⟩ := three_cells r1
  obtain ⟨⟨d0, d1, d2⟩, f2⟩ := three_cells r2
  clear r1 r2 hb
  go_upto_region 4 with (fail)
  go_loopw [6] (fun i wr => ∃ j : Nat, i = .int .u64 (a + j) ∧ j ≤ m ∧ (j : Int) ≤ s - a + 1 ∧ wr = w1) (fun i _ => (s + 1 - intOf i).toNat)
  case atStart => exact ⟨0, by simp, by omega, by omega, rfl⟩
  case round =>
    obtain ⟨j, rfl, hjm, hjs, rfl⟩ := hrel
    by_cases hlt : a + j ≤ s
    · have hd : decide (a + (j : Int) ≤ s) = true := by simpa using hlt
      have hj := HMK.out j (by omega)
      have hw : IntKind.u16.wrap (a + (j : Int)) = (a + j) % 65536 := by rw [IntKind.wrap_u16]
      by_cases hjm2 : j = m
      · rw [decide_eq_true hjm2] at hj
        have H := Lib.hid (show akOk n s a k = true by simp [akOk, HV.out, HM.out]; omega)
        have H2 := Lib.hid (show akE n s a k = 0 by simp [akE, HV.out, HM.out]; omega)
        have H3 := Lib.hid (show a + mv k a = a + (j : Int) by rw [HM.out, hjm2])
        clear hjm2
        go_wp2
        refine bodyPost_ret (v := .tuple #[.agg #[.int .i64 n, .int .u64 s, .int .u64 (a + (j : Int))], .int .i64 0]) (by simp [results, Try.results35, go_sem, d0, d1, d2]) rfl ?_
        refine ak_ret (by simp [akN, H.out]) (by simp [akS, H.out]) (by simp [akA, H.out, H3.out]) (by rw [H2.out]) ?_
        exact (((hB.setCell (by simp) _).setCell (by simp) _).setCell (by simp) _).setCell (by simp) _
      · rw [decide_eq_false hjm2] at hj
        go_wp2
        exact ⟨⟨j + 1, by go_num, by omega, by omega, by trivial⟩, by simp [intOf]; omega⟩
    · have hd : decide (a + (j : Int) ≤ s) = false := by simpa using hlt
      have H := Lib.hid (show akOk n s a k = false by simp [akOk, HV.out, HM.out]; omega)
      have H2 := Lib.hid (show akE n s a k = 66 by simp [akE, HV.out, HM.out]; omega)
      go_wp2
      refine bodyPost_ret (v := .tuple #[.agg #[.int .i64 0, .int .u64 0, .int .u64 0], .int .i64 66]) (by simp [results, Try.results35, go_sem, d0, d1, d2]) rfl ?_
      refine ak_ret (by simp [akN, H.out]) (by simp [akS, H.out]) (by simp [akA, H.out]) (by rw [H2.out]) ?_
      exact ((hB.setCell (by simp) _).setCell (by simp) _).setCell (by simp) _
theorem ack_ref_any (n s a k : Int) (hs : 0 ≤ s) (hs1 : s < 18446744073709551616) (ha : 0 ≤ a) (k0 : 0 ≤ k) (k1 : k < 65536) (W : World) :
    Calls Try.prog 35 #[.agg #[.int .i64 n, .int .u64 s, .int .u64 a], .int .u16 k] W (AkPost n s a k W) := by
  cases hv : vs n s a
  · exact ack_refE n s a k hs hs1 ha hv W
  · exact ack_refY n s a k hs hs1 ha k0 k1 hv W
end
end Go.Proofs.Ythjkhambmgepdaa
