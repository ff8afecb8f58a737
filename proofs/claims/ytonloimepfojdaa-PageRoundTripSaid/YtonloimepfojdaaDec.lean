/- Contracts of Decode and its reference, for every argument. -/
import Derived.Test.YtonloimepfojdaaEncr
import Derived.Test.YtonloimepfojdaaMem
namespace Go.Proofs.Ytonloimepfojdaa
open Go.RowKit
set_option linter.unusedVariables false
theorem and_p (v : Int) (h0 : 0 ≤ v) (h1 : v < 9223372036854775808) : (bits .and .i64 v 1 != 0) = (v % 2 == 1) := by
  rw [and_mask_i64 v 1 (by decide) 1 rfl h0 h1, Bool.eq_iff_iff]
  simp only [bne_iff_ne, beq_iff_eq]
  omega
theorem and_l (v : Int) (h0 : 0 ≤ v) (h1 : v < 9223372036854775808) : (bits .and .i64 v 2 != 0) = (v / 2 % 2 == 1) := by
  obtain ⟨n, rfl⟩ := Int.eq_ofNat_of_zero_le h0
  rw [show (2 : Int) = ((2 : Nat) : Int) from rfl, i64_and_nat n 2 (by omega) (by omega)]
  have h : n &&& 2 = n % 4 / 2 * 2 := nat_midmask 2 1 n (by decide)
  rw [h, Bool.eq_iff_iff]
  simp only [bne_iff_ne, beq_iff_eq]
  omega
theorem and_r (v : Int) (h0 : 0 ≤ v) (h1 : v < 9223372036854775808) : bits .and .i64 v 3 = v % 4 := and_mask_i64 v 2 (by decide) 3 rfl h0 h1
def decOk (w v : Int) : Bool := okw w && decide (v < 4294967296) && (decide (v = 0) || (v % 2 == 1 && (v / 2 % 2 == 1 || v / 4 % 4 == 0)))
theorem dec_yes {w v : Int} (h0 : 0 ≤ v) (h : decOk w v = true) : encE w (v % 2 == 1) (v / 2 % 2 == 1) (v / 4 % 4) (v / 16 * 4096) = 0 ∧ encV w (v % 2 == 1) (v / 2 % 2 == 1) (v / 4 % 4) (v / 16 * 4096) = v := by
  simp only [decOk, Bool.and_eq_true, decide_eq_true_eq, Bool.or_eq_true, beq_iff_eq] at h
  obtain ⟨⟨hw, hv⟩, hc⟩ := h
  have ha : aligned (v / 16 * 4096) = true := by simp [aligned]; omega
  rcases hc with rfl | ⟨hp, hc⟩
  · simp [encE, encV, encGood, encZero, hw]
  · by_cases hl : v / 2 % 2 = 1
    · simp [encE, encV, encGood, encZero, hw, hp, hl, ha]; omega
    · have hr : v / 4 % 4 = 0 := by omega
      simp [encE, encV, encGood, encZero, hw, hp, hl, hr, ha]; omega
theorem dec_no {w v : Int} (h0 : 0 ≤ v) (h1 : v < 4294967296) (h : decOk w v = false) : encE w (v % 2 == 1) (v / 2 % 2 == 1) (v / 4 % 4) (v / 16 * 4096) = 1 := by
  cases hw : okw w
  · simp [encE, hw]
  · have hn : ¬ (v = 0 ∨ (v % 2 = 1 ∧ (v / 2 % 2 = 1 ∨ v / 4 % 4 = 0))) := by
      intro hc; simp [decOk, hw, h1] at h; omega
    simp [encE, encGood, encZero, hw]
    omega
def decP (w v : Int) : Bool := decOk w v && (v % 2 == 1)
def decL (w v : Int) : Bool := decOk w v && (v / 2 % 2 == 1)
def decR (w v : Int) : Int := if decOk w v then v / 4 % 4 else 0
def decB (w v : Int) : Int := if decOk w v then v / 16 * 4096 else 0
def decE (w v : Int) : Int := if decOk w v then 0 else 14
def DecPost (w v : Int) (W : World) (e : Ending) (W' : World) : Prop :=
  e = .returned (.tuple #[.agg #[.bool (decP w v), .bool (decL w v), .int .i64 (decR w v), .int .i64 (decB w v)], .int .i64 (decE w v)]) ∧ Below W.heap.size W W'
theorem dec_big {w v : Int} (h : ¬ v < 4294967296) : decOk w v = false := by simp [decOk, h]
theorem dec_ret {w v : Int} {W W' : World} {p l : Bool} {r b e : Int} (hp : p = decP w v) (hl : l = decL w v) (hr : r = decR w v) (hb : b = decB w v) (he : e = decE w v) (hB : Below W.heap.size W W') :
    DecPost w v W (.returned (.tuple #[.agg #[.bool p, .bool l, .int .i64 r, .int .i64 b], .int .i64 e])) W' := ⟨by rw [hp, hl, hr, hb, he], hB⟩
theorem four_cells {w : World} {g : Nat} {t : TypeId} {a b c d : Value} (h : Row w g t #[a, b, c, d]) :
    (w.cell? ⟨g, 0, none⟩ = some a ∧ w.cell? ⟨g, 1, none⟩ = some b ∧ w.cell? ⟨g, 2, none⟩ = some c ∧ w.cell? ⟨g, 3, none⟩ = some d) ∧ ∀ i, w.frozen? ⟨g, i, none⟩ = false :=
  ⟨⟨h.cell 0, h.cell 1, h.cell 2, h.cell 3⟩, h.frozen⟩
set_option maxHeartbeats 1000000 in
theorem decode (w v : Int) (h0 : 0 ≤ v) (W : World) : Calls Try.prog 23 #[.int .i64 w, .int .u64 v] W (DecPost w v W) := by
  by_cases h1 : v < 4294967296
  · cases hd : decOk w v
    · have E := Lib.hid (dec_no h0 h1 hd)
      have HD := Lib.hid hd
      clear hd
      go_enter Try.func23, Try.ntmps23
      go_wp2_with fail
      rw [and_p v h0 (by omega), and_l v h0 (by omega), and_r (v / 4) (by omega) (by omega)]
      refine (encode _ _ _ _ _ _).mono ?_
      rintro e w1 ⟨rfl, hb⟩
      rw [E.out]
      obtain ⟨r1, r2, hz, hB⟩ := two_new hb
      obtain ⟨⟨c0, c1, c2, c3⟩, f1⟩ := four_cells r1
      obtain ⟨⟨d0, d1, d2, d3⟩, f2⟩ := four_cells r2
      clear hb r1 r2
      go_wp2
      refine bodyPost_ret (v := .tuple #[.agg #[.bool false, .bool false, .int .i64 0, .int .i64 0], .int .i64 14]) (by simp [results, Try.results23, go_sem, c0, c1, c2, c3]) rfl ?_
      refine dec_ret (by simp [decP, HD.out]) (by simp [decL, HD.out]) (by simp [decR, HD.out]) (by simp [decB, HD.out]) (by simp [decE, HD.out]) ?_
      exact (((hB.setCell (Nat.le_refl _) _).setCell (Nat.le_refl _) _).setCell (Nat.le_refl _) _).setCell (Nat.le_refl _) _
    · obtain ⟨E1, E2⟩ := dec_yes h0 hd
      have E1 := Lib.hid E1
      have E2 := Lib.hid E2
      have HD := Lib.hid hd
      clear hd
      go_enter Try.func23, Try.ntmps23
      go_wp2_with fail
      rw [and_p v h0 (by omega), and_l v h0 (by omega), and_r (v / 4) (by omega) (by omega)]
      refine (encode _ _ _ _ _ _).mono ?_
      rintro e w1 ⟨rfl, hb⟩
      rw [E1.out, E2.out]
      obtain ⟨r1, r2, hz, hB⟩ := two_new hb
      obtain ⟨⟨c0, c1, c2, c3⟩, f1⟩ := four_cells r1
      obtain ⟨⟨d0, d1, d2, d3⟩, f2⟩ := four_cells r2
      clear hb r1 r2
      go_wp2
      refine bodyPost_ret (v := .tuple #[.agg #[.bool (v % 2 == 1), .bool (v / 2 % 2 == 1), .int .i64 (v / 4 % 4), .int .i64 (v / 16 * 4096)], .int .i64 0]) (by simp [results, Try.results23, go_sem, c0, c1, c2, c3]) rfl ?_
      refine dec_ret (by simp [decP, HD.out]) (by simp [decL, HD.out]) (by simp [decR, HD.out]) (by simp [decB, HD.out]) (by simp [decE, HD.out]) ?_
      exact (((hB.setCell (Nat.le_refl _) _).setCell (Nat.le_refl _) _).setCell (Nat.le_refl _) _).setCell (Nat.le_refl _) _
  · have HD := Lib.hid (dec_big (w := w) h1)
    go_enter Try.func23, Try.ntmps23
    go_wp2
    refine bodyPost_ret (v := .tuple #[.agg #[.bool false, .bool false, .int .i64 0, .int .i64 0], .int .i64 14]) (by simp [results, Try.results23, go_sem]) rfl ?_
    refine dec_ret (by simp [decP, HD.out]) (by simp [decL, HD.out]) (by simp [decR, HD.out]) (by simp [decB, HD.out]) (by simp [decE, HD.out]) ?_
    go_grown
set_option maxHeartbeats 1000000 in
theorem decode_ref (w v : Int) (h0 : 0 ≤ v) (W : World) : Calls Try.prog 24 #[.int .i64 w, .int .u64 v] W (DecPost w v W) := by
  by_cases h2 : 0 < v ∧ v < 4294967296
  · obtain ⟨hp, h1⟩ := h2
    cases hd : decOk w v
    · have E := Lib.hid (dec_no h0 h1 hd)
      have HD := Lib.hid hd
      clear hd
      go_enter Try.func24, Try.ntmps24
      go_wp2_with fail
      refine (encode_ref _ _ _ _ _ _).mono ?_
      rintro e w1 ⟨rfl, hb⟩
      rw [E.out]
      obtain ⟨r1, r2, hz, hB⟩ := two_new hb
      obtain ⟨⟨c0, c1, c2, c3⟩, f1⟩ := four_cells r1
      obtain ⟨⟨d0, d1, d2, d3⟩, f2⟩ := four_cells r2
      clear hb r1 r2
      go_wp2
      refine bodyPost_ret (v := .tuple #[.agg #[.bool false, .bool false, .int .i64 0, .int .i64 0], .int .i64 14]) (by simp [results, Try.results24, go_sem, c0, c1, c2, c3]) rfl ?_
      refine dec_ret (by simp [decP, HD.out]) (by simp [decL, HD.out]) (by simp [decR, HD.out]) (by simp [decB, HD.out]) (by simp [decE, HD.out]) ?_
      exact (((hB.setCell (Nat.le_refl _) _).setCell (Nat.le_refl _) _).setCell (Nat.le_refl _) _).setCell (Nat.le_refl _) _
    · obtain ⟨E1, E2⟩ := dec_yes h0 hd
      have E1 := Lib.hid E1
      have E2 := Lib.hid E2
      have HD := Lib.hid hd
      clear hd
      go_enter Try.func24, Try.ntmps24
      go_wp2_with fail
      refine (encode_ref _ _ _ _ _ _).mono ?_
      rintro e w1 ⟨rfl, hb⟩
      rw [E1.out, E2.out]
      obtain ⟨r1, r2, hz, hB⟩ := two_new hb
      obtain ⟨⟨c0, c1, c2, c3⟩, f1⟩ := four_cells r1
      obtain ⟨⟨d0, d1, d2, d3⟩, f2⟩ := four_cells r2
      clear hb r1 r2
      go_wp2
      refine bodyPost_ret (v := .tuple #[.agg #[.bool (v % 2 == 1), .bool (v / 2 % 2 == 1), .int .i64 (v / 4 % 4), .int .i64 (v / 16 * 4096)], .int .i64 0]) (by simp [results, Try.results24, go_sem, c0, c1, c2, c3]) rfl ?_
      refine dec_ret (by simp [decP, HD.out]) (by simp [decL, HD.out]) (by simp [decR, HD.out]) (by simp [decB, HD.out]) (by simp [decE, HD.out]) ?_
      exact (((hB.setCell (Nat.le_refl _) _).setCell (Nat.le_refl _) _).setCell (Nat.le_refl _) _).setCell (Nat.le_refl _) _
  · have E1 : Hid (encV w false false 0 0 = 0) := Lib.hid (by simp [encV, encGood])
    by_cases hv : v = 0
    · subst hv
      cases hw : okw w
      · have E2 : Hid (encE w false false 0 0 = 1) := Lib.hid (by simp [encE, hw])
        have HD := Lib.hid (show decOk w 0 = false by simp [decOk, hw])
        clear hw
        go_enter Try.func24, Try.ntmps24
        go_wp2_with fail
        refine (encode_ref _ _ _ _ _ _).mono ?_
        rintro e w1 ⟨rfl, hb⟩
        rw [E1.out, E2.out]
        obtain ⟨r1, r2, hz, hB⟩ := two_new hb
        obtain ⟨⟨c0, c1, c2, c3⟩, f1⟩ := four_cells r1
        obtain ⟨⟨d0, d1, d2, d3⟩, f2⟩ := four_cells r2
        clear hb r1 r2
        go_wp2
        refine bodyPost_ret (v := .tuple #[.agg #[.bool false, .bool false, .int .i64 0, .int .i64 0], .int .i64 14]) (by simp [results, Try.results24, go_sem, c0, c1, c2, c3]) rfl ?_
        refine dec_ret (by simp [decP, HD.out]) (by simp [decL, HD.out]) (by simp [decR, HD.out]) (by simp [decB, HD.out]) (by simp [decE, HD.out]) ?_
        exact (((hB.setCell (Nat.le_refl _) _).setCell (Nat.le_refl _) _).setCell (Nat.le_refl _) _).setCell (Nat.le_refl _) _
      · have E2 : Hid (encE w false false 0 0 = 0) := Lib.hid (by simp [encE, encZero, hw])
        have HD := Lib.hid (show decOk w 0 = true by simp [decOk, hw])
        clear hw
        go_enter Try.func24, Try.ntmps24
        go_wp2_with fail
        refine (encode_ref _ _ _ _ _ _).mono ?_
        rintro e w1 ⟨rfl, hb⟩
        rw [E1.out, E2.out]
        obtain ⟨r1, r2, hz, hB⟩ := two_new hb
        obtain ⟨⟨c0, c1, c2, c3⟩, f1⟩ := four_cells r1
        obtain ⟨⟨d0, d1, d2, d3⟩, f2⟩ := four_cells r2
        clear hb r1 r2
        go_wp2
        refine bodyPost_ret (v := .tuple #[.agg #[.bool false, .bool false, .int .i64 0, .int .i64 0], .int .i64 0]) (by simp [results, Try.results24, go_sem, c0, c1, c2, c3]) rfl ?_
        refine dec_ret (by simp [decP, HD.out]) (by simp [decL, HD.out]) (by simp [decR, HD.out]) (by simp [decB, HD.out]) (by simp [decE, HD.out]) ?_
        exact (((hB.setCell (Nat.le_refl _) _).setCell (Nat.le_refl _) _).setCell (Nat.le_refl _) _).setCell (Nat.le_refl _) _
    · have hb : 4294967296 ≤ v := by omega
      have HD := Lib.hid (dec_big (w := w) (v := v) (by omega))
      have hv' : (0 != v) = true := by simp; omega
      rcases (by unfold encE; split <;> simp : encE w false false 0 0 = 0 ∨ encE w false false 0 0 = 1) with E2 | E2 <;>
      · have E2 := Lib.hid E2
        go_enter Try.func24, Try.ntmps24
        go_wp2_with fail
        refine (encode_ref _ _ _ _ _ _).mono ?_
        rintro e w1 ⟨rfl, hb⟩
        rw [E1.out, E2.out]
        obtain ⟨r1, r2, hz, hB⟩ := two_new hb
        obtain ⟨⟨c0, c1, c2, c3⟩, f1⟩ := four_cells r1
        obtain ⟨⟨d0, d1, d2, d3⟩, f2⟩ := four_cells r2
        clear hb r1 r2
        go_wp2
        refine bodyPost_ret (v := .tuple #[.agg #[.bool false, .bool false, .int .i64 0, .int .i64 0], .int .i64 14]) (by simp [results, Try.results24, go_sem, c0, c1, c2, c3]) rfl ?_
        refine dec_ret (by simp [decP, HD.out]) (by simp [decL, HD.out]) (by simp [decR, HD.out]) (by simp [decB, HD.out]) (by simp [decE, HD.out]) ?_
        exact (((hB.setCell (Nat.le_refl _) _).setCell (Nat.le_refl _) _).setCell (Nat.le_refl _) _).setCell (Nat.le_refl _) _
end Go.Proofs.Ytonloimepfojdaa
