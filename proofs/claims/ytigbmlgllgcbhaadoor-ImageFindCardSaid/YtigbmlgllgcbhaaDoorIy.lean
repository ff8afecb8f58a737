/- Image: ImageFind. -/
import Derived.Test.YtigbmlgllgcbhaaDoorIw
namespace Go.Proofs.YtigbmlgllgcbhaaDoor
open Go.RowKit
set_option linter.unusedVariables false
set_option linter.unusedSimpArgs false
theorem IsMs.part {w : World} {b o n : Nat} {ms : List Md} (h : IsMs w (some ⟨b, o, none⟩) n ms) (r : Nat) (hr : r < ms.length) {m : Md} (hm : ms[r] = m) : IsMs w (some ⟨b, o + r * 5, none⟩) 1 [m] := by
  subst hm
  obtain ⟨b', o', e, h2⟩ := h.2 (by have := h.1; omega)
  cases e
  obtain ⟨D, dc, hr5, hc, hD⟩ := h2 r hr
  refine ⟨rfl, fun _ => ⟨b, o + r * 5, rfl, fun i hi => ?_⟩⟩
  obtain rfl : i = 0 := by simpa using hi
  exact ⟨D, dc, by simpa using hr5, hc, hD⟩
theorem selM_at (wd : Int) (ms : List Md) (j : Nat) (h : j < ms.length) (hp : (ms[j].width == wd || ms[j].width == 0) = true) : ∃ hn : (selM wd (ms.take j)).length < (selM wd ms).length, (selM wd ms)[(selM wd (ms.take j)).length]'hn = ms[j] := by
  have e : selM wd ms = selM wd (ms.take j) ++ (ms[j] :: selM wd (ms.drop (j + 1))) := by
    have h1 : ms = ms.take j ++ (ms[j] :: ms.drop (j + 1)) := by simp
    have h2 : selM wd ms = selM wd (ms.take j ++ (ms[j] :: ms.drop (j + 1))) := by rw [← h1]
    rw [h2]
    unfold selM
    rw [List.filter_append]
    congr 1
    exact List.filter_cons_of_pos (p := fun m : Md => m.width == wd || m.width == 0) hp
  refine ⟨by rw [e]; simp, ?_⟩
  simp only [e]
  rw [List.getElem_append_right (Nat.le_refl _)]
  simp
set_option maxRecDepth 100000 in
set_option maxHeartbeats 8000000 in
theorem walk_find (W : World) (a0 : Option Addr) (len0 cap0 : Nat) (z0 : List Int) (which width : Int) (w0 : IsRow .i64 W a0 len0 cap0 z0) (wh : (Lit.int .i64 which).wf = true) (wh2 : (Lit.int .i64 width).wf = true) : Calls Tryd.prog 9 #[.slice a0 len0 cap0, .int .i64 which, .int .i64 width] W (True1 W) := by
  obtain ⟨l, hL, hl9⟩ := w0.isN
  obtain rfl := hL.1
  clear w0
  have AW := Lib.hid (fun (w : World) (hB : Below W.heap.size W w) => (awake w).mono (R' := fun en w' => en = .returned (.bool true) ∧ Below W.heap.size W w') (fun en w' h => ⟨h.1, hB.trans (h.2.mono hB.size)⟩))
  have B0 := Below.refl W.heap.size W
  by_cases hl : 200 < l.length
  · have d0 : decide (200 < l.length) = true := decide_eq_true hl
    have d0i : decide ((200 : Int) < (l.length : Int)) = true := decide_eq_true (by omega)
    clear hl
    go_enter Tryd.func9, Tryd.ntmps9
    go_wp2_with (go_at_call 10; (with_reducible refine (AW.out _ B0).mono ?_); rintro en w9 ⟨rfl, hB9⟩)
    go_ret
    exact ⟨rfl, hB9⟩
  have d0 : decide (200 < l.length) = false := decide_eq_false hl
  have d0i : decide ((200 : Int) < (l.length : Int)) = false := decide_eq_false (by omega)
  have MO := Lib.hid (modules l a0 cap0 W hL (by omega))
  clear hL
  go_enter Tryd.func9, Tryd.ntmps9
  go_upto_region 4 with (go_at_call 11; (with_reducible refine MO.out.mono ?_); rintro en w1 ⟨ms, A, c, qs, hg, rfl, ho, hB⟩)
  clear d0 d0i MO B0
  have hml := hg.len
  have hM := ho.isMs
  have hcp := ho.cap
  rcases Nat.eq_zero_or_pos ms.length with hz | hz
  · obtain rfl : ms = [] := List.eq_nil_of_length_eq_zero hz
    have F1 : Calls Tryd.prog 20 #[.slice A 0 c, .string ⟨#[97]⟩, .int .i64 32] w1 _ := find_is (ms := []) (nm := [97]) (wd := 32) (x := 0) (b := false) ⟨rfl, rfl⟩ A 0 c rfl w1 hM (by decide)
    have F1 := Lib.hid F1
    have S1 := Lib.hid (fun (w : World) (hb : Below w1.heap.size w1 w) => (show Calls Tryd.prog 22 #[.slice A 0 c, .int .i64 32] w _ from select22 [] 32 A c w (hM.below hb) (by omega) (by decide) (by simp)))
    clear ho hM hcp hz
    go_upto_region 6 with (go_at_call 20; (with_reducible refine F1.out.mono ?_); rintro en w2 ⟨rfl, hb2⟩)
    have hB := hB.trans (hb2.mono hB.size)
    have S2 := Lib.hid (S1.out w2 hb2)
    go_wp2_with (first | (go_at_call 22; (with_reducible refine S2.out.mono ?_); rintro en w3 ⟨A3, c3, qs3, rfl, -, hb3⟩; have hB3 := hB.trans (hb3.mono hB.size); have hl3 : (selM 32 []).length = 0 := rfl) | (go_at_call 10; (with_reducible refine (AW.out _ hB3).mono ?_); rintro en w9 ⟨rfl, hB9⟩))
    go_ret
    exact ⟨rfl, hB9⟩
  obtain ⟨b0, o0, rfl, -⟩ := hM.2 hz
  obtain ⟨n, hn⟩ : ∃ n, ms.length = n := ⟨_, rfl⟩
  have h0 := Int.emod_nonneg which (show (n : Int) ≠ 0 by omega)
  have h1 := Int.emod_lt_of_pos which (show (0 : Int) < n by omega)
  obtain ⟨k, hk⟩ : ∃ k : Nat, which % (n : Int) = (k : Int) := ⟨(which % (n : Int)).toNat, by omega⟩
  have PL := fun w => place which n (by omega) (by omega) w
  rw [hk] at PL h0 h1
  have hkn : k < ms.length := by omega
  have PL := Lib.hid PL
  have fd := hg.found k hkn
  obtain ⟨m, hm⟩ : ∃ m, ms[k] = m := ⟨_, rfl⟩
  rw [hm] at fd
  obtain ⟨D, dc, q0, -, q2, -, -, -, -⟩ := hM.cell k hkn
  rw [hm] at q0 q2
  have F1 := Lib.hid (fun (w : World) (hb : Below w1.heap.size w1 w) => find_is fd.symm (some ⟨b0, o0, none⟩) n c hn.symm w (hn ▸ hM.below hb) (by omega))
  have F2 := Lib.hid (fun (w : World) (hb : Below w1.heap.size w1 w) => (show Calls Tryd.prog 20 #[.slice (some ⟨b0, o0, none⟩) n c, .string ⟨#[97, 98, 115, 101, 110, 116]⟩, .int .i64 m.width] w _ from find_is (ms := ms) (nm := [97, 98, 115, 101, 110, 116]) (wd := m.width) (x := 0) (b := false) ((hg.absent (by rintro (h | h | h) <;> cases h) m.width).symm) (some ⟨b0, o0, none⟩) n c hn.symm w (hn ▸ hM.below hb) (by omega)))
  have HK := Lib.hid (fun (w : World) (hb : Below w1.heap.size w1 w) => (⟨(hb.cell (p := ⟨b0, o0 + k * 5, none⟩) (block_lt_of_cell q0)).trans q0, (hb.cell (p := ⟨b0, o0 + k * 5 + 2, none⟩) (block_lt_of_cell q2)).trans q2⟩ : _ ∧ _))
  have HN := Lib.hid hn
  have HM := Lib.hid hM
  rw [hn] at hz hcp hml hkn
  simp only [hn]
  have n0 : (n = 0) = False := by simp; omega
  have n0i : ((n : Int) = 0) = False := by simp; omega
  clear hk fd hM ho hn
  go_upto_region 8 with (go_at_call 15; refine (PL.out _).mono ?_; rintro en w9 ⟨rfl, rfl⟩)
  have HKW := HK.out _ (Below.refl _ w1)
  have HKD := HK.out _ (Below.refl _ w1).drew
  go_region_held3 (fun w' => w'.cell? ⟨b0, o0 + k * 5, none⟩ = some (.string (sv m.name)) ∧ w'.cell? ⟨b0, o0 + k * 5 + 2, none⟩ = some (.int .i64 m.width)) (first | exact HK.out _ (Below.refl _ _) | exact HK.out _ (Below.refl _ _).drew | exact HK.out _ hb2) (first | (go_at_call 20; (with_reducible refine Calls.mono (F1.out _ (by first | exact (Below.refl _ _).drew | exact Below.refl _ _)) ?_); rintro en w2 ⟨rfl, hb9⟩; have hb2 := (show Below w1.heap.size w1 w2 from (by first | exact ((Below.refl _ w1).drew).trans hb9 | exact hb9)); clear hb9))
  have hB := hB.trans (hb2.mono hB.size)
  have HK2 := HK.out _ hb2
  have p0 := HK2.1
  have p2 := HK2.2
  go_upto_region 10 with (go_at_call 20; (with_reducible refine Calls.mono (F2.out _ hb2) ?_); rintro en w3 ⟨rfl, hb3⟩)
  have hB := hB.trans (hb3.mono hB.size)
  have hM3 := (HM.out.below hb2).below hb3
  have v0 := Int.emod_nonneg width (show (2 : Int) ≠ 0 by decide)
  have v1 := Int.emod_lt_of_pos width (show (0 : Int) < 2 by decide)
  have PL2 := fun w => place width 2 (by decide) (by decide) w
  obtain ⟨v, hv⟩ : ∃ v, width % 2 = v := ⟨_, rfl⟩
  rw [hv] at PL2 v0 v1
  have PL2 := Lib.hid PL2
  have hw1 : IntKind.i64.wrap (7 * v) = 7 * v := by rw [IntKind.wrap_i64]; omega
  have hw2 : IntKind.i64.wrap (32 + 7 * v) = 32 + 7 * v := by rw [IntKind.wrap_i64]; omega
  clear HK2 p0 p2 HKW HKD HK F1 F2 q0 q2 PL hb2 hb3 hv
  go_upto_region 11 with (go_at_call 15; refine (PL2.out _).mono ?_; rintro en w9 ⟨rfl, rfl⟩)
  obtain ⟨wd, hwd⟩ : ∃ wd, 32 + 7 * v = wd := ⟨_, rfl⟩
  simp only [hwd]
  have SL := select22 ms wd (some ⟨b0, o0, none⟩) c w3 hM3 (by rw [HN.out]; exact hcp) (by rw [HN.out]; omega) (fun m hm => by have := hg.dat m hm; omega)
  rw [HN.out] at SL
  have SL := Lib.hid SL
  clear PL2 hw1 hw2 v0 v1 hwd
  go_upto_region 14 with (go_at_call 22; (with_reducible refine SL.out.mono ?_); rintro en w4 ⟨A4, c4, qs4, rfl, ho4, hb4⟩)
  have hB := hB.trans (hb4.mono hB.size)
  have hM4 := hM3.below hb4
  have hS4 := ho4.isMs
  have hc4 := ho4.cap
  obtain ⟨q, hq⟩ : ∃ q, (selM wd ms).length = q := ⟨_, rfl⟩
  have HQ := Lib.hid hq
  rw [hq] at hS4 hc4
  simp only [hq]
  have hq2 : q ≤ n := by rw [← hq, ← HN.out]; exact List.length_filter_le _ _
  clear hM3 hb4 SL ho4 hq HM
  go_loopw [17, 18] (fun i1 i2 wr => ∃ j : Nat, j ≤ n ∧ i2 = .int .i64 j ∧ i1 = .int .i64 ((selM wd (ms.take j)).length : Nat) ∧ Below w4.heap.size w4 wr) (fun _ i _ => n - (intOf i).toNat)
  case atStart => exact ⟨0, by omega, rfl, by simp [selM], Below.refl _ _⟩
  case round =>
    obtain ⟨j, hj, rfl, rfl, hbr⟩ := hrel
    have hBr := hB.trans (hbr.mono hB.size)
    rcases Nat.lt_or_ge j n with hjl | hjl
    · have d1 : decide (j < n) = true := decide_eq_true hjl
      have hji : (j : Int) < n := by omega
      have hj0 : (0 : Int) ≤ (j : Int) := by omega
      have hjm : j < ms.length := by rw [HN.out]; exact hjl
      have hMr := hM4.below hbr
      have hSr := hS4.below hbr
      obtain ⟨Dj, dcj, -, -, r2, -, -, -, -⟩ := hMr.cell j hjm
      obtain ⟨y, hy⟩ : ∃ y, ms[j] = y := ⟨_, rfl⟩
      rw [hy] at r2
      have HY := Lib.hid hy
      have hstep := selM_step wd ms j hjm hy
      clear hy
      have q2 := r2
      clear r2
      by_cases hp : (y.width == wd || y.width == 0) = true
      · rw [if_pos hp] at hstep
        obtain ⟨hn2, hget⟩ := selM_at wd ms j hjm (by rw [HY.out]; exact hp)
        rw [HY.out] at hget
        obtain ⟨p, hpe⟩ : ∃ p, (selM wd (ms.take j)).length = p := ⟨_, rfl⟩
        have hsl : (selM wd (ms.take (j + 1))).length = p + 1 := by rw [hstep, List.length_append, hpe]; rfl
        simp only [hpe] at hget hn2 ⊢
        rw [HQ.out] at hn2
        obtain ⟨b4, o4, rfl, -⟩ := hSr.2 (by omega)
        have hS1 := hSr.part p (by rw [HQ.out]; exact hn2) hget
        have hM1 := hMr.part j hjm HY.out
        have SM := Lib.hid (fun (w : World) (hb : Below wr.heap.size wr w) => (show Calls Tryd.prog 14 #[.slice (some ⟨b4, o4 + p * 5, none⟩) 1 (c4 - p), .slice (some ⟨b0, o0 + j * 5, none⟩) 1 (c - j)] w _ from same14 [y] (some ⟨b4, o4 + p * 5, none⟩) (some ⟨b0, o0 + j * 5, none⟩) (c4 - p) (c - j) w (hS1.below hb) (show 1 ≤ c4 - p by omega) (hM1.below hb) (show 1 ≤ c - j by omega) (show 1 ≤ 1000000 by decide)))
        have HSL := Lib.hid hsl
        have g1 : IntKind.i64.wrap ((p : Int) + 1) = (p : Int) + 1 := by rw [IntKind.wrap_i64]; omega
        have g2 : IntKind.i64.wrap ((j : Int) + 1) = (j : Int) + 1 := by rw [IntKind.wrap_i64]; omega
        have g3 : (0 : Int) ≤ (p : Int) := by omega
        have g4 : (p : Int) ≤ (p : Int) + 1 := by omega
        have g5 : (p : Int) + 1 ≤ (c4 : Int) := by omega
        have g6 : (j : Int) ≤ (j : Int) + 1 := by omega
        have g7 : (j : Int) + 1 ≤ (c : Int) := by omega
        have g8 : (c4 = p) = False := by simp; omega
        have g9 : (c = j) = False := by simp; omega
        have gt1 : ((p : Int) + 1).toNat = p + 1 := by omega
        have gt2 : ((j : Int) + 1).toNat = j + 1 := by omega
        have dq : decide (q ≤ p) = false := decide_eq_false (by omega)
        have dqi : decide ((q : Int) ≤ (p : Int)) = false := decide_eq_false (by omega)
        clear hstep hget hpe hsl hS1 hM1 hSr hMr
        by_cases hc : y.width = wd
        · have e1 : (y.width != wd) = false := by simp [hc]
          clear hc hp
          go_upto_region 17 with (fail)
          go_region_held3 (fun w' => True) (trivial) (first | (go_at_call 14; (with_reducible refine Calls.mono (SM.out _ (by first | exact Below.refl _ _ | exact (Below.refl _ _).drew)) ?_); rintro en w5 ⟨rfl, hb5⟩; have hb6 := (show Below wr.heap.size wr w5 from (by first | exact hb5 | exact ((Below.refl _ wr).drew).trans hb5))))
          go_wp2
          exact ⟨⟨j + 1, by omega, by go_num, by rw [HSL.out]; go_num, hbr.trans (hb6.mono hbr.size)⟩, by simp [intOf]; omega⟩
        · have hz : y.width = 0 := by simp [hc] at hp; exact hp
          have e1 : (y.width != wd) = true := by simp [hc]
          have e2 : (y.width != 0) = false := by simp [hz]
          clear hc hp hz
          go_upto_region 17 with (fail)
          go_region_held3 (fun w' => True) (trivial) (first | (go_at_call 14; (with_reducible refine Calls.mono (SM.out _ (by first | exact Below.refl _ _ | exact (Below.refl _ _).drew)) ?_); rintro en w5 ⟨rfl, hb5⟩; have hb6 := (show Below wr.heap.size wr w5 from (by first | exact hb5 | exact ((Below.refl _ wr).drew).trans hb5))))
          go_wp2
          exact ⟨⟨j + 1, by omega, by go_num, by rw [HSL.out]; go_num, hbr.trans (hb6.mono hbr.size)⟩, by simp [intOf]; omega⟩
      · rw [if_neg hp] at hstep
        rw [Bool.or_eq_true, not_or] at hp
        have e1 : (y.width != wd) = true := by simpa using hp.1
        have e2 : (y.width != 0) = true := by simpa using hp.2
        have HST := Lib.hid hstep
        clear hstep hp hMr hSr
        go_wp2
        exact ⟨⟨j + 1, by omega, by go_num, by rw [HST.out], hbr⟩, by simp [intOf]; omega⟩
    · obtain rfl : j = n := by omega
      have ht : ms.take j = ms := List.take_of_length_le (by rw [HN.out]; exact Nat.le_refl _)
      simp only [ht, HQ.out]
      have d1 : decide (j < j) = false := by simp
      clear ht
      go_wp2_with (go_at_call 10; (with_reducible refine (AW.out _ hBr).mono ?_); rintro en w9 ⟨rfl, hB9⟩)
      go_ret
      exact ⟨rfl, hB9⟩
end Go.Proofs.YtigbmlgllgcbhaaDoor
