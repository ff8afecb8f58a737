/- Page tables: FindMapping; the walk of PageRoundTrip. -/
import Derived.Test.YtonloimepfojdaaPlr
namespace Go.Proofs.Ytonloimepfojdaa
open Go.RowKit
set_option linter.unusedVariables false
def FmPost (i : Int) (ms : List Mp) (W : World) (e : Ending) (W' : World) : Prop := ∃ r : Int, e = .returned (.int .i64 r) ∧ Below W.heap.size W W' ∧ ((r = -1 ∧ ∀ m ∈ ms, m.ix ≠ i) ∨ ∃ k : Nat, r = k ∧ ∃ hk : k < ms.length, ms[k].ix = i)
theorem fm_no {i : Int} {ms : List Mp} {W W' : World} (hB : Below W.heap.size W W') (h : ∀ m ∈ ms, m.ix ≠ i) : FmPost i ms W (.returned (.int .i64 (-1))) W' := ⟨-1, rfl, hB, .inl ⟨rfl, h⟩⟩
theorem Row.four {w : World} {g : Nat} {t : TypeId} {a b c d : Value} (h : Row w g t #[a, b, c, d]) : w.cell? ⟨g, 0, none⟩ = some a ∧ w.cell? ⟨g, 1, none⟩ = some b ∧ w.cell? ⟨g, 2, none⟩ = some c ∧ w.cell? ⟨g, 3, none⟩ = some d := ⟨h.cell 0, h.cell 1, h.cell 2, h.cell 3⟩
set_option maxRecDepth 20000 in
set_option maxHeartbeats 4000000 in
theorem find_mapping (b w lv i : Int) (A : Option Addr) (n c : Nat) (ms : List Mp) (W : World) (hA : IsMs W A n ms) (hn : n ≤ 1000) :
    Calls Try.prog 34 #[.agg #[.int .i64 b, .int .i64 w, .int .i64 lv, .slice A n c], .int .i64 i] W (FmPost i ms W) := by
  have hB := (Below.refl W.heap.size W).alloc (Nat.le_refl _) (.cells #[.int .i64 b, .int .i64 w, .int .i64 lv, .slice A n c] 43)
  have r1 := Row.born W 43 #[.int .i64 b, .int .i64 w, .int .i64 lv, .slice A n c]
  go_enter Try.func34, Try.ntmps34
  go_upto_region 2 with (fail)
  generalize W.alloc (.cells #[.int .i64 b, .int .i64 w, .int .i64 lv, .slice A n c] 43) = w1 at *
  have hA1 := hA.below hB
  have t3 := r1.cell 3
  simp at t3
  have hlen := hA.1
  clear hA r1
  go_loopw [5] (fun x wr => ∃ k : Nat, k ≤ n ∧ x = .int .i64 k ∧ wr = w1 ∧ ∀ m ∈ ms.take k, m.ix ≠ i) (fun x _ => n - (intOf x).toNat)
  case atStart => exact ⟨0, by omega, rfl, rfl, fun m hm => by simp at hm⟩
  case round =>
    obtain ⟨k, hk, rfl, rfl, hno⟩ := hrel
    rcases Nat.lt_or_ge k n with hkn | hkn
    · have hd : decide (k < n) = true := by simp; omega
      obtain ⟨b0, o, m, rfl, hdr, hm⟩ := hA1.at_ k hkn
      have m0 := hm.c0
      have hk' : k < ms.length := by omega
      have hmk : ms[k] = m := by
        have h := List.drop_eq_getElem_cons hk'
        rw [hdr] at h
        exact (List.cons.inj h).1.symm
      by_cases he : m.ix = i
      · have he' : (m.ix == i) = true := by simpa using he
        have HM := Lib.hid hmk
        have HE := Lib.hid he
        clear hmk he hm hdr
        go_wp2
        go_ret
        exact ⟨k, rfl, hB, .inr ⟨k, rfl, hk', by rw [HM.out]; exact HE.out⟩⟩
      · have he' : (m.ix == i) = false := by simpa using he
        have HN : Hid (∀ m ∈ ms.take (k + 1), m.ix ≠ i) := Lib.hid (by
          intro m' hm'
          rw [List.take_succ_eq_append_getElem hk', hmk] at hm'
          rcases List.mem_append.1 hm' with h | h
          · exact hno m' h
          · rw [List.mem_singleton.1 h]; exact he)
        clear hmk he hm hdr hno
        go_wp2
        exact ⟨⟨k + 1, by omega, by go_num, by trivial, HN.out⟩, by simp [intOf]; omega⟩
    · have hd : decide (k < n) = false := by simp; omega
      have HN : Hid (∀ m ∈ ms, m.ix ≠ i) := Lib.hid (by rwa [List.take_of_length_le (by omega)] at hno)
      clear hno
      go_wp2
      go_ret
      exact fm_no hB HN.out
theorem IsC.four {w : World} {A : Option Addr} {N : Nat} {X : List Value} (h : IsC w A N 4 X) {i : Nat} (hi : i < N) {a b c d : Value} (h0 : X[i * 4]? = some a) (h1 : X[i * 4 + 1]? = some b) (h2 : X[i * 4 + 2]? = some c) (h3 : X[i * 4 + 3]? = some d) : ∃ B o, A = some ⟨B, o, none⟩ ∧ w.cell? ⟨B, o + i * 4, none⟩ = some a ∧ w.cell? ⟨B, o + i * 4 + 1, none⟩ = some b ∧ w.cell? ⟨B, o + i * 4 + 2, none⟩ = some c ∧ w.cell? ⟨B, o + i * 4 + 3, none⟩ = some d := by
  obtain ⟨B, o, e, hc⟩ := h.2 (by omega)
  exact ⟨B, o, e, hc _ _ h0, hc _ _ h1, hc _ _ h2, hc _ _ h3⟩
theorem IsMs.get {w : World} {A : Option Addr} {n : Nat} {ms : List Mp} (h : IsMs w A n ms) (k : Nat) (hk : k < ms.length) : ∃ b o, A = some ⟨b, o, none⟩ ∧ MpAt w b (o + k * 6) ms[k] := by
  obtain ⟨b, o, e, hc⟩ := h.2 (by have := h.1; omega)
  have c := hc k hk
  exact ⟨b, o, e, ⟨c 0 _ rfl, c 1 _ rfl, c 2 _ rfl, c 3 _ rfl, c 4 _ rfl, c 5 _ rfl⟩⟩
set_option maxRecDepth 20000 in
set_option maxHeartbeats 8000000 in
theorem law_roundtrip (w level : Int) (B : Option Addr) (m d : Nat) (W : World) (hI : IsI W B m) : Calls Try.prog 9 #[.int .i64 w, .int .i64 level, .slice B m d] W (True1 W) := by
  go_enter Try.func9, Try.ntmps9
  go_upto_region 2 with (go_at_call 32; refine (table _ _ _ _ _ _ hI).mono ?_; rintro e w1 ⟨wd, lv, A4, n4, c4, ms, rfl, hM1, hn4, hc4, hwd, hvt, hB1⟩)
  have r2 := Row.born w1 43 #[.int .i64 4096, .int .i64 wd, .int .i64 lv, .slice A4 n4 c4]
  have hb12 := (Below.refl w1.heap.size w1).alloc (Nat.le_refl _) (.cells #[.int .i64 4096, .int .i64 wd, .int .i64 lv, .slice A4 n4 c4] 43)
  have hB2 := hB1.alloc hB1.size (.cells #[.int .i64 4096, .int .i64 wd, .int .i64 lv, .slice A4 n4 c4] 43)
  have hM2 := hM1.below hb12
  have hge := hB1.size
  generalize w1.alloc (.cells #[.int .i64 4096, .int .i64 wd, .int .i64 lv, .slice A4 n4 c4] 43) = w2 at *
  generalize w1.heap.size = g7 at *
  clear hB1 hM1 hb12 hI
  obtain ⟨t0, t1, t2, t3⟩ := r2.four
  obtain ⟨L, hLL⟩ : ∃ L, packL wd lv (eb wd).toNat (eb wd).toNat (List.replicate 4096 0) ms = L := ⟨_, rfl⟩
  have HLL := Lib.hid hLL
  have HV := Lib.hid hvt
  clear hLL hvt
  go_upto_region 3 with (first | (go_at_call 26; refine (copied 4096 wd lv A4 n4 c4 ms _ hM2 (by omega)).mono ?_; rintro e w3 ⟨A5, c5, rfl, hM3, hb3⟩) | (go_at_call 25; refine (pack_yes hM3 (by omega) HV.out HLL.out).mono ?_; rintro e w4 ⟨g8, hg8, rfl, hL4, q8, hb4⟩))
  have hb24 := hb3.trans (hb4.mono hb3.size)
  have hB3 := hB2.trans (hb24.mono hB2.size)
  have hM3 := hM2.below hb24
  have r3 := r2.below hb24 r2.lt
  have hI3 : IsB w4 (some ⟨g8, 0, none⟩) 4096 L := by
    have h := IsB.of_row q8
    rwa [hL4.out] at h
  clear t0 t1 t2 t3 hb3 hb4 hb24 hB2 hM2 r2 hL4 q8
  have t1 := r3.four.2.1
  rcases hwd with rfl | rfl
  · skip
    obtain ⟨X, HX⟩ := rtT32 HV.out HLL.out
    have HXu := Lib.hid HX.up
    go_upto_region 4 with (go_at_call 30; refine (unpackL 32 _ _ _ _ _ hI3 (by omega) HXu.out).mono ?_; rintro e w4 ⟨A5, c5, rfl, hC4, hb4⟩)
    have hB4 := hB3.trans (hb4.mono hB3.size)
    have hM4 := hM3.below hb4
    have r4 := r3.below hb4 r3.lt
    clear t1 hb4 hB3 hM3 r3 hI3 HXu
    obtain ⟨t0, t1, t2, t3⟩ := r4.four
    have vv := HV.out
    go_upto_region 6 with (first | (go_at_call 13; refine (ebytes _ _).mono ?_; rintro e w' ⟨rfl, rfl⟩; rw [show eb 32 = 4 from rfl]) | (go_at_call 28; refine (valid 4096 32 lv A4 n4 c4 ms _ hM4 (by omega)).mono ?_; rintro e w5 ⟨rfl, hb5⟩; rw [vv]))
    have hB5 := hB4.trans (hb5.mono hB4.size)
    have hM5 := hM4.below hb5
    have r5 := r4.below hb5 r4.lt
    have hC5 := hC4.below hb5
    clear t0 t1 t2 t3 hb5 hB4 hM4 r4 hC4 vv
    have HLEN := Lib.hid hM5.1
    go_upto_region 8 with (fail)
    go_loopw [12, 13] (fun x i wr => ∃ k : Nat, k ≤ 1024 ∧ i = .int .i64 k ∧ x = .int .i64 (cntM k ms) ∧ IsMs wr A4 n4 ms ∧ Row wr g7 43 #[.int .i64 4096, .int .i64 32, .int .i64 lv, .slice A4 n4 c4] ∧ IsC wr A5 1024 4 X ∧ Below W.heap.size W wr) (fun _ i _ => 1024 - (intOf i).toNat)
    case atStart => exact ⟨0, by omega, rfl, by rw [cntM_zero ms fun m hm => (HX.ix m hm).1]; rfl, hM5, r5, hC5, hB5⟩
    case round =>
      clear hM5 r5 hC5 hB5
      obtain ⟨k, hk, rfl, rfl, hM, hr, hC, hB⟩ := hrel
      obtain ⟨t0, t1, t2, t3⟩ := hr.four
      rcases Nat.lt_or_ge k 1024 with hkn | hkn
      · have hd : decide ((k : Int) < 1024) = true := by simp; omega
        have hki : (k : Int) < 1024 := by omega
        go_upto_region 10 with (fail)
        go_upto_region 11 with (go_at_call 34; refine (find_mapping 4096 32 lv k A4 n4 c4 ms _ hM (Nat.le_trans hn4 (by decide))).mono ?_; rintro e w6 ⟨r, rfl, hb6, hf⟩)
        have hB6 := hB.trans (hb6.mono hB.size)
        have hM6 := hM.below hb6
        have r6 := hr.below hb6 hr.lt
        have hC6 := hC.below hb6
        clear t0 t1 t2 t3 hb6 hB hM hr hC
        obtain ⟨t0, t1, t2, t3⟩ := r6.four
        rcases hf with ⟨rfl, hno⟩ | ⟨j, rfl, hj, hjx⟩
        · obtain ⟨x0, x1, x2, x3⟩ := HX.miss k hkn hno
          have hcnt : Hid (cntM (k + 1) ms = cntM k ms) := Lib.hid (cntM_miss k ms hno)
          obtain ⟨B1, o1, rfl, y0, y1, y2, y3⟩ := hC6.four hkn x0 x1 x2 x3
          clear x0 x1 x2 x3 hno
          go_wp2
          exact ⟨⟨k + 1, by omega, by go_num, by rw [hcnt.out], hM6, r6, hC6, hB6⟩, by simp [intOf]; omega⟩
        · obtain ⟨x0, x1, x2, x3⟩ := HX.hit ms[j] (List.getElem_mem hj) k hjx
          have hcnt : Hid (cntM (k + 1) ms = cntM k ms + 1) := Lib.hid (HX.cnt k ⟨ms[j], List.getElem_mem hj, hjx⟩)
          have hcl : cntM k ms ≤ ms.length := List.length_filter_le _ _
          have hcl : cntM k ms ≤ 1000 := by have := HLEN.out; omega
          obtain ⟨B1, o1, hA5, y0, y1, y2, y3⟩ := hC6.four hkn x0 x1 x2 x3
          subst hA5
          obtain ⟨B2, o2, hA4, hmp⟩ := hM6.get j hj
          subst hA4
          obtain ⟨m0, m1, m2, m3, m4, m5⟩ := hmp
          clear x0 x1 x2 x3
          generalize ms[j] = m at *
          obtain ⟨ix, bb, rt, co, op, pt⟩ := m
          dsimp only at m0 m1 m2 m3 m4 m5 y2 y3 hjx
          have hjn : j < n4 := by have := HLEN.out; omega
          have hd1 : decide ((j : Int) < 0) = false := by simp
          have hd2 : decide (j < n4) = true := by simp; omega
          have HJ := Lib.hid hjx
          clear hjx
          obtain ⟨q, hq⟩ : ∃ q : Nat, cntM k ms = q := ⟨_, rfl⟩
          rw [hq] at hcnt hcl
          rw [hq]
          clear hq
          go_upto_region 16 with (fail)
          have r9 := Row.born w6 60 #[.int .i64 ix, .int .i64 bb, .int .i64 rt, .int .i64 co, .int .i64 op, .int .i64 pt]
          have hb67 := (Below.refl w6.heap.size w6).alloc (Nat.le_refl _) (.cells #[.int .i64 ix, .int .i64 bb, .int .i64 rt, .int .i64 co, .int .i64 op, .int .i64 pt] 60)
          have r7 := r6.below hb67 r6.lt
          have hB7 := hB6.alloc hB6.size (.cells #[.int .i64 ix, .int .i64 bb, .int .i64 rt, .int .i64 co, .int .i64 op, .int .i64 pt] 60)
          have hM7 := hM6.below hb67
          have hC7 := hC6.below hb67
          have y0 := (hb67.cell (p := ⟨B1, o1 + k * 4, none⟩) (block_lt_of_cell y0)).trans y0
          have y1 := (hb67.cell (p := ⟨B1, o1 + k * 4 + 1, none⟩) (block_lt_of_cell y1)).trans y1
          have y2 := (hb67.cell (p := ⟨B1, o1 + k * 4 + 2, none⟩) (block_lt_of_cell y2)).trans y2
          have y3 := (hb67.cell (p := ⟨B1, o1 + k * 4 + 3, none⟩) (block_lt_of_cell y3)).trans y3
          generalize w6.alloc (.cells #[.int .i64 ix, .int .i64 bb, .int .i64 rt, .int .i64 co, .int .i64 op, .int .i64 pt] 60) = w7 at *
          generalize w6.heap.size = g15 at *
          clear t0 t1 t2 t3 m0 m1 m2 m3 m4 m5 hb67 r6 hB6 hM6 hC6
          have t2 := r7.four.2.2.1
          have e1 := r9.cell 1
          have e2 := r9.cell 2
          simp at e1 e2
          refine wp_region_told (n := 103) (fun w' => w' = w7.drew) (fun _ _ => True) (by kernel_rfl) (by kernel_rfl) (by rfl) rfl ?_
          have y0 : w7.drew.cell? ⟨B1, o1 + k * 4, none⟩ = _ := y0
          have y1 : w7.drew.cell? ⟨B1, o1 + k * 4 + 1, none⟩ = _ := y1
          have y2 : w7.drew.cell? ⟨B1, o1 + k * 4 + 2, none⟩ = _ := y2
          have y3 : w7.drew.cell? ⟨B1, o1 + k * 4 + 3, none⟩ = _ := y3
          have t2 : w7.drew.cell? ⟨g7, 2, none⟩ = _ := t2
          have e1 : w7.drew.cell? ⟨g15, 1, none⟩ = _ := e1
          have e2 : w7.drew.cell? ⟨g15, 2, none⟩ = _ := e2
          have hB7 := hB7.drew
          have r7 := r7.drew
          have hM7 : IsMs w7.drew _ n4 ms := hM7
          have hC7 : IsC w7.drew _ 1024 4 X := hC7
          clear r9
          generalize w7.drew = w8 at *
          repeat (refine walk_pure (v := ?_) (fun _ => trivial) (fun _ => rfl) ?_ ?_; rotate_left; (focus (intro us w9 hS9 hF; subst hS9; go_simp; (try with_reducible rfl); done)); simp only [Act.put, List.setIfInBounds_toArray, List.set_cons_zero, List.set_cons_succ, Nat.reduceAdd])
          refine walk_done fun us w9 hS9 hF => ?_
          subst hS9
          clear hF y0 y1 y2 y3 t2 e1 e2
          go_wp2
          exact ⟨⟨k + 1, by omega, by go_num, by rw [hcnt.out]; go_num, hM7, r7, hC7, hB7⟩, by simp [intOf]; omega⟩
      · obtain rfl : k = 1024 := by omega
        have hd : decide (((1024 : Nat) : Int) < 1024) = false := by simp
        have hcnt : cntM 1024 ms = n4 := by rw [cntM_all 1024 ms fun m hm => (HX.ix m hm).2]; exact HLEN.out.symm
        have HC := Lib.hid hcnt
        clear hcnt
        rw [HC.out]
        have hnn : ((n4 : Int) == (n4 : Int)) = true := by simp
        go_wp2_with (go_at_call 18; refine (awake_ok _).mono ?_; rintro e wc ⟨rfl, hbc⟩)
        go_ret
        exact ⟨rfl, hB.trans (hbc.mono hB.size)⟩
  · skip
    obtain ⟨X, HX⟩ := rtT39 HV.out HLL.out
    have HXu := Lib.hid HX.up
    go_upto_region 4 with (go_at_call 30; refine (unpackL 39 _ _ _ _ _ hI3 (by omega) HXu.out).mono ?_; rintro e w4 ⟨A5, c5, rfl, hC4, hb4⟩)
    have hB4 := hB3.trans (hb4.mono hB3.size)
    have hM4 := hM3.below hb4
    have r4 := r3.below hb4 r3.lt
    clear t1 hb4 hB3 hM3 r3 hI3 HXu
    obtain ⟨t0, t1, t2, t3⟩ := r4.four
    have vv := HV.out
    go_upto_region 6 with (first | (go_at_call 13; refine (ebytes _ _).mono ?_; rintro e w' ⟨rfl, rfl⟩; rw [show eb 39 = 8 from rfl]) | (go_at_call 28; refine (valid 4096 39 lv A4 n4 c4 ms _ hM4 (by omega)).mono ?_; rintro e w5 ⟨rfl, hb5⟩; rw [vv]))
    have hB5 := hB4.trans (hb5.mono hB4.size)
    have hM5 := hM4.below hb5
    have r5 := r4.below hb5 r4.lt
    have hC5 := hC4.below hb5
    clear t0 t1 t2 t3 hb5 hB4 hM4 r4 hC4 vv
    have HLEN := Lib.hid hM5.1
    go_upto_region 8 with (fail)
    go_loopw [12, 13] (fun x i wr => ∃ k : Nat, k ≤ 512 ∧ i = .int .i64 k ∧ x = .int .i64 (cntM k ms) ∧ IsMs wr A4 n4 ms ∧ Row wr g7 43 #[.int .i64 4096, .int .i64 39, .int .i64 lv, .slice A4 n4 c4] ∧ IsC wr A5 512 4 X ∧ Below W.heap.size W wr) (fun _ i _ => 512 - (intOf i).toNat)
    case atStart => exact ⟨0, by omega, rfl, by rw [cntM_zero ms fun m hm => (HX.ix m hm).1]; rfl, hM5, r5, hC5, hB5⟩
    case round =>
      clear hM5 r5 hC5 hB5
      obtain ⟨k, hk, rfl, rfl, hM, hr, hC, hB⟩ := hrel
      obtain ⟨t0, t1, t2, t3⟩ := hr.four
      rcases Nat.lt_or_ge k 512 with hkn | hkn
      · have hd : decide ((k : Int) < 512) = true := by simp; omega
        have hki : (k : Int) < 512 := by omega
        go_upto_region 10 with (fail)
        go_upto_region 11 with (go_at_call 34; refine (find_mapping 4096 39 lv k A4 n4 c4 ms _ hM (Nat.le_trans hn4 (by decide))).mono ?_; rintro e w6 ⟨r, rfl, hb6, hf⟩)
        have hB6 := hB.trans (hb6.mono hB.size)
        have hM6 := hM.below hb6
        have r6 := hr.below hb6 hr.lt
        have hC6 := hC.below hb6
        clear t0 t1 t2 t3 hb6 hB hM hr hC
        obtain ⟨t0, t1, t2, t3⟩ := r6.four
        rcases hf with ⟨rfl, hno⟩ | ⟨j, rfl, hj, hjx⟩
        · obtain ⟨x0, x1, x2, x3⟩ := HX.miss k hkn hno
          have hcnt : Hid (cntM (k + 1) ms = cntM k ms) := Lib.hid (cntM_miss k ms hno)
          obtain ⟨B1, o1, rfl, y0, y1, y2, y3⟩ := hC6.four hkn x0 x1 x2 x3
          clear x0 x1 x2 x3 hno
          go_wp2
          exact ⟨⟨k + 1, by omega, by go_num, by rw [hcnt.out], hM6, r6, hC6, hB6⟩, by simp [intOf]; omega⟩
        · obtain ⟨x0, x1, x2, x3⟩ := HX.hit ms[j] (List.getElem_mem hj) k hjx
          have hcnt : Hid (cntM (k + 1) ms = cntM k ms + 1) := Lib.hid (HX.cnt k ⟨ms[j], List.getElem_mem hj, hjx⟩)
          have hcl : cntM k ms ≤ ms.length := List.length_filter_le _ _
          have hcl : cntM k ms ≤ 1000 := by have := HLEN.out; omega
          obtain ⟨B1, o1, hA5, y0, y1, y2, y3⟩ := hC6.four hkn x0 x1 x2 x3
          subst hA5
          obtain ⟨B2, o2, hA4, hmp⟩ := hM6.get j hj
          subst hA4
          obtain ⟨m0, m1, m2, m3, m4, m5⟩ := hmp
          clear x0 x1 x2 x3
          generalize ms[j] = m at *
          obtain ⟨ix, bb, rt, co, op, pt⟩ := m
          dsimp only at m0 m1 m2 m3 m4 m5 y2 y3 hjx
          have hjn : j < n4 := by have := HLEN.out; omega
          have hd1 : decide ((j : Int) < 0) = false := by simp
          have hd2 : decide (j < n4) = true := by simp; omega
          have HJ := Lib.hid hjx
          clear hjx
          obtain ⟨q, hq⟩ : ∃ q : Nat, cntM k ms = q := ⟨_, rfl⟩
          rw [hq] at hcnt hcl
          rw [hq]
          clear hq
          go_upto_region 16 with (fail)
          have r9 := Row.born w6 60 #[.int .i64 ix, .int .i64 bb, .int .i64 rt, .int .i64 co, .int .i64 op, .int .i64 pt]
          have hb67 := (Below.refl w6.heap.size w6).alloc (Nat.le_refl _) (.cells #[.int .i64 ix, .int .i64 bb, .int .i64 rt, .int .i64 co, .int .i64 op, .int .i64 pt] 60)
          have r7 := r6.below hb67 r6.lt
          have hB7 := hB6.alloc hB6.size (.cells #[.int .i64 ix, .int .i64 bb, .int .i64 rt, .int .i64 co, .int .i64 op, .int .i64 pt] 60)
          have hM7 := hM6.below hb67
          have hC7 := hC6.below hb67
          have y0 := (hb67.cell (p := ⟨B1, o1 + k * 4, none⟩) (block_lt_of_cell y0)).trans y0
          have y1 := (hb67.cell (p := ⟨B1, o1 + k * 4 + 1, none⟩) (block_lt_of_cell y1)).trans y1
          have y2 := (hb67.cell (p := ⟨B1, o1 + k * 4 + 2, none⟩) (block_lt_of_cell y2)).trans y2
          have y3 := (hb67.cell (p := ⟨B1, o1 + k * 4 + 3, none⟩) (block_lt_of_cell y3)).trans y3
          generalize w6.alloc (.cells #[.int .i64 ix, .int .i64 bb, .int .i64 rt, .int .i64 co, .int .i64 op, .int .i64 pt] 60) = w7 at *
          generalize w6.heap.size = g15 at *
          clear t0 t1 t2 t3 m0 m1 m2 m3 m4 m5 hb67 r6 hB6 hM6 hC6
          have t2 := r7.four.2.2.1
          have e1 := r9.cell 1
          have e2 := r9.cell 2
          simp at e1 e2
          refine wp_region_told (n := 103) (fun w' => w' = w7.drew) (fun _ _ => True) (by kernel_rfl) (by kernel_rfl) (by rfl) rfl ?_
          have y0 : w7.drew.cell? ⟨B1, o1 + k * 4, none⟩ = _ := y0
          have y1 : w7.drew.cell? ⟨B1, o1 + k * 4 + 1, none⟩ = _ := y1
          have y2 : w7.drew.cell? ⟨B1, o1 + k * 4 + 2, none⟩ = _ := y2
          have y3 : w7.drew.cell? ⟨B1, o1 + k * 4 + 3, none⟩ = _ := y3
          have t2 : w7.drew.cell? ⟨g7, 2, none⟩ = _ := t2
          have e1 : w7.drew.cell? ⟨g15, 1, none⟩ = _ := e1
          have e2 : w7.drew.cell? ⟨g15, 2, none⟩ = _ := e2
          have hB7 := hB7.drew
          have r7 := r7.drew
          have hM7 : IsMs w7.drew _ n4 ms := hM7
          have hC7 : IsC w7.drew _ 512 4 X := hC7
          clear r9
          generalize w7.drew = w8 at *
          repeat (refine walk_pure (v := ?_) (fun _ => trivial) (fun _ => rfl) ?_ ?_; rotate_left; (focus (intro us w9 hS9 hF; subst hS9; go_simp; (try with_reducible rfl); done)); simp only [Act.put, List.setIfInBounds_toArray, List.set_cons_zero, List.set_cons_succ, Nat.reduceAdd])
          refine walk_done fun us w9 hS9 hF => ?_
          subst hS9
          clear hF y0 y1 y2 y3 t2 e1 e2
          go_wp2
          exact ⟨⟨k + 1, by omega, by go_num, by rw [hcnt.out]; go_num, hM7, r7, hC7, hB7⟩, by simp [intOf]; omega⟩
      · obtain rfl : k = 512 := by omega
        have hd : decide (((512 : Nat) : Int) < 512) = false := by simp
        have hcnt : cntM 512 ms = n4 := by rw [cntM_all 512 ms fun m hm => (HX.ix m hm).2]; exact HLEN.out.symm
        have HC := Lib.hid hcnt
        clear hcnt
        rw [HC.out]
        have hnn : ((n4 : Int) == (n4 : Int)) = true := by simp
        go_wp2_with (go_at_call 18; refine (awake_ok _).mono ?_; rintro e wc ⟨rfl, hbc⟩)
        go_ret
        exact ⟨rfl, hB.trans (hbc.mono hB.size)⟩
theorem walk_roundtrip (W : World) (w level : Int) (B : Option Addr) (m d : Nat) (ys : List Int) (_ : (Lit.int .i64 w).wf = true) (_ : (Lit.int .i64 level).wf = true) (hB : IsRow .i64 W B m d ys) :
    Calls Try.prog 9 #[.int .i64 w, .int .i64 level, .slice B m d] W (True1 W) := law_roundtrip w level B m d W hB.isI
end Go.Proofs.Ytonloimepfojdaa
