/- Lines: the walk of RingLines. -/
import Derived.Test.YthjkhambmgepdaaDcs
import Derived.Test.YthjkhambmgepdaaLate
namespace Go.Proofs.Ythjkhambmgepdaa
open Go.RowKit
set_option linter.unusedVariables false
theorem is_oneb (w : World) (b : Int) (b0 : 0 ≤ b) (b1 : b < 256) : IsB (w.alloc (.cells #[.int .u8 b] 5)) (some ⟨w.heap.size, 0, none⟩) 1 [UInt8.ofNat b.toNat] := by
  rw [bv_int b0 b1]
  exact IsB.of_row (bs := [UInt8.ofNat b.toNat]) (Row.born w 5 _)
set_option maxRecDepth 100000 in
set_option maxHeartbeats 8000000 in
theorem law_lines_no (k : Int) (e f : Bool) (n a : Int) (p : List UInt8) (at_ by' : Int) (E : Int) (a0 : 0 ≤ a) (a1 : a < 65536) (hp : p.length = 56) (h : lnE k e f n p = E) (hE : E ≠ 0) (W : World) : Calls Try.prog 6 #[.agg (LV k e f n a p), .int .i64 at_, .int .u8 by'] W (True1 W) := by
  have H := Lib.hid h
  clear h
  have hB := (Below.refl W.heap.size W).alloc (Nat.le_refl _) (.cells (LV k e f n a p) 40)
  have r3 := Row.born W 40 (LV k e f n a p)
  go_enter Try.func6, Try.ntmps6
  go_upto_region 1 with (fail)
  generalize W.alloc (.cells (LV k e f n a p) 40) = w1 at *
  go_upto_region 2 with (first | ((with_reducible refine wp_load_g ?_ r3.range Try.underlying40 rfl (line_info _ _ _ _ _ hp) ?_ ?_); rfl; rfl) | (go_at_call 30; refine (encode_no k e f n a p E a0 a1 hp H.out hE _).mono ?_; rintro e' w2 ⟨rfl, hb2⟩))
  have r3 := r3.below hb2 r3.lt
  have hB2 := hB.trans (hb2.mono hB.size)
  clear hb2 hB
  go_upto_region 3 with (first | ((with_reducible refine wp_load_g ?_ r3.range Try.underlying40 rfl (line_info _ _ _ _ _ hp) ?_ ?_); rfl; rfl) | (go_at_call 31; refine (encq_no k e f n a p E a0 a1 hp H.out hE _).mono ?_; rintro e' w3 ⟨rfl, hb3⟩))
  have hB3 := hB2.trans (hb3.mono hB2.size)
  have e1 : (E != E) = false := by simp
  have e2 : (E != 0) = true := by simpa using hE
  have e3 : (E == 0) = false := by simpa using hE
  clear hb3 hB2 hE r3
  go_wp2_with (first | ((with_reducible refine wp_str_g (c := 0) ?_ (IsB.nil w3 none) ?_ ?_); rfl; rfl) | (go_at_call 23; refine (awake19 _).mono ?_; rintro e' w4 ⟨rfl, hb4⟩))
  go_ret
  exact ⟨rfl, hB3.trans (hb4.mono hB3.size)⟩
set_option maxRecDepth 100000 in
set_option maxHeartbeats 8000000 in
theorem law_lines_yes (k : Int) (e f : Bool) (n a : Int) (p : List UInt8) (at_ by' : Int) (a0 : 0 ≤ a) (a1 : a < 65536) (hp : p.length = 56) (h : lnE k e f n p = 0) (b0 : 0 ≤ by') (b1 : by' < 256) (W : World) : Calls Try.prog 6 #[.agg (LV k e f n a p), .int .i64 at_, .int .u8 by'] W (True1 W) := by
  have H := Lib.hid h
  have D := dec_enc h hp a0 a1
  obtain ⟨bs, hbs⟩ : ∃ bs, lnB k e f n a p = bs := ⟨_, rfl⟩
  rw [hbs] at D
  have HB := Lib.hid hbs
  have hlen := D.len
  clear h hbs
  obtain ⟨kk, hkk⟩ : ∃ kk : Nat, at_ % 64 = kk := ⟨(at_ % 64).toNat, by omega⟩
  have hk64 : kk < 64 := by omega
  have hB := (Below.refl W.heap.size W).alloc (Nat.le_refl _) (.cells (LV k e f n a p) 40)
  have r3 := Row.born W 40 (LV k e f n a p)
  go_enter Try.func6, Try.ntmps6
  go_upto_region 1 with (fail)
  generalize W.alloc (.cells (LV k e f n a p) 40) = w1 at *
  go_upto_region 2 with (first | ((with_reducible refine wp_load_g ?_ r3.range Try.underlying40 rfl (line_info _ _ _ _ _ hp) ?_ ?_); rfl; rfl) | (go_at_call 30; with_reducible refine (encode_yes k e f n a p a0 a1 hp H.out _).mono ?_; rintro e' w2 ⟨g7, hg7, rfl, q7, hb2⟩))
  rw [HB.out] at q7
  have r3 := r3.below hb2 r3.lt
  have hB2 := hB.trans (hb2.mono hB.size)
  clear hb2 hB
  go_upto_region 3 with (first | ((with_reducible refine wp_load_g ?_ r3.range Try.underlying40 rfl (line_info _ _ _ _ _ hp) ?_ ?_); rfl; rfl) | (go_at_call 31; with_reducible refine (encq_yes k e f n a p a0 a1 hp H.out _).mono ?_; rintro e' w3 ⟨A9, c9, rfl, hI9, hb3⟩))
  rw [HB.out] at hI9
  have q7 := q7.below hb3 q7.lt
  have r3 := r3.below hb3 r3.lt
  have hB3 := hB2.trans (hb3.mono hB2.size)
  have hI7 : IsB w3 (some ⟨g7, 0, none⟩) 64 bs := by
    have h := IsB.of_row q7
    rwa [hlen] at h
  clear hb3 hB2 q7
  have HL := Lib.hid hlen
  clear hlen
  go_upto_region 7 with (first | ((with_reducible refine wp_str_g (c := 64) ?_ hI7 ?_ ?_); rfl; rfl) | ((with_reducible refine wp_str_g (c := c9) ?_ hI9 ?_ ?_); rfl; rfl))
  clear hI9
  go_upto_region 8 with (first | (go_at_call 32; with_reducible refine (decode_enc D _ _ _ hI7 (Nat.le_refl _)).mono ?_; rintro e' w4 ⟨rfl, hb4⟩) | ((with_reducible refine wp_row_store (L := LV k e f n a p) (Row.bornAt (g := w4.heap.size) rfl 40 _) ?_ (line_info _ _ _ _ _ hp) (LV_one _ _ _ _ _ _) ?_ ?_ ?_); exact (LV_size _ _ _ _ _ hp).symm; rfl; rfl; intro w5 u5 r5))
  have hbz := Upd.below (hb4.trans (((Below.refl w4.heap.size w4).alloc (Nat.le_refl _) _).mono hb4.size)) u5 hb4.size
  have r3 := r3.below hbz r3.lt
  have hI7 := hI7.below hbz
  have hB5 := hB3.trans (hbz.mono hB3.size)
  have hg11 := hb4.size
  have hl11 := r5.lt
  generalize hgg : w4.heap.size = g11 at *
  clear hgg hbz hb4 u5 hB3
  have hki : (kk : Int) ≤ 64 := by omega
  have hk0 : 0 ≤ (kk : Int) := by omega
  have HKK := Lib.hid hkk
  clear hkk
  have hpre := hI7.pre kk (by omega)
  have hd1 := Lib.hid (dc_short (bs := bs.take kk) (by rw [List.length_take]; omega))
  go_upto_region 9 with (first | (go_at_call 20; refine (place _ _ (by omega) (by omega) _).mono ?_; rintro e' w' ⟨rfl, h9⟩; rw [← h9, HKK.out]; clear h9) | (go_at_call 32; with_reducible refine (decode_bad hd1.out (by decide) _ _ _ _ hpre (by omega)).mono ?_; rintro e' w6 ⟨rfl, hb6⟩) | ((with_reducible refine wp_row_store (L := ZL) (Row.bornAt (g := w6.heap.size) rfl 40 _) ?_ zl_info zl_one ?_ ?_ ?_); exact rfl; rfl; rfl; intro w7 u7 r7))
  have hbz := Upd.below (hb6.trans (((Below.refl w6.heap.size w6).alloc (Nat.le_refl _) _).mono hb6.size)) u7 hb6.size
  have r3 := r3.below hbz r3.lt
  have r11k := r5.below hbz r5.lt
  have hI7 := hI7.below hbz
  have hB7 := hB5.trans (hbz.mono hB5.size)
  clear hpre hd1 hbz hb6 u7 hB5 r5 r7
  go_upto_region 10 with (first | (at_builtin; (refine wp_append_b (P := Try.prog) rfl _ _ 44 rfl Try.underlying44 info_b (OwnB.nil w7 w7.heap.size 5) hI7 (by omega) (Nat.le_refl _) rfl rfl ?_); intro A1 n1 c1 w8 hn1 ho1 hb8 hg8 hat8) | (at_builtin; (refine wp_append_b (P := Try.prog) rfl _ _ 44 rfl Try.underlying44 info_b (ho1.alloc _) (is_oneb w8 by' b0 b1) (by have := hn1.out; omega) (by have := hb8.size; simp; omega) rfl rfl ?_); intro A2 n2 c2 w9 hn2 ho2 hb9 hg9 hat9; have hdl := Lib.hid (dc_long (bs := [] ++ bs ++ [UInt8.ofNat by'.toNat]) (by have := HL.out; simp; omega))) | (go_at_call 32; with_reducible refine (decode_bad hdl.out (by decide) _ _ _ _ ho2.isB ho2.capN).mono ?_; rintro e' w10 ⟨rfl, hb10⟩) | ((with_reducible refine wp_row_store (L := ZL) (Row.bornAt (g := w10.heap.size) rfl 40 _) ?_ zl_info zl_one ?_ ?_ ?_); exact rfl; rfl; rfl; intro w11 u11 r11))
  have x9 := (hb8.alloc hb8.size (.cells #[.int .u8 by'] 5)).trans hb9
  have x10 := x9.trans (hb10.mono x9.size)
  have hbz := Upd.below (x10.alloc x10.size _) u11 x10.size
  have r3 := r3.below hbz r3.lt
  have r11' := r11k.below hbz r11k.lt
  have r11 := r11'
  have hne11 := r11'.lt
  have hne3 := r3.lt
  have hI7 := hI7.below hbz
  have hB11 := hB7.trans (hbz.mono hB7.size)
  clear hbz x10 x9 hb10 u11 hb9 hb8 hB7 r11k r11' ho1 ho2 hdl hn1 hn2 hg8 hat8 hg9 hat9
  go_upto_region 11 with (at_builtin; (refine wp_append_b (P := Try.prog) rfl _ _ 44 rfl Try.underlying44 info_b (OwnB.nil w11 w11.heap.size 5) hI7 (by omega) (Nat.le_refl _) rfl rfl ?_); intro A3 n3 c3 w12 hn3 ho3 hb12 hg12 hat12)
  have hn3' := hn3.out
  rw [Nat.zero_add] at hn3'
  subst hn3'
  have hI12 : IsB w12 A3 64 bs := ho3.isB
  obtain ⟨g17, cap, cur, hA, hge, hrow, hcap, hcm, hcs, htk⟩ := ho3.big (by omega)
  have hc3 := ho3.capN
  subst hA
  have r3 := r3.below hb12 r3.lt
  have r11 := r11.below hb12 r11.lt
  have hB12 := hB11.trans (hb12.mono hB11.size)
  clear hg12 hat12 ho3 hn3 hI7
  have hkl : kk < bs.length := by have := HL.out; omega
  have ck := hI12.rng (by omega) kk (bv bs[kk]) (by simp [hkl])
  rw [Nat.zero_add] at ck
  have hxor := xor_byte bs[kk] by' b0 b1
  have hneq : 0 < by' → bs[kk] ^^^ UInt8.ofNat by'.toNat ≠ bs[kk] := fun h => xor_ne bs[kk] by' h b1
  have hsame : by' = 0 → bs.set kk (bs[kk] ^^^ UInt8.ofNat by'.toNat) = bs := fun h => by
    subst h
    have e0 : bs[kk] ^^^ UInt8.ofNat (0 : Int).toNat = bs[kk] := by
      apply UInt8.toNat_inj.1
      rw [UInt8.toNat_xor]
      simp
    rw [e0, set_same]
  have hchg : 0 < by' → dcE (bs.set kk (bs[kk] ^^^ UInt8.ofNat by'.toNat)) = 55 := fun h => dc_change D.len D.sum kk _ hkl (hneq h)
  unfold bv at ck
  generalize bs[kk] ^^^ UInt8.ofNat by'.toNat = y at *
  obtain ⟨X, hX⟩ : ∃ X : Int, (bs[kk].toNat : Int) = X := ⟨_, rfl⟩
  rw [hX] at ck hxor
  clear hX hneq
  have HXOR := Lib.hid hxor
  clear hxor
  have cf := hrow.frozen
  have hkd : decide (kk < 64) = true := by simpa using hk64
  have hki2 : (kk : Int) < 64 := by omega
  go_upto_region 12 with (go_at_call 20; refine (place _ _ (by omega) (by omega) _).mono ?_; rintro e' w' ⟨rfl, h9⟩; rw [← h9, HKK.out]; clear h9)
  rw [HXOR.out]
  have hrow := hrow.set kk (bv y)
  have u13 := Upd.setCell w12 g17 kk (bv y)
  have hI13 := isB_set HL.out.symm hk64 (by omega) htk hrow
  have r3 := r3.upd u13 (by omega)
  have r11 := r11.upd u13 (by omega)
  have hB13 := Upd.below hB12 u13 (by omega)
  generalize w12.setCell ⟨g17, kk, none⟩ (bv y) = w13 at *
  have hcap64 : 64 ≤ c3 := hc3
  clear ck cf hkd hki2 hrow u13 hB12 htk hcs hcm hge hI12
  have HEQ : ∀ w : World, (Op.equalIn 10000 40 (.agg (LV k e f n a p)) (.agg (LV k e f n a p))).run Try.prog w = .ok true w := fun w => by rw [eq_line w k k e e f f n n a a p p hp hp]; simp
  by_cases hz : by' = 0
  · have hz1 : (by' == 0) = true := by simpa using hz
    rw [hsame hz] at hI13
    clear hsame hchg hz
    go_upto_region 13 with (first | (go_at_call 32; with_reducible refine (decode_enc D _ _ _ hI13 hcap64).mono ?_; rintro e' w14 ⟨rfl, hb14⟩) | ((with_reducible refine wp_row_store (L := LV k e f n a p) (Row.bornAt (g := w14.heap.size) rfl 40 _) ?_ (line_info _ _ _ _ _ hp) (LV_one _ _ _ _ _ _) ?_ ?_ ?_); exact (LV_size _ _ _ _ _ hp).symm; rfl; rfl; intro w15 u15 r15))
    have hbz := Upd.below (hb14.trans (((Below.refl w14.heap.size w14).alloc (Nat.le_refl _) _).mono hb14.size)) u15 hb14.size
    have r3 := r3.below hbz r3.lt
    have r11 := r11.below hbz r11.lt
    have hB15 := hB13.trans (hbz.mono hB13.size)
    clear hbz hb14 u15 hB13 hI13 r15
    go_wp2_with (first | ((with_reducible refine wp_load_g ?_ r3.range Try.underlying40 rfl (line_info _ _ _ _ _ hp) ?_ ?_); rfl; rfl) | ((with_reducible refine wp_load_g ?_ r11.range Try.underlying40 rfl (line_info _ _ _ _ _ hp) ?_ ?_); rfl; rfl) | ((with_reducible refine wp_eql_g ?_ guard40 (HEQ _) ?_ ?_ ?_); rfl; rfl; rfl) | (go_at_call 23; refine (awake19 _).mono ?_; rintro e' w16 ⟨rfl, hb16⟩))
    go_ret
    exact ⟨rfl, hB15.trans (hb16.mono hB15.size)⟩
  · have hz1 : (by' == 0) = false := by simpa using hz
    have HCH := Lib.hid (hchg (by omega))
    clear hsame hchg hz
    go_upto_region 13 with (first | (go_at_call 32; with_reducible refine (decode_bad HCH.out (by decide) _ _ _ _ hI13 hcap64).mono ?_; rintro e' w14 ⟨rfl, hb14⟩) | ((with_reducible refine wp_row_store (L := ZL) (Row.bornAt (g := w14.heap.size) rfl 40 _) ?_ zl_info zl_one ?_ ?_ ?_); exact rfl; rfl; rfl; intro w15 u15 r15))
    have hbz := Upd.below (hb14.trans (((Below.refl w14.heap.size w14).alloc (Nat.le_refl _) _).mono hb14.size)) u15 hb14.size
    have r3 := r3.below hbz r3.lt
    have r11 := r11.below hbz r11.lt
    have hB15 := hB13.trans (hbz.mono hB13.size)
    clear hbz hb14 u15 hB13 hI13 r15
    go_wp2_with (first | ((with_reducible refine wp_load_g ?_ r3.range Try.underlying40 rfl (line_info _ _ _ _ _ hp) ?_ ?_); rfl; rfl) | ((with_reducible refine wp_load_g ?_ r11.range Try.underlying40 rfl (line_info _ _ _ _ _ hp) ?_ ?_); rfl; rfl) | ((with_reducible refine wp_eql_g ?_ guard40 (HEQ _) ?_ ?_ ?_); rfl; rfl; rfl) | (go_at_call 23; refine (awake19 _).mono ?_; rintro e' w16 ⟨rfl, hb16⟩))
    go_ret
    exact ⟨rfl, hB15.trans (hb16.mono hB15.size)⟩
theorem law_lines (k : Int) (e f : Bool) (n a : Int) (p : List UInt8) (at_ by' : Int) (a0 : 0 ≤ a) (a1 : a < 65536) (hp : p.length = 56) (b0 : 0 ≤ by') (b1 : by' < 256) (W : World) : Calls Try.prog 6 #[.agg (LV k e f n a p), .int .i64 at_, .int .u8 by'] W (True1 W) := by
  by_cases h : lnE k e f n p = 0
  · exact law_lines_yes k e f n a p at_ by' a0 a1 hp h b0 b1 W
  · exact law_lines_no k e f n a p at_ by' _ a0 a1 hp rfl h W
end Go.Proofs.Ythjkhambmgepdaa
