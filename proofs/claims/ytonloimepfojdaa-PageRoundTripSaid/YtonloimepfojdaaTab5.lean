/- Page tables: the reference's Pack. -/
import Derived.Test.YtonloimepfojdaaTab4
namespace Go.Proofs.Ytonloimepfojdaa
open Go.RowKit
set_option linter.unusedVariables false
set_option maxRecDepth 20000 in
set_option maxHeartbeats 8000000 in
theorem pack_ref (b w lv : Int) (A : Option Addr) (n c : Nat) (ms : List Mp) (W : World) (hA : IsMs W A n ms) (hn1 : n ≤ 1000) : Calls Try.prog 27 #[.agg #[.int .i64 b, .int .i64 w, .int .i64 lv, .slice A n c]] W (PackPost b w lv ms (packL w lv (eb w).toNat 4 (List.replicate 4096 0) ms) W) := by
  have hZl : (List.replicate 4096 (0 : UInt8)).length = 4096 := List.length_replicate
  obtain ⟨Z, HZ⟩ : ∃ Z, Hid (List.replicate 4096 (0 : UInt8) = Z) := ⟨_, Lib.hid rfl⟩
  rw [HZ.out] at hZl ⊢
  have HN := Lib.hid hA.1
  have hB := (Below.refl W.heap.size W).alloc (Nat.le_refl _) (.cells #[.int .i64 b, .int .i64 w, .int .i64 lv, .slice A n c] 43)
  have r1 := Row.born W 43 #[.int .i64 b, .int .i64 w, .int .i64 lv, .slice A n c]
  cases hv : vT b w lv ms
  · go_enter Try.func27, Try.ntmps27
    go_wp2_with (go_at_call 29; refine (valid_ref b w lv A n c ms _ (hA.below hB) hn1).mono ?_; rintro e w2 ⟨rfl, hb⟩; rw [hv])
    refine bodyPost_ret (v := .tuple #[.slice none 0 0, .int .i64 1]) (by simp [results, Try.results27, go_sem]) rfl ⟨hB.trans (hb.mono hB.size), .inl ⟨hv, rfl⟩⟩
  · obtain ⟨hok, hV⟩ := vT_yes hv
    have HVT := Lib.hid hv
    clear hv
    obtain ⟨L, hL⟩ : ∃ L, lev w = L := ⟨_, rfl⟩
    obtain ⟨bits, hbit⟩ : ∃ x, ib w = x := ⟨_, rfl⟩
    obtain ⟨sz, hsz⟩ : ∃ x : Nat, eb w = x := ⟨(eb w).toNat, by rcases w_cases w with rfl | rfl | ⟨h1, h2, h3, h4⟩; rfl; rfl; simp [okw, h3, h4] at hok⟩
    obtain ⟨B, hBB⟩ : ∃ x, bnd w = x := ⟨_, rfl⟩
    have hlim : sz = 4 ∧ B = 1024 ∨ sz = 8 ∧ B = 512 := by
      rcases w_cases w with rfl | rfl | ⟨h1, h2, h3, h4⟩
      · exact .inl ⟨by have : eb 32 = 4 := rfl; omega, hBB.symm⟩
      · exact .inr ⟨by have : eb 39 = 8 := rfl; omega, hBB.symm⟩
      · simp [okw, h3, h4] at hok
    rw [hBB] at hV
    go_enter Try.func27, Try.ntmps27
    go_wp2_with fail
    refine (valid_ref b w lv A n c ms _ (hA.below hB) hn1).mono ?_
    rintro e w2 ⟨rfl, hb⟩
    rw [HVT.out]
    have hl1 := r1.lt
    have r2 := r1.below hb hl1
    have hB2 := hB.trans (hb.mono hB.size)
    clear r1 hB hb hl1
    have t0 := r2.cell 0
    have t1 := r2.cell 1
    have t2 := r2.cell 2
    have t3 := r2.cell 3
    simp at t0 t1 t2 t3
    go_upto_region 4 with ((at_make; refine wp_make (P := Try.prog) 4096 Try.underlying44 info_byte rfl (by omega) (by omega) rfl rfl rfl rfl ?_; intro w3 r3 hb3))
    have hge := hB2.size
    have hne := r2.lt
    have hB3 := hB2.trans (hb3.mono hge)
    have r4 := r2.below hb3 hne
    rw [bv_zeros, HZ.out] at r3
    generalize w2.heap.size = g at *
    clear t0 t1 t2 t3 r2 hB2 hb3
    have t1 := r4.cell 1
    simp at t1
    clear hL hbit hok hBB
    have HSZ := Lib.hid hsz
    have HV0 := Lib.hid hV
    clear hsz hV
    go_upto_region 6 with (go_at_call 13; refine (ebytes _ _).mono ?_; rintro e w' ⟨rfl, rfl⟩; rw [HSZ.out])
    clear t1
    go_loopw [6] (fun i wr => ∃ (k : Nat) (last : Int) (bs : List UInt8), k ≤ n ∧ i = .int .i64 k ∧ -1 ≤ last ∧ Hid (vMs lv B last (ms.drop k) = true) ∧ bs.length = 4096 ∧ Row wr g 5 (bs.map bv).toArray ∧ Hid (packL w lv sz 4 Z ms = packL w lv sz 4 bs (ms.drop k)) ∧ Row wr W.heap.size 43 #[.int .i64 b, .int .i64 w, .int .i64 lv, .slice A n c] ∧ Below W.heap.size W wr) (fun i _ => n - (intOf i).toNat)
    case atStart => exact ⟨0, -1, Z, by omega, rfl, by omega, HV0, hZl, r3, Lib.hid rfl, r4, hB3⟩
    case round =>
      clear r3 r4 hB3 HV0
      obtain ⟨k, last, bs, hk, rfl, hlast, HV, hbl, hrb, HP, hr, hB⟩ := hrel
      rcases Nat.lt_or_ge k n with hkn | hkn
      · have hd : decide (k < n) = true := by simp; omega
        obtain ⟨b0, o, m, rfl, hdr, hm⟩ := (hA.below hB).at_ k hkn
        have HV : Hid (vM lv B last m = true ∧ vMs lv B m.ix (ms.drop (k + 1)) = true) := Lib.hid (by have h := HV.out; rw [hdr] at h; exact (Bool.and_eq_true _ _).mp h)
        have HP : Hid (packL w lv sz 4 Z ms = packL w lv sz 4 (putB bs (m.ix.toNat * sz) (encV w true (lv == 0) m.rt m.bs).toNat 4) (ms.drop (k + 1))) := Lib.hid (by rw [HP.out, hdr]; rfl)
        clear hdr
        obtain ⟨i1, i2⟩ := vM_ix HV.out.1
        obtain ⟨m0, m1, m2, m3, m4, m5⟩ := hm
        obtain ⟨ix, bb, rt, co, op, pt⟩ := m
        dsimp only at m0 m1 m2 m3 m4 m5 i1 i2
        have t3 := hr.cell 3
        simp at t3
        obtain ⟨ixn, rfl⟩ : ∃ q : Nat, ix = q := ⟨ix.toNat, by omega⟩
        go_upto_region 9 with (fail)
        have r9 := Row.born wr 60 #[.int .i64 ixn, .int .i64 bb, .int .i64 rt, .int .i64 co, .int .i64 op, .int .i64 pt]
        have hr2 := hr.alloc (.cells #[.int .i64 ixn, .int .i64 bb, .int .i64 rt, .int .i64 co, .int .i64 op, .int .i64 pt] 60)
        have hrb2 := hrb.alloc (.cells #[.int .i64 ixn, .int .i64 bb, .int .i64 rt, .int .i64 co, .int .i64 op, .int .i64 pt] 60)
        have hB2 := hB.alloc hB.size (.cells #[.int .i64 ixn, .int .i64 bb, .int .i64 rt, .int .i64 co, .int .i64 op, .int .i64 pt] 60)
        have hlg := hrb.lt
        generalize wr.alloc (.cells #[.int .i64 ixn, .int .i64 bb, .int .i64 rt, .int .i64 co, .int .i64 op, .int .i64 pt] 60) = w2 at *
        generalize wr.heap.size = g9 at *
        clear m0 m1 m2 m3 m4 m5 hr hB hd hrb t3
        have hl9 := r9.lt
        have e0 := r9.cell 0
        have e1 := r9.cell 1
        have e2 := r9.cell 2
        have t1 := hr2.cell 1
        have t2 := hr2.cell 2
        simp at e0 e1 e2 t1 t2
        obtain ⟨q0, q1⟩ := encV_bd w true (lv == 0) rt bb
        obtain ⟨v, hv⟩ : ∃ v : Nat, encV w true (lv == 0) rt bb = v := ⟨(encV w true (lv == 0) rt bb).toNat, by omega⟩
        go_upto_region 10 with (go_at_call 22; refine (encode_ref _ _ _ _ _ _).mono ?_; rintro e w5 ⟨rfl, hb5⟩; rw [hv])
        have r95 := r9.below hb5 hl9
        have hr5 := hr2.below hb5 hr2.lt
        have hrb5 := hrb2.below hb5 hrb2.lt
        have hB5 := hB2.trans (hb5.mono hB2.size)
        clear r9 hr2 hrb2 hB2 hb5 e0 e1 e2 t1 t2
        have e0 := r95.cell 0
        simp at e0
        rw [hv] at HP
        have hat : ixn * sz + sz ≤ 4096 ∧ sz ≤ 8 := by
          rcases hlim with ⟨rfl, rfl⟩ | ⟨rfl, rfl⟩ <;> omega
        have hgg : g ≠ g9 := by omega
        have HBL := Lib.hid hbl
        go_wp2
        go_loopw [10] (fun j wq => ∃ q : Nat, q ≤ 4 ∧ j = .int .i64 q ∧ Upd w5 wq g ∧ Row wq g 5 ((putB bs (ixn * sz) v q).map bv).toArray) (fun j _ => 4 - (intOf j).toNat)
        case atStart => exact ⟨0, by omega, rfl, Upd.refl _ _, hrb5⟩
        case round =>
        obtain ⟨q, hq, rfl, u6, r6⟩ := hrel
        have r96 := r95.upd u6 (by omega)
        have f0 := r96.cell 0
        simp at f0
        clear e0 r95
        rcases Nat.lt_or_ge q 4 with hq4 | hq4
        · have hd : decide ((q : Int) < 4) = true := by simp; omega
          have HW : Value.int .u8 ((v : Int) / 2 ^ (8 * q) % 256) = bv (UInt8.ofNat (v / 256 ^ q % 256)) := by
            rw [show ((2 : Int) ^ (8 * q)) = ((256 ^ q : Nat) : Int) by rw [← pow_256]; simp, ← bv_nat _ (Nat.mod_lt _ (by omega))]
            simp
          have HWh := Lib.hid HW
          clear HW
          have hm3 : (ixn : Int) * (sz : Int) = ((ixn * sz : Nat) : Int) := by simp
          generalize ixn * sz = at_ at *
          have hf := r6.frozen (at_ + q)
          have hc2 : ∃ x, wr.cell? ⟨g, at_ + q, none⟩ = some x := by
            have hlt : at_ + q < ((putB bs at_ v q).map bv).length := by have h1 := HBL.out; have h2 := putB_len bs at_ v q; rcases hlim with ⟨h3, _⟩ | ⟨h3, _⟩ <;> (simp; omega)
            exact ⟨_, (r6.cell (at_ + q)).trans (by rw [List.getElem?_toArray]; exact List.getElem?_eq_getElem hlt)⟩
          obtain ⟨x, hc2⟩ := hc2
          go_upto_region 12 with (fail)
          rw [HWh.out]
          have hu2 := u6.trans (Upd.setCell wr g (at_ + q) (bv (UInt8.ofNat (v / 256 ^ q % 256))))
          have hr2 := r6.setByte (at_ + q) (UInt8.ofNat (v / 256 ^ q % 256))
          generalize wr.setCell ⟨g, at_ + q, none⟩ (bv (UInt8.ofNat (v / 256 ^ q % 256))) = w7 at *
          go_wp2
          exact ⟨⟨q + 1, by omega, by go_num, hu2, hr2⟩, by simp [intOf]; omega⟩
        · obtain rfl : q = 4 := by omega
          have hr6 := hr5.upd u6 (by omega)
          have hB6 := Upd.below hB5 u6 (by omega)
          have HP : Hid (packL w lv sz 4 Z ms = packL w lv sz 4 (putB bs (ixn * sz) v 4) (ms.drop (k + 1))) := Lib.hid (by have h := HP.out; simpa using h)
          clear hr5 hrb5 hB5 r96 f0 u6 hv q0 q1
          go_wp2
          exact ⟨⟨k + 1, ixn, putB bs (ixn * sz) v 4, by omega, by go_num, by omega, Lib.hid HV.out.2, by rw [putB_len]; exact hbl, r6, HP, hr6, hB6⟩, by simp [intOf]; omega⟩
      · have hd : decide (k < n) = false := by simp; omega
        have t3 := hr.cell 3
        simp at t3
        go_wp2
        refine bodyPost_ret (v := .tuple #[.slice (some ⟨g, 0, none⟩) 4096 4096, .int .i64 0]) (by simp [results, Try.results27, go_sem]) rfl ⟨hB, .inr ⟨HVT.out, g, by omega, rfl, ?_, ?_⟩⟩
        · rw [HSZ.out, Int.toNat_natCast, HP.out, List.drop_eq_nil_of_le (by have := HN.out; omega)]
          exact hbl
        · rw [HSZ.out, Int.toNat_natCast, HP.out, List.drop_eq_nil_of_le (by have := HN.out; omega)]
          exact hrb
end Go.Proofs.Ytonloimepfojdaa
