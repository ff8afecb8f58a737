/- Page tables: the reference's Unpack. -/
import Derived.Test.YtonloimepfojdaaUnp1
namespace Go.Proofs.Ytonloimepfojdaa
open Go.RowKit
set_option linter.unusedVariables false
set_option maxRecDepth 20000 in
set_option maxHeartbeats 8000000 in
theorem unpack_ref_32 (A : Option Addr) (n c : Nat) (bs : List UInt8) (W : World) (hA : IsB W A n bs) (hn1 : n ≤ 1000000) : Calls Try.prog 31 #[.int .i64 32, .slice A n c] W (UpPost 32 bs W) := by
  have l3 : eb 32 = 4 := rfl
  have HL := Lib.hid hA.1
  have hB0 := Below.refl W.heap.size W
  by_cases h4 : n = 4096
  case neg =>
    have hd : ((n : Int) == 4096) = false := by simp; omega
    have hno : upOk 32 bs = false := up_len (by have := HL.out; omega)
    go_enter Try.func31, Try.ntmps31
    go_wp2_with (go_at_call 13; refine (ebytes _ _).mono ?_; rintro e w' ⟨rfl, rfl⟩; rw [l3])
    exact bodyPost_ret (v := .tuple #[.slice none 0 0, .int .i64 14]) (by simp [results, Try.results31, go_sem]) rfl (up_no hno (by unfold upE; rw [hno]; rfl) hB0)
  subst h4
  have o0 := OwnR.nil W W.heap.size 32 4
  go_enter Try.func31, Try.ntmps31
  go_upto_region 8 with (go_at_call 13; refine (ebytes _ _).mono ?_; rintro e w' ⟨rfl, rfl⟩; rw [l3])
  go_loopw [7, 8] (fun outv off wr => ∃ (k of : Nat) (A' : Option Addr) (c' : Nat), k ≤ 1024 ∧ Hid (of = k * 4) ∧ off = .int .i64 (of : Int) ∧ outv = .slice A' k c' ∧ OwnR wr W.heap.size 32 4 A' k c' (ptes 32 4 bs k) ∧ Hid (∀ i, i < k → decOk 32 (enN 4 bs i) = true) ∧ Below W.heap.size W wr) (fun _ off _ => 4096 - (intOf off).toNat)
  case atStart => exact ⟨0, 0, none, 0, by omega, Lib.hid rfl, rfl, rfl, o0, Lib.hid (fun i hi => by omega), hB0⟩
  case round =>
    clear o0 hB0
    obtain ⟨k, of, A', c', hk, HO, rfl, rfl, ho, HK, hB⟩ := hrel
    have hA' := hA.below hB
    rcases Nat.lt_or_ge k 1024 with hkM | hkM
    · have hof := HO.out
      have hof2 : of + 4 ≤ 4096 := by omega
      have hd : decide ((of : Int) < 4096) = true := by simp; omega
      have hos : of + 4 ≤ bs.length := by have := HL.out; omega
      have HSL := Lib.hid (seg_len hos)
      have HG := Lib.hid (fun q (hq : q < 4) => seg_get hos hq)
      obtain ⟨b1, o1, rfl, f1⟩ := hA'.2 (by omega)
      have HC : Hid (∀ q, (hq : q < 4) → wr.cell? ⟨b1, o1 + (of + q), none⟩ = some (.int .u8 (((seg bs of 4)[q]'(by rw [HSL.out]; exact hq)).toNat : Int))) := Lib.hid (fun q hq => by rw [HG.out q hq]; exact f1 (of + q) (by omega))
      have HV : Hid (leN (seg bs of 4) = enN 4 bs k) := Lib.hid (by rw [hof]; rfl)
      have hv := enN_lt bs k 4 (by omega)
      have hv : enN 4 bs k < 4294967296 := hv
      clear f1 hA' HG hof hos
      generalize seg bs of 4 = sg at *
      go_upto_region 12 with (fail)
      go_loop [9, 10] (fun x i => ∃ j : Nat, j ≤ 4 ∧ i = .int .i64 ((j : Int) - 1) ∧ x = .int .u64 (leN (sg.drop j) : Nat)) (fun _ i => (intOf i + 1).toNat)
      case atStart => exact ⟨4, by omega, by go_num, by rw [List.drop_eq_nil_of_le (by have := HSL.out; omega)]; rfl⟩
      case round =>
      obtain ⟨j, hj, rfl, rfl⟩ := hrel
      rcases Nat.eq_zero_or_pos j with h0 | h0
      · subst h0
        have e : sg.drop 0 = sg := rfl
        rw [e, HV.out]
        clear e
        cases hok : decOk 32 (enN 4 bs k)
        · have hE : decE 32 (enN 4 bs k) = 14 := by unfold decE; rw [hok]; rfl
          have hno := up_bad (w := 32) (bs := bs) (i := k) (sz := 4) (M := 1024) rfl rfl hkM hok
          go_wp2_with (go_at_call 24; refine (decode_ref 32 _ (by omega) _).mono ?_; rintro e w5 ⟨rfl, hb5⟩; rw [hE])
          exact bodyPost_ret (v := .tuple #[.slice none 0 0, .int .i64 14]) (by simp [results, Try.results31, go_sem]) rfl (up_no hno (by unfold upE; rw [hno]; rfl) ((hB.trans (hb5.mono hB.size)).alloc (by have := hB.size; have := hb5.size; omega) _))
        · have hE : decE 32 (enN 4 bs k) = 0 := by unfold decE; rw [hok]; rfl
          have HOK : Hid (∀ i, i < k + 1 → decOk 32 (enN 4 bs i) = true) := Lib.hid (fun i hi => by
            rcases Nat.lt_or_ge i k with h | h
            · exact HK.out i h
            · obtain rfl : i = k := by omega
              exact hok)
          have HS := Lib.hid (ptes_succ 32 4 bs k)
          clear hok HK
          go_upto_region 18 with (go_at_call 24; refine (decode_ref 32 _ (by omega) _).mono ?_; rintro e w5 ⟨rfl, hb5⟩; rw [hE])
          generalize enN 4 bs k = v at *
          have ho5 := (ho.below hb5).alloc (.cells #[.bool (decP 32 v), .bool (decL 32 v), .int .i64 (decR 32 v), .int .i64 (decB 32 v)] 32)
          have hB5 := hB.trans (hb5.mono hB.size)
          have hB6 := hB5.alloc hB5.size (.cells #[.bool (decP 32 v), .bool (decL 32 v), .int .i64 (decR 32 v), .int .i64 (decB 32 v)] 32)
          have r6 := Row.born w5 32 #[.bool (decP 32 v), .bool (decL 32 v), .int .i64 (decR 32 v), .int .i64 (decB 32 v)]
          generalize w5.alloc (.cells #[.bool (decP 32 v), .bool (decL 32 v), .int .i64 (decR 32 v), .int .i64 (decB 32 v)] 32) = w6 at *
          generalize w5.heap.size = g6 at *
          have hg6 := r6.lt
          have e0 := r6.cell 0
          have e1 := r6.cell 1
          have e2 := r6.cell 2
          have e3 := r6.cell 3
          simp at e0 e1 e2 e3
          have hsz6 := hB6.size
          go_upto_region 9 with ((at_builtin; (refine wp_append_one (P := Try.prog) (news := pteC 32 v) Try.underlying50 info_pte rfl (by omega) (ho5.alloc _) (Row.born _ _ _) rfl (pteC_one _ _) (by omega) (by omega) (by simp; omega) rfl rfl ?_); intro A2 k2 w7 h2 h3 h5))
          rw [← HS.out] at h2
          have hB7 := (hB6.alloc hsz6 _).grown h3 (by simp; omega) (fun z hz => (ho5.ge z hz).1)
          clear ho5 hB5 hB6 r6 e0 e1 e2 e3 h3 h5 ho hB
          go_wp2
          exact ⟨⟨k + 1, of + 4, A2, k2, by omega, Lib.hid (by have := HO.out; omega), by go_num, rfl, h2, HOK, hB7⟩, by simp [intOf]; omega⟩
      · obtain ⟨q, rfl⟩ : ∃ q, j = q + 1 := ⟨j - 1, by omega⟩
        rw [show (((q + 1 : Nat) : Int) - 1) = (q : Int) by omega]
        have hc := HC.out q (by omega)
        have hlen := HSL.out
        obtain ⟨x, hx⟩ : ∃ x, x = sg[q]'(by omega) := ⟨_, rfl⟩
        rw [← hx] at hc
        have HX := Lib.hid hx
        have hlt : leN (sg.drop (q + 1)) < 256 ^ (4 - (q + 1)) := by have := leN_lt (sg.drop (q + 1)); rwa [List.length_drop, hlen] at this
        have hlt2 : 256 ^ (4 - (q + 1)) ≤ 256 ^ 7 := Nat.pow_le_pow_right (by omega) (by omega)
        have HS : Hid (leN (sg.drop q) = x.toNat + 256 * leN (sg.drop (q + 1))) := Lib.hid (by
          rw [List.drop_eq_getElem_cons (by omega), leN, ← HX.out])
        have E := or_shl8 (L := leN (sg.drop (q + 1))) x.toNat_lt (by omega)
        rw [← HS.out] at E
        have HE := Lib.hid E
        clear E hlt hlt2 hx
        go_upto_region 13 with (fail)
        rw [HE.out]
        go_wp2
        exact ⟨⟨q, by omega, by go_num, rfl⟩, by simp [intOf]⟩
    · obtain rfl : k = 1024 := by omega
      have hd : decide ((of : Int) < 4096) = false := by have := HO.out; simp; omega
      have hyes := up_good (w := 32) (bs := bs) (sz := 4) (M := 1024) rfl (by have := HL.out; omega) rfl rfl HK.out
      go_wp2
      exact bodyPost_ret (v := .tuple #[.slice A' 1024 c', .int .i64 0]) (by simp [results, Try.results31, go_sem]) rfl (up_yes (w := 32) hyes rfl rfl rfl rfl ho.isC hB)
set_option maxRecDepth 20000 in
set_option maxHeartbeats 8000000 in
theorem unpack_ref_39 (A : Option Addr) (n c : Nat) (bs : List UInt8) (W : World) (hA : IsB W A n bs) (hn1 : n ≤ 1000000) : Calls Try.prog 31 #[.int .i64 39, .slice A n c] W (UpPost 39 bs W) := by
  have l3 : eb 39 = 8 := rfl
  have HL := Lib.hid hA.1
  have hB0 := Below.refl W.heap.size W
  by_cases h4 : n = 4096
  case neg =>
    have hd : ((n : Int) == 4096) = false := by simp; omega
    have hno : upOk 39 bs = false := up_len (by have := HL.out; omega)
    go_enter Try.func31, Try.ntmps31
    go_wp2_with (go_at_call 13; refine (ebytes _ _).mono ?_; rintro e w' ⟨rfl, rfl⟩; rw [l3])
    exact bodyPost_ret (v := .tuple #[.slice none 0 0, .int .i64 14]) (by simp [results, Try.results31, go_sem]) rfl (up_no hno (by unfold upE; rw [hno]; rfl) hB0)
  subst h4
  have o0 := OwnR.nil W W.heap.size 32 4
  go_enter Try.func31, Try.ntmps31
  go_upto_region 8 with (go_at_call 13; refine (ebytes _ _).mono ?_; rintro e w' ⟨rfl, rfl⟩; rw [l3])
  go_loopw [7, 8] (fun outv off wr => ∃ (k of : Nat) (A' : Option Addr) (c' : Nat), k ≤ 512 ∧ Hid (of = k * 8) ∧ off = .int .i64 (of : Int) ∧ outv = .slice A' k c' ∧ OwnR wr W.heap.size 32 4 A' k c' (ptes 39 8 bs k) ∧ Hid (∀ i, i < k → decOk 39 (enN 8 bs i) = true) ∧ Below W.heap.size W wr) (fun _ off _ => 4096 - (intOf off).toNat)
  case atStart => exact ⟨0, 0, none, 0, by omega, Lib.hid rfl, rfl, rfl, o0, Lib.hid (fun i hi => by omega), hB0⟩
  case round =>
    clear o0 hB0
    obtain ⟨k, of, A', c', hk, HO, rfl, rfl, ho, HK, hB⟩ := hrel
    have hA' := hA.below hB
    rcases Nat.lt_or_ge k 512 with hkM | hkM
    · have hof := HO.out
      have hof2 : of + 8 ≤ 4096 := by omega
      have hd : decide ((of : Int) < 4096) = true := by simp; omega
      have hos : of + 8 ≤ bs.length := by have := HL.out; omega
      have HSL := Lib.hid (seg_len hos)
      have HG := Lib.hid (fun q (hq : q < 8) => seg_get hos hq)
      obtain ⟨b1, o1, rfl, f1⟩ := hA'.2 (by omega)
      have HC : Hid (∀ q, (hq : q < 8) → wr.cell? ⟨b1, o1 + (of + q), none⟩ = some (.int .u8 (((seg bs of 8)[q]'(by rw [HSL.out]; exact hq)).toNat : Int))) := Lib.hid (fun q hq => by rw [HG.out q hq]; exact f1 (of + q) (by omega))
      have HV : Hid (leN (seg bs of 8) = enN 8 bs k) := Lib.hid (by rw [hof]; rfl)
      have hv := enN_lt bs k 8 (by omega)
      have hv : enN 8 bs k < 18446744073709551616 := hv
      clear f1 hA' HG hof hos
      generalize seg bs of 8 = sg at *
      go_upto_region 12 with (fail)
      go_loop [9, 10] (fun x i => ∃ j : Nat, j ≤ 8 ∧ i = .int .i64 ((j : Int) - 1) ∧ x = .int .u64 (leN (sg.drop j) : Nat)) (fun _ i => (intOf i + 1).toNat)
      case atStart => exact ⟨8, by omega, by go_num, by rw [List.drop_eq_nil_of_le (by have := HSL.out; omega)]; rfl⟩
      case round =>
      obtain ⟨j, hj, rfl, rfl⟩ := hrel
      rcases Nat.eq_zero_or_pos j with h0 | h0
      · subst h0
        have e : sg.drop 0 = sg := rfl
        rw [e, HV.out]
        clear e
        cases hok : decOk 39 (enN 8 bs k)
        · have hE : decE 39 (enN 8 bs k) = 14 := by unfold decE; rw [hok]; rfl
          have hno := up_bad (w := 39) (bs := bs) (i := k) (sz := 8) (M := 512) rfl rfl hkM hok
          go_wp2_with (go_at_call 24; refine (decode_ref 39 _ (by omega) _).mono ?_; rintro e w5 ⟨rfl, hb5⟩; rw [hE])
          exact bodyPost_ret (v := .tuple #[.slice none 0 0, .int .i64 14]) (by simp [results, Try.results31, go_sem]) rfl (up_no hno (by unfold upE; rw [hno]; rfl) ((hB.trans (hb5.mono hB.size)).alloc (by have := hB.size; have := hb5.size; omega) _))
        · have hE : decE 39 (enN 8 bs k) = 0 := by unfold decE; rw [hok]; rfl
          have HOK : Hid (∀ i, i < k + 1 → decOk 39 (enN 8 bs i) = true) := Lib.hid (fun i hi => by
            rcases Nat.lt_or_ge i k with h | h
            · exact HK.out i h
            · obtain rfl : i = k := by omega
              exact hok)
          have HS := Lib.hid (ptes_succ 39 8 bs k)
          clear hok HK
          go_upto_region 18 with (go_at_call 24; refine (decode_ref 39 _ (by omega) _).mono ?_; rintro e w5 ⟨rfl, hb5⟩; rw [hE])
          generalize enN 8 bs k = v at *
          have ho5 := (ho.below hb5).alloc (.cells #[.bool (decP 39 v), .bool (decL 39 v), .int .i64 (decR 39 v), .int .i64 (decB 39 v)] 32)
          have hB5 := hB.trans (hb5.mono hB.size)
          have hB6 := hB5.alloc hB5.size (.cells #[.bool (decP 39 v), .bool (decL 39 v), .int .i64 (decR 39 v), .int .i64 (decB 39 v)] 32)
          have r6 := Row.born w5 32 #[.bool (decP 39 v), .bool (decL 39 v), .int .i64 (decR 39 v), .int .i64 (decB 39 v)]
          generalize w5.alloc (.cells #[.bool (decP 39 v), .bool (decL 39 v), .int .i64 (decR 39 v), .int .i64 (decB 39 v)] 32) = w6 at *
          generalize w5.heap.size = g6 at *
          have hg6 := r6.lt
          have e0 := r6.cell 0
          have e1 := r6.cell 1
          have e2 := r6.cell 2
          have e3 := r6.cell 3
          simp at e0 e1 e2 e3
          have hsz6 := hB6.size
          go_upto_region 9 with ((at_builtin; (refine wp_append_one (P := Try.prog) (news := pteC 39 v) Try.underlying50 info_pte rfl (by omega) (ho5.alloc _) (Row.born _ _ _) rfl (pteC_one _ _) (by omega) (by omega) (by simp; omega) rfl rfl ?_); intro A2 k2 w7 h2 h3 h5))
          rw [← HS.out] at h2
          have hB7 := (hB6.alloc hsz6 _).grown h3 (by simp; omega) (fun z hz => (ho5.ge z hz).1)
          clear ho5 hB5 hB6 r6 e0 e1 e2 e3 h3 h5 ho hB
          go_wp2
          exact ⟨⟨k + 1, of + 8, A2, k2, by omega, Lib.hid (by have := HO.out; omega), by go_num, rfl, h2, HOK, hB7⟩, by simp [intOf]; omega⟩
      · obtain ⟨q, rfl⟩ : ∃ q, j = q + 1 := ⟨j - 1, by omega⟩
        rw [show (((q + 1 : Nat) : Int) - 1) = (q : Int) by omega]
        have hc := HC.out q (by omega)
        have hlen := HSL.out
        obtain ⟨x, hx⟩ : ∃ x, x = sg[q]'(by omega) := ⟨_, rfl⟩
        rw [← hx] at hc
        have HX := Lib.hid hx
        have hlt : leN (sg.drop (q + 1)) < 256 ^ (8 - (q + 1)) := by have := leN_lt (sg.drop (q + 1)); rwa [List.length_drop, hlen] at this
        have hlt2 : 256 ^ (8 - (q + 1)) ≤ 256 ^ 7 := Nat.pow_le_pow_right (by omega) (by omega)
        have HS : Hid (leN (sg.drop q) = x.toNat + 256 * leN (sg.drop (q + 1))) := Lib.hid (by
          rw [List.drop_eq_getElem_cons (by omega), leN, ← HX.out])
        have E := or_shl8 (L := leN (sg.drop (q + 1))) x.toNat_lt (by omega)
        rw [← HS.out] at E
        have HE := Lib.hid E
        clear E hlt hlt2 hx
        go_upto_region 13 with (fail)
        rw [HE.out]
        go_wp2
        exact ⟨⟨q, by omega, by go_num, rfl⟩, by simp [intOf]⟩
    · obtain rfl : k = 512 := by omega
      have hd : decide ((of : Int) < 4096) = false := by have := HO.out; simp; omega
      have hyes := up_good (w := 39) (bs := bs) (sz := 8) (M := 512) rfl (by have := HL.out; omega) rfl rfl HK.out
      go_wp2
      exact bodyPost_ret (v := .tuple #[.slice A' 512 c', .int .i64 0]) (by simp [results, Try.results31, go_sem]) rfl (up_yes (w := 39) hyes rfl rfl rfl rfl ho.isC hB)
theorem unpack_ref (w : Int) (A : Option Addr) (n c : Nat) (bs : List UInt8) (W : World) (hA : IsB W A n bs) (hn1 : n ≤ 1000000) : Calls Try.prog 31 #[.int .i64 w, .slice A n c] W (UpPost w bs W) := by
  rcases w_cases w with rfl | rfl | ⟨h1, h2, h3, h4⟩
  · exact unpack_ref_32 A n c bs W hA hn1
  · exact unpack_ref_39 A n c bs W hA hn1
  · have hw := okw_no h3 h4
    have he : eb w = 0 := by simp [eb, h3, h4]
    have hno : upOk w bs = false := by unfold upOk; rw [hw]; rfl
    go_enter Try.func31, Try.ntmps31
    go_wp2_with (go_at_call 13; refine (ebytes _ _).mono ?_; rintro e w' ⟨rfl, rfl⟩; rw [he])
    exact bodyPost_ret (v := .tuple #[.slice none 0 0, .int .i64 1]) (by simp [results, Try.results31, go_sem]) rfl (up_no hno (by unfold upE; rw [hw]; rfl) (Below.refl _ _))
end Go.Proofs.Ytonloimepfojdaa
