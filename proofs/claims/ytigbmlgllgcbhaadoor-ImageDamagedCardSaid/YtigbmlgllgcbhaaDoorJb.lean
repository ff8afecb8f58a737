/- Image: ImageDamaged. -/
import Derived.Test.YtigbmlgllgcbhaaDoorJa
import Derived.Test.YtigbmlgllgcbhaaDoorIu
namespace Go.Proofs.YtigbmlgllgcbhaaDoor
open Go.RowKit
set_option linter.unusedVariables false
set_option linter.unusedSimpArgs false
theorem app_at {A C : List UInt8} {j : Nat} (h : j < C.length) (hx : A.length + j < (A ++ C).length) : (A ++ C)[A.length + j] = C[j] := by
  rw [List.getElem_append_right (by omega)]
  simp
theorem app_set (A C : List UInt8) (j : Nat) (v : UInt8) : (A ++ C).set (A.length + j) v = A ++ C.set j v := by
  rw [List.set_append_right _ _ (by omega)]
  simp
set_option maxRecDepth 100000 in
set_option maxHeartbeats 8000000 in
theorem walk_damaged (W : World) (a0 : Option Addr) (len0 cap0 : Nat) (z0 : List Int) (at_ x cut more : Int) (w0 : IsRow .i64 W a0 len0 cap0 z0) (wh : (Lit.int .i64 at_).wf = true) (wx : (Lit.int .u32 x).wf = true) (wc : (Lit.int .i64 cut).wf = true) (wm : (Lit.int .u8 more).wf = true) : Calls Tryd.prog 5 #[.slice a0 len0 cap0, .int .i64 at_, .int .u32 x, .int .i64 cut, .int .u8 more] W (True1 W) := by
  have hxb : 0 ≤ x ∧ x < 4294967296 := by
    simp [Lit.wf, IntKind.min, IntKind.max, IntKind.signed, IntKind.bits] at wx
    omega
  have hmb := wf_u8 wm
  obtain ⟨B, rfl⟩ : ∃ B : Nat, x = (B : Int) := ⟨x.toNat, by omega⟩
  obtain ⟨mo, rfl⟩ : ∃ mo : Nat, more = (mo : Int) := ⟨more.toNat, by omega⟩
  clear wh wx wc wm
  obtain ⟨l, hL, hl9⟩ := w0.isN
  obtain rfl := hL.1
  clear w0
  have AW := Lib.hid (fun (w : World) (hB : Below W.heap.size W w) => (awake w).mono (R' := fun en w' => en = .returned (.bool true) ∧ Below W.heap.size W w') (fun en w' h => ⟨h.1, hB.trans (h.2.mono hB.size)⟩))
  have B0 := Below.refl W.heap.size W
  by_cases hl : 200 < l.length
  · have d0 : decide (200 < l.length) = true := decide_eq_true hl
    have d0i : decide ((200 : Int) < (l.length : Int)) = true := decide_eq_true (by omega)
    clear hl
    go_enter Tryd.func5, Tryd.ntmps5
    go_wp2_with (go_at_call 10; (with_reducible refine (AW.out _ B0).mono ?_); rintro en w9 ⟨rfl, hB9⟩)
    go_ret
    exact ⟨rfl, hB9⟩
  have d0 : decide (200 < l.length) = false := decide_eq_false hl
  have d0i : decide ((200 : Int) < (l.length : Int)) = false := decide_eq_false (by omega)
  have MO := Lib.hid (modules l a0 cap0 W hL (by omega))
  clear hL
  go_enter Tryd.func5, Tryd.ntmps5
  go_upto_region 3 with (fail)
  go_upto_region 4 with (first | (go_at_call 11; (with_reducible refine MO.out.mono ?_); rintro en w1 ⟨ms, A, c, qs, hg, rfl, ho, hB⟩; have B1 := Lib.hid (build_is rfl hg.bld A c w1 ho.isMs ho.cap)) | (go_at_call 12; (with_reducible refine B1.out.mono ?_); rintro en w2 ⟨g, rfl, hg2, r2, hb2⟩))
  have hI := IsB.of_row r2
  have hB := hB.trans (hb2.mono hB.size)
  have hsz := hg.size
  have hil := imImg_len ms hg.names
  have hge := imSize_ge ms
  have hmod : imSize ms % 64 = 0 := up64_mod _
  have hh := (img_hdr hg.names (by omega) (by have := hg.len; omega)).1
  have PS := Lib.hid (fun L (hL : L = (imImg ms).length) => parse_is (ms := ms) (L := L) hg.bld hL)
  rw [← hil] at hsz hge hmod
  clear hil B1 MO hb2 hg2 r2 d0 d0i B0 ho
  generalize imImg ms = X at *
  obtain ⟨L, hL⟩ : ∃ L, X.length = L := ⟨_, rfl⟩
  have HL := Lib.hid hL
  rw [hL] at hI hsz hge hmod
  simp only [hL]
  clear hL
  have hL64 : 64 ≤ L := by omega
  have e0 : decide ((L : Int) < 64) = false := decide_eq_false (by omega)
  have e1 : decide (L < 64) = false := decide_eq_false (by omega)
  go_upto_region 7 with (at_builtin; (refine wp_append_b (P := Tryd.prog) rfl _ _ 23 rfl Tryd.underlying23 info_u8 (OwnB.nil w2 w2.heap.size 5) hI (by omega) (Nat.le_refl _) rfl rfl ?_); intro A1 n1 c1 w3 hn1 ho1 hb1 hg1 hat1)
  have hn2 : n1 = L := by have := hn1.out; omega
  subst hn2
  clear hn1
  obtain ⟨g1, rfl, hge1, hlt1, hle1⟩ := ho1.form (by omega)
  have hr1 : RB w3 g1 5 n1 X := by simpa using ho1.rb
  clear ho1 hat1 hg1 e0 e1
  have hw1 : IntKind.i64.wrap ((n1 : Int) - 16) = (n1 : Int) - 16 := by rw [IntKind.wrap_i64]; omega
  have hw2 : IntKind.i64.wrap (8 * ((n1 : Int) - 16)) = 8 * ((n1 : Int) - 16) := by rw [IntKind.wrap_i64]; omega
  have hw3 : IntKind.i64.wrap (8 * ((n1 : Int) - 16) - 31) = 8 * ((n1 : Int) - 16) - 31 := by rw [IntKind.wrap_i64]; omega
  have PL := fun w => place at_ (8 * ((n1 : Int) - 16) - 31) (by omega) (by omega) w
  obtain ⟨f, hf, hf1⟩ : ∃ f : Nat, at_ % (8 * ((n1 : Int) - 16) - 31) = (f : Int) ∧ f + 31 < 8 * (n1 - 16) := by
    have h0 := Int.emod_nonneg at_ (show 8 * ((n1 : Int) - 16) - 31 ≠ 0 by omega)
    have h1 := Int.emod_lt_of_pos at_ (show 0 < 8 * ((n1 : Int) - 16) - 31 by omega)
    exact ⟨(at_ % (8 * ((n1 : Int) - 16) - 31)).toNat, by omega, by omega⟩
  rw [hf] at PL
  have PL := Lib.hid PL
  have hw4 : IntKind.i64.wrap (128 + (f : Int)) = 128 + (f : Int) := by rw [IntKind.wrap_i64]; omega
  clear hf
  go_upto_region 9 with (go_at_call 15; refine (PL.out _).mono ?_; rintro en w9 ⟨rfl, rfl⟩)
  obtain ⟨fr, hfr⟩ : ∃ fr : Nat, 128 + f = fr := ⟨_, rfl⟩
  have hfri : (128 : Int) + (f : Int) = (fr : Int) := by omega
  simp only [hfri]
  clear hw1 hw2 hw3 hw4 hfri PL
  have hB2 := Nat.lt_of_lt_of_le (show B < 4294967296 by omega) (Nat.le_refl _)
  have hXL := HL.out
  have hx16 : (X.take 16).length = 16 := by simp; omega
  go_loopw [15] (fun i wr => ∃ (k : Nat) (cs : List UInt8), k ≤ 32 ∧ i = .int .i64 k ∧ RB wr g1 5 n1 (X.take 16 ++ cs) ∧ cs.length + 16 = n1 ∧ LE cs = LE (X.drop 16) ^^^ ((B % 2 ^ k) * 2 ^ f) ∧ (B = 0 → cs = X.drop 16) ∧ Below w2.heap.size w2 wr) (fun i _ => 32 - (intOf i).toNat)
  case atStart => exact ⟨0, X.drop 16, by omega, rfl, by rw [List.take_append_drop]; exact hr1, by simp; omega, by simp [Nat.mod_one], fun _ => rfl, hb1⟩
  case round =>
    obtain ⟨k, cs, hk, rfl, hr, hcl, hLE, hz, hb⟩ := hrel
    have HLE := Lib.hid hLE
    have HZ := Lib.hid hz
    clear hLE hr1 hb1 hz
    by_cases hk32 : k < 32
    · have eX : ((B : Int) / 2 ^ k) = ((B / 2 ^ k : Nat) : Int) := by rw [Int.natCast_ediv, Int.natCast_pow]; rfl
      have hY : B / 2 ^ k < 4294967296 := Nat.lt_of_le_of_lt (Nat.div_le_self _ _) hB2
      rcases Nat.mod_two_eq_zero_or_one (B / 2 ^ k) with hp | hp
      · have hc : bits .and .u32 ((B : Int) / 2 ^ k) 1 = 0 := by rw [eX]; exact and1_u32 hY hp
        have HP := Lib.hid hp
        clear hp eX
        go_wp2
        exact ⟨⟨k + 1, cs, by omega, by go_num, hr, hcl, by rw [HLE.out, mod_keep B k HP.out], HZ.out, hb⟩, by simp [intOf]; omega⟩
      · have hc : bits .and .u32 ((B : Int) / 2 ^ k) 1 = 1 := by rw [eX]; exact and1_u32 hY hp
        have HB0 := Lib.hid (show B ≠ 0 by rintro rfl; simp at hp)
        have HP := Lib.hid hp
        clear hp eX
        have hj : (f + k) / 8 < cs.length := by omega
        have hidx : (X.take 16).length + (f + k) / 8 = (fr + k) / 8 := by rw [hx16]; omega
        have hrem : (f + k) % 8 = (fr + k) % 8 := by omega
        have hlj : (X.take 16).length + (f + k) / 8 < (X.take 16 ++ cs).length := by rw [List.length_append]; omega
        have hcell := hr.cell _ hlj
        rw [app_at hj hlj, hidx] at hcell
        have hfz := hr.frozen ((fr + k) / 8)
        have HS := Lib.hid (burst_step cs (X.drop 16) B f k ((f + k) / 8) ((f + k) % 8) (by omega) (by omega) hj HP.out HLE.out)
        have HR := hr.set ((X.take 16).length + (f + k) / 8) (cs[(f + k) / 8] ^^^ UInt8.ofNat (2 ^ ((f + k) % 8)))
        rw [app_set, hidx] at HR
        obtain ⟨y, hy⟩ : ∃ y, cs[(f + k) / 8] = y := ⟨_, rfl⟩
        rw [hy] at hcell HS HR
        rw [hrem] at HS HR
        have HR := Lib.hid HR
        have hyl : y.toNat < 256 := y.toNat_lt
        have hin : (fr + k) / 8 < n1 := by omega
        have hini : ((((fr + k) / 8 : Nat)) : Int) < (n1 : Int) := by omega
        have HCL := Lib.hid (show (cs.set ((f + k) / 8) (y ^^^ UInt8.ofNat (2 ^ ((fr + k) % 8)))).length + 16 = n1 by rw [List.length_set]; exact hcl)
        have hwr : IntKind.i64.wrap ((fr : Int) + (k : Int)) = (fr : Int) + (k : Int) := by rw [IntKind.wrap_i64]; omega
        clear hy hlj hidx hrem hr hcl
        go_wp2
        rw [xor_byte y ((fr + k) % 8) (by omega)]
        exact ⟨⟨k + 1, _, by omega, by go_num, HR.out, HCL.out, HS.out, fun h => absurd h HB0.out, hb.setCell hge1 _⟩, by simp [intOf]; omega⟩
    · obtain rfl : k = 32 := by omega
      have hY := hr.isB
      have hcX : cs.length + 16 = X.length := by omega
      have hfl := hdr_flip hh hcX
      have hbsz := hb.size
      by_cases hB0 : B = 0
      · have hcs := HZ.out hB0
        subst hcs
        rw [List.take_append_drop] at hY
        have P1 := Lib.hid (PS.out n1 hXL.symm (some ⟨g1, 0, none⟩) c1 wr hY hle1)
        subst hB0
        clear hY hfl hcl hcX HLE HZ hr
        go_upto_region 14 with (go_at_call 13; (with_reducible refine P1.out.mono ?_); rintro en w5 ⟨A5, c5, qs5, rfl, -, hb5⟩)
        have hb := hb.trans (hb5.mono hb.size)
        clear P1 hb5
        have h0 := Int.emod_nonneg cut (show (n1 : Int) ≠ 0 by omega)
        have h1 := Int.emod_lt_of_pos cut (show (0 : Int) < n1 by omega)
        obtain ⟨cu, hcu⟩ : ∃ cu : Nat, cut % (n1 : Int) = (cu : Int) := ⟨(cut % (n1 : Int)).toNat, by omega⟩
        have PL2 := fun w => place cut n1 (by omega) (by omega) w
        rw [hcu] at PL2 h0 h1
        have PL2 := Lib.hid PL2
        have hcn : cu < n1 := by omega
        have i0 : (0 : Int) ≤ (cu : Int) := by omega
        have i1 : (cu : Int) ≤ (n1 : Int) := by omega
        have hp2 := (hI.below hb).part 0 cu (by omega)
        rw [show seg X 0 cu = X.take cu by simp [seg]] at hp2
        have P2 := Lib.hid (parse_err (L := cu) (hdr_cut hh (c := cu) (by omega)) (by decide) (by simp; omega) (some ⟨g, 0, none⟩) n1 w5 hp2 (by omega) (by omega))
        clear hcu hp2
        go_upto_region 15 with (first | (go_at_call 15; refine (PL2.out _).mono ?_; rintro en w9 ⟨rfl, rfl⟩) | (go_at_call 13; (with_reducible refine P2.out.mono ?_); rintro en w6 ⟨rfl, hb6⟩))
        have hb := hb.trans (hb6.mono hb.size)
        have hI6 := hI.below hb
        have hmo : mo < 256 := by omega
        have H3 := Lib.hid (fun (A : Option Addr) (c : Nat) (w : World) (h : IsB w A (n1 + 1) (X ++ [UInt8.ofNat mo])) (hc : n1 + 1 ≤ c) => parse_err (L := n1 + 1) (hdr_more hh (UInt8.ofNat mo)) (by decide) (by simp; omega) A c w h hc (by omega))
        clear P2 PL2 hb6 i0 i1
        go_upto_region 16 with (first | (at_builtin; (refine wp_append_b (P := Tryd.prog) rfl _ _ 23 rfl Tryd.underlying23 info_u8 (OwnB.nil w6 w6.heap.size 5) hI6 (by omega) (Nat.le_refl _) rfl rfl ?_); intro A7 n7 c7 w7 hn7 ho7 hb7 hg7 hat7; have e7 : n1 = n7 := (by have := hn7.out; omega); clear hn7; subst e7; have hal7 := (Below.refl w7.heap.size w7).alloc (Nat.le_refl _) (.cells #[.int .u8 (mo : Int)] 5); have ho8 := ho7.below hal7; have hs8 := Nat.le_trans hb7.size hal7.size) | (at_builtin; (refine wp_append_b (P := Tryd.prog) rfl _ _ 23 rfl Tryd.underlying23 info_u8 ho8 (isB1 (Row.born w7 5 _) hmo) (by omega) hs8 rfl rfl ?_); intro A9 n9 c9 w9 hn9 ho9 hb9 hg9 hat9; have e9 : n1 + 1 = n9 := (by have := hn9.out; omega); clear hn9; subst e9; have h9 : IsB w9 A9 (n1 + 1) (X ++ [UInt8.ofNat mo]) := ho9.isB; have hc9 := ho9.capM) | (go_at_call 13; (with_reducible refine Calls.mono (H3.out _ _ _ h9 hc9) ?_); rintro en wA ⟨rfl, hbA⟩))
        have hb78 := (hb7.trans (hal7.mono hb7.size)).trans hb9
        have hb := hb.trans ((hb78.trans (hbA.mono (Nat.le_trans hs8 hb9.size))).mono hb.size)
        have hBr := hB.trans (hb.mono hB.size)
        go_wp2_with (go_at_call 10; (with_reducible refine Calls.mono (AW.out _ hBr) ?_); rintro en wZ ⟨rfl, hBF⟩)
        go_ret
        exact ⟨rfl, hBF⟩
      · have hlen : cs.length = (X.drop 16).length := by simp; omega
        have hne : crc (X.drop 16) ≠ crc cs := crc_burst (X.drop 16) cs B f hlen (by simp; omega) (by omega) hB2 (by rw [HLE.out, Nat.mod_eq_of_lt (by omega)])
        rw [if_pos hne] at hfl
        have P1 := Lib.hid (parse_err (L := n1) hfl (by decide) (by simp; omega) (some ⟨g1, 0, none⟩) c1 wr hY hle1 (by omega))
        have f1 : ((B : Int) != 0) = true := by simp; omega
        have f2 : ((B : Int) == 0) = false := by simp; omega
        have f3 : (B = 0) = False := eq_false hB0
        have f4 : ((B : Int) = 0) = False := eq_false (by omega)
        clear hY hfl hcl hcX HLE HZ hr hne hlen
        go_upto_region 14 with (go_at_call 13; (with_reducible refine P1.out.mono ?_); rintro en w5 ⟨rfl, hb5⟩)
        have hb := hb.trans (hb5.mono hb.size)
        clear P1 hb5
        have h0 := Int.emod_nonneg cut (show (n1 : Int) ≠ 0 by omega)
        have h1 := Int.emod_lt_of_pos cut (show (0 : Int) < n1 by omega)
        obtain ⟨cu, hcu⟩ : ∃ cu : Nat, cut % (n1 : Int) = (cu : Int) := ⟨(cut % (n1 : Int)).toNat, by omega⟩
        have PL2 := fun w => place cut n1 (by omega) (by omega) w
        rw [hcu] at PL2 h0 h1
        have PL2 := Lib.hid PL2
        have hcn : cu < n1 := by omega
        have i0 : (0 : Int) ≤ (cu : Int) := by omega
        have i1 : (cu : Int) ≤ (n1 : Int) := by omega
        have hp2 := (hI.below hb).part 0 cu (by omega)
        rw [show seg X 0 cu = X.take cu by simp [seg]] at hp2
        have P2 := Lib.hid (parse_err (L := cu) (hdr_cut hh (c := cu) (by omega)) (by decide) (by simp; omega) (some ⟨g, 0, none⟩) n1 w5 hp2 (by omega) (by omega))
        clear hcu hp2
        go_upto_region 15 with (first | (go_at_call 15; refine (PL2.out _).mono ?_; rintro en w9 ⟨rfl, rfl⟩) | (go_at_call 13; (with_reducible refine P2.out.mono ?_); rintro en w6 ⟨rfl, hb6⟩))
        have hb := hb.trans (hb6.mono hb.size)
        have hI6 := hI.below hb
        have hmo : mo < 256 := by omega
        have H3 := Lib.hid (fun (A : Option Addr) (c : Nat) (w : World) (h : IsB w A (n1 + 1) (X ++ [UInt8.ofNat mo])) (hc : n1 + 1 ≤ c) => parse_err (L := n1 + 1) (hdr_more hh (UInt8.ofNat mo)) (by decide) (by simp; omega) A c w h hc (by omega))
        clear P2 PL2 hb6 i0 i1
        go_upto_region 16 with (first | (at_builtin; (refine wp_append_b (P := Tryd.prog) rfl _ _ 23 rfl Tryd.underlying23 info_u8 (OwnB.nil w6 w6.heap.size 5) hI6 (by omega) (Nat.le_refl _) rfl rfl ?_); intro A7 n7 c7 w7 hn7 ho7 hb7 hg7 hat7; have e7 : n1 = n7 := (by have := hn7.out; omega); clear hn7; subst e7; have hal7 := (Below.refl w7.heap.size w7).alloc (Nat.le_refl _) (.cells #[.int .u8 (mo : Int)] 5); have ho8 := ho7.below hal7; have hs8 := Nat.le_trans hb7.size hal7.size) | (at_builtin; (refine wp_append_b (P := Tryd.prog) rfl _ _ 23 rfl Tryd.underlying23 info_u8 ho8 (isB1 (Row.born w7 5 _) hmo) (by omega) hs8 rfl rfl ?_); intro A9 n9 c9 w9 hn9 ho9 hb9 hg9 hat9; have e9 : n1 + 1 = n9 := (by have := hn9.out; omega); clear hn9; subst e9; have h9 : IsB w9 A9 (n1 + 1) (X ++ [UInt8.ofNat mo]) := ho9.isB; have hc9 := ho9.capM) | (go_at_call 13; (with_reducible refine Calls.mono (H3.out _ _ _ h9 hc9) ?_); rintro en wA ⟨rfl, hbA⟩))
        have hb78 := (hb7.trans (hal7.mono hb7.size)).trans hb9
        have hb := hb.trans ((hb78.trans (hbA.mono (Nat.le_trans hs8 hb9.size))).mono hb.size)
        have hBr := hB.trans (hb.mono hB.size)
        go_wp2_with (go_at_call 10; (with_reducible refine Calls.mono (AW.out _ hBr) ?_); rintro en wZ ⟨rfl, hBF⟩)
        go_ret
        exact ⟨rfl, hBF⟩
end Go.Proofs.YtigbmlgllgcbhaaDoor
