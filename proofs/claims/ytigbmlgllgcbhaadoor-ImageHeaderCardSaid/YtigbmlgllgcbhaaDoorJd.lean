/- Image: ImageHeader. -/
import Derived.Test.YtigbmlgllgcbhaaDoorJc
import Derived.Deep.RegionHeld3
namespace Go.Proofs.YtigbmlgllgcbhaaDoor
open Go.RowKit
set_option linter.unusedVariables false
set_option linter.unusedSimpArgs false
theorem xor_b (x : UInt8) (b : Nat) (hb : b < 256) : Value.int .u8 (bits .xor .u8 (x.toNat : Int) (b : Int)) = bv (x ^^^ UInt8.ofNat b) := by
  rw [u8_xor_nat _ _ x.toNat_lt hb]
  unfold bv
  rw [UInt8.toNat_xor, UInt8.toNat_ofNat', Nat.mod_eq_of_lt (by omega)]
theorem xor_ne (y : UInt8) (b : Nat) (hb : b < 256) (h0 : b ≠ 0) : y ^^^ UInt8.ofNat b ≠ y := by
  intro h
  have h1 : (y ^^^ UInt8.ofNat b).toNat = y.toNat := by rw [h]
  rw [UInt8.toNat_xor, UInt8.toNat_ofNat', Nat.mod_eq_of_lt (by omega)] at h1
  have h2 : y.toNat ^^^ (y.toNat ^^^ b) = y.toNat ^^^ y.toNat := by rw [h1]
  rw [← Nat.xor_assoc, Nat.xor_self, Nat.zero_xor] at h2
  exact h0 h2
theorem leN_four : ∀ (l : List UInt8) (h : l.length = 4), leN l = l[0].toNat + 256 * l[1].toNat + 65536 * l[2].toNat + 16777216 * l[3].toNat
  | [a, b, c, d], _ => by simp [leN]; omega
theorem leN_at {X : List UInt8} (h : 12 ≤ X.length) : leN (seg X 8 4) = X[8].toNat + 256 * X[9].toNat + 65536 * X[10].toNat + 16777216 * X[11].toNat := by
  rw [leN_four _ (seg_len (by omega)), seg_get (by omega) (by omega), seg_get (by omega) (by omega), seg_get (by omega) (by omega), seg_get (by omega) (by omega)]
theorem parse_par {bs : List UInt8} {E : Int} {L : Nat} (hp : parE bs = E) (h0 : E ≠ 0) (hL : L = bs.length) (A : Option Addr) (c : Nat) (W : World) (hA : IsB W A L bs) (hc : L ≤ c) (hl : L ≤ 1000000000) : Calls Tryd.prog 13 #[.slice A L c] W (fun en W' => en = .returned (.tuple #[.slice none 0 0, .int .i64 E]) ∧ Below W.heap.size W W') := by
  subst hL
  refine (parse A c bs W hA hc hl).mono ?_
  rintro en W' (⟨-, h1, h2⟩ | ⟨h1, -⟩)
  · rw [hp] at h1; exact ⟨h1, h2⟩
  · exact absurd (hp.symm.trans h1) h0
theorem par_hdr {bs : List UInt8} {E : Int} (h : hdrE bs = E) (h0 : E ≠ 0) : parE bs = E := by unfold parE; rw [if_pos (by rw [h]; exact h0), h]
set_option maxRecDepth 100000 in
set_option maxHeartbeats 8000000 in
theorem walk_header (W : World) (a0 : Option Addr) (len0 cap0 : Nat) (z0 : List Int) (which by_ : Int) (w0 : IsRow .i64 W a0 len0 cap0 z0) (wh : (Lit.int .i64 which).wf = true) (wb : (Lit.int .u8 by_).wf = true) : Calls Tryd.prog 6 #[.slice a0 len0 cap0, .int .i64 which, .int .u8 by_] W (True1 W) := by
  have hmb := wf_u8 wb
  obtain ⟨b, rfl⟩ : ∃ b : Nat, by_ = (b : Int) := ⟨by_.toNat, by omega⟩
  clear wh wb
  obtain ⟨l, hL, hl9⟩ := w0.isN
  obtain rfl := hL.1
  clear w0
  have AW := Lib.hid (fun (w : World) (hB : Below W.heap.size W w) => (awake w).mono (R' := fun en w' => en = .returned (.bool true) ∧ Below W.heap.size W w') (fun en w' h => ⟨h.1, hB.trans (h.2.mono hB.size)⟩))
  have B0 := Below.refl W.heap.size W
  by_cases hl : 200 < l.length
  · have d0 : decide (200 < l.length) = true := decide_eq_true hl
    have d0i : decide ((200 : Int) < (l.length : Int)) = true := decide_eq_true (by omega)
    clear hl
    go_enter Tryd.func6, Tryd.ntmps6
    go_wp2_with (go_at_call 10; (with_reducible refine (AW.out _ B0).mono ?_); rintro en w9 ⟨rfl, hB9⟩)
    go_ret
    exact ⟨rfl, hB9⟩
  have d0 : decide (200 < l.length) = false := decide_eq_false hl
  have d0i : decide ((200 : Int) < (l.length : Int)) = false := decide_eq_false (by omega)
  have MO := Lib.hid (modules l a0 cap0 W hL (by omega))
  clear hL
  go_enter Tryd.func6, Tryd.ntmps6
  by_cases hb0 : b = 0
  · subst hb0
    go_wp2_with (go_at_call 10; (with_reducible refine (AW.out _ B0).mono ?_); rintro en w9 ⟨rfl, hB9⟩)
    go_ret
    exact ⟨rfl, hB9⟩
  have z1 : ((b : Int) == 0) = false := by simp; omega
  have z2 : (b = 0) = False := eq_false hb0
  have z3 : ((b : Int) = 0) = False := eq_false (by omega)
  go_upto_region 3 with (fail)
  go_upto_region 4 with (first | (go_at_call 11; (with_reducible refine MO.out.mono ?_); rintro en w1 ⟨ms, A, c, qs, hg, rfl, ho, hB⟩; have B1 := Lib.hid (build_is rfl hg.bld A c w1 ho.isMs ho.cap)) | (go_at_call 12; (with_reducible refine B1.out.mono ?_); rintro en w2 ⟨g, rfl, hg2, r2, hb2⟩))
  have hI := IsB.of_row r2
  have hB := hB.trans (hb2.mono hB.size)
  have hsz := hg.size
  have hil := imImg_len ms hg.names
  have hge := imSize_ge ms
  have hmod : imSize ms % 64 = 0 := up64_mod _
  have hh := (img_hdr hg.names (by omega) (by have := hg.len; omega)).1
  have CN := Lib.hid (fun (k : Nat) (v : UInt8) h0 h1 hk hv => hdr_canon (ms := ms) hg.bld (k := k) (v := v) h0 h1 hk hv)
  rw [← hil] at hsz hge hmod
  clear hil B1 MO hb2 hg2 r2 d0 d0i B0 ho z1 z2 z3
  generalize imImg ms = X at *
  obtain ⟨L, hL⟩ : ∃ L, X.length = L := ⟨_, rfl⟩
  have HL := Lib.hid hL
  rw [hL] at hI hsz hge hmod
  simp only [hL]
  clear hL
  have hL64 : 64 ≤ L := by omega
  have e0 : decide ((L : Int) < 64) = false := decide_eq_false (by omega)
  have e1 : decide (L < 64) = false := decide_eq_false (by omega)
  go_upto_region 7 with (at_builtin; (refine wp_append_b (P := Tryd.prog) rfl _ _ 23 rfl Tryd.underlying23 info_u8 (OwnB.nil w2 w2.heap.size 5) hI (by omega) (Nat.le_refl _) rfl rfl ?_); intro A1 n1 c1 w3 hn1 ho1 hb1 hg1 hat1)
  have hn2 : n1 = L := by have := hn1.out; omega
  subst hn2
  clear hn1
  obtain ⟨g1, rfl, hge1, hlt1, hle1⟩ := ho1.form (by omega)
  have hr1 : RB w3 g1 5 n1 X := by simpa using ho1.rb
  clear ho1 hat1 hg1 e0 e1
  have h0 := Int.emod_nonneg which (show (16 : Int) ≠ 0 by decide)
  have h1 := Int.emod_lt_of_pos which (show (0 : Int) < 16 by decide)
  obtain ⟨k, hk⟩ : ∃ k : Nat, which % 16 = (k : Int) := ⟨(which % 16).toNat, by omega⟩
  have PL := fun w => place which 16 (by decide) (by decide) w
  rw [hk] at PL h0 h1
  have PL := Lib.hid PL
  clear hk
  have hXL := HL.out
  have hkX : k < X.length := by omega
  have hcell := hr1.cell k hkX
  have hfz := hr1.frozen k
  obtain ⟨y, hy⟩ : ∃ y, X[k] = y := ⟨_, rfl⟩
  rw [hy] at hcell
  have hyl : y.toNat < 256 := y.toNat_lt
  have hki : (k : Int) < (n1 : Int) := by omega
  have hR := hr1.set k (y ^^^ UInt8.ofNat b)
  have hv : y ^^^ UInt8.ofNat b ≠ X[k] := by rw [hy]; exact xor_ne y b (by omega) hb0
  have HV := Lib.hid hv
  have HR := Lib.hid hR
  have HXB := Lib.hid (xor_b y b (by omega))
  clear hv hR hr1
  go_upto_region 9 with (go_at_call 15; refine (PL.out _).mono ?_; rintro en w9 ⟨rfl, rfl⟩)
  rw [HXB.out]
  have hb := hb1.setCell (p := ⟨g1, k, none⟩) hge1 (bv (y ^^^ UInt8.ofNat b))
  have hR := HR.out
  have hv := HV.out
  obtain ⟨v, hve⟩ : ∃ v, y ^^^ UInt8.ofNat b = v := ⟨_, rfl⟩
  rw [hve] at hv hR hb
  rw [hve]
  clear HV HR HXB hve hcell hfz hy PL hb1 hki
  generalize w3.setCell ⟨g1, k, none⟩ (bv v) = w5 at *
  have hY := hR.isB
  rcases (by omega : k < 4 ∨ (4 ≤ k ∧ k < 6) ∨ (6 ≤ k ∧ k < 8) ∨ k = 8 ∨ k = 9 ∨ k = 10 ∨ k = 11 ∨ 12 ≤ k) with hk | ⟨hk, hk2⟩ | ⟨hk, hk2⟩ | rfl | rfl | rfl | rfl | hk
  · have hp := par_hdr (hdr_magic hh hk hkX hv) (by decide)
    have P1 := Lib.hid (parse_par (L := n1) hp (by decide) (by simp; omega) (some ⟨g1, 0, none⟩) c1 w5 hY hle1 (by omega))
    have d0 : decide (k < 4) = true := decide_eq_true (by omega)
    have d0i : decide ((k : Int) < 4) = true := decide_eq_true (by omega)
    clear hp hY hR
    go_upto_region 10 with (go_at_call 13; (with_reducible refine P1.out.mono ?_); rintro en w6 ⟨rfl, hb6⟩)
    have hb := hb.trans (hb6.mono hb.size)
    have hBr := hB.trans (hb.mono hB.size)
    go_wp2_with (go_at_call 10; (with_reducible refine Calls.mono (AW.out _ hBr) ?_); rintro en wZ ⟨rfl, hBF⟩)
    go_ret
    exact ⟨rfl, hBF⟩
  · have hp := par_hdr (hdr_version hh hk hk2 hkX hv) (by decide)
    have P1 := Lib.hid (parse_par (L := n1) hp (by decide) (by simp; omega) (some ⟨g1, 0, none⟩) c1 w5 hY hle1 (by omega))
    have d0 : decide (k < 4) = false := decide_eq_false (by omega)
    have d0i : decide ((k : Int) < 4) = false := decide_eq_false (by omega)
    have d1 : decide (k < 6) = true := decide_eq_true (by omega)
    have d1i : decide ((k : Int) < 6) = true := decide_eq_true (by omega)
    clear hp hY hR
    go_upto_region 10 with (go_at_call 13; (with_reducible refine P1.out.mono ?_); rintro en w6 ⟨rfl, hb6⟩)
    have hb := hb.trans (hb6.mono hb.size)
    have hBr := hB.trans (hb.mono hB.size)
    go_wp2_with (go_at_call 10; (with_reducible refine Calls.mono (AW.out _ hBr) ?_); rintro en wZ ⟨rfl, hBF⟩)
    go_ret
    exact ⟨rfl, hBF⟩
  · have hp := CN.out k v hk hk2 hkX hv
    have P1 := Lib.hid (parse_par (L := n1) hp (by decide) (by simp; omega) (some ⟨g1, 0, none⟩) c1 w5 hY hle1 (by omega))
    have d0 : decide (k < 4) = false := decide_eq_false (by omega)
    have d0i : decide ((k : Int) < 4) = false := decide_eq_false (by omega)
    have d1 : decide (k < 6) = false := decide_eq_false (by omega)
    have d1i : decide ((k : Int) < 6) = false := decide_eq_false (by omega)
    have d2 : decide (k < 8) = true := decide_eq_true (by omega)
    have d2i : decide ((k : Int) < 8) = true := decide_eq_true (by omega)
    clear hp hY hR
    go_upto_region 10 with (go_at_call 13; (with_reducible refine P1.out.mono ?_); rintro en w6 ⟨rfl, hb6⟩)
    have hb := hb.trans (hb6.mono hb.size)
    have hBr := hB.trans (hb.mono hB.size)
    go_wp2_with (go_at_call 10; (with_reducible refine Calls.mono (AW.out _ hBr) ?_); rintro en wZ ⟨rfl, hBF⟩)
    go_ret
    exact ⟨rfl, hBF⟩
  · obtain ⟨x8, hx8⟩ : ∃ x, X[8]'(by omega) = x := ⟨_, rfl⟩
    obtain ⟨x9, hx9⟩ : ∃ x, X[9]'(by omega) = x := ⟨_, rfl⟩
    obtain ⟨x10, hx10⟩ : ∃ x, X[10]'(by omega) = x := ⟨_, rfl⟩
    obtain ⟨x11, hx11⟩ : ∃ x, X[11]'(by omega) = x := ⟨_, rfl⟩
    have hl8 := x8.toNat_lt
    have hl9 := x9.toNat_lt
    have hl10 := x10.toNat_lt
    have hl11 := x11.toNat_lt
    have hlv := v.toNat_lt
    have hLs := (hdr_ok hh).2.2.2.2.1
    rw [leN_at (by omega), hx8, hx9, hx10, hx11] at hLs
    have hYs := leN_at (X := X.set 8 v) (by simp; omega)
    simp only [List.getElem_set, hx8, hx9, hx10, hx11] at hYs
    simp at hYs
    have hsz' := hdr_size hh (k := 8) (v := v) (by decide) (by decide) (by omega) hv
    have hvx : v.toNat ≠ x8.toNat := fun e => hv ((UInt8.toNat_inj.1 e).trans hx8.symm)
    rcases Nat.lt_or_ge x8.toNat v.toNat with hlt | hge9
    · have hp := par_hdr (E := 52) (by rw [hsz', hYs, if_pos (by omega)]) (by decide)
      have P1 := Lib.hid (parse_par (L := n1) hp (by decide) (by simp; omega) (some ⟨g1, 0, none⟩) c1 w5 hY hle1 (by omega))
      have cy8 : w5.cell? ⟨g1, 8, none⟩ = some (.int .u8 v.toNat) := by
        have := hR.cell 8 (by simp; omega)
        simpa [List.getElem_set, hx8] using this
      have cy9 : w5.cell? ⟨g1, 9, none⟩ = some (.int .u8 x9.toNat) := by
        have := hR.cell 9 (by simp; omega)
        simpa [List.getElem_set, hx9] using this
      have cy10 : w5.cell? ⟨g1, 10, none⟩ = some (.int .u8 x10.toNat) := by
        have := hR.cell 10 (by simp; omega)
        simpa [List.getElem_set, hx10] using this
      have cy11 : w5.cell? ⟨g1, 11, none⟩ = some (.int .u8 x11.toNat) := by
        have := hR.cell 11 (by simp; omega)
        simpa [List.getElem_set, hx11] using this
      obtain ⟨b', o', e', -, hcel⟩ := (hI.below hb).at_ (by omega)
      cases e'
      have cx8 : w5.cell? ⟨g, 8, none⟩ = some (.int .u8 x8.toNat) := by
        have := hcel 8 (by omega)
        rw [Nat.zero_add, hx8] at this
        exact this
      have cx9 : w5.cell? ⟨g, 9, none⟩ = some (.int .u8 x9.toNat) := by
        have := hcel 9 (by omega)
        rw [Nat.zero_add, hx9] at this
        exact this
      have cx10 : w5.cell? ⟨g, 10, none⟩ = some (.int .u8 x10.toNat) := by
        have := hcel 10 (by omega)
        rw [Nat.zero_add, hx10] at this
        exact this
      have cx11 : w5.cell? ⟨g, 11, none⟩ = some (.int .u8 x11.toNat) := by
        have := hcel 11 (by omega)
        rw [Nat.zero_add, hx11] at this
        exact this
      have HK := Lib.hid (fun (w' : World) (hb : Below w5.heap.size w5 w') => (show w'.cell? ⟨g1, 8, none⟩ = some (.int .u8 v.toNat) ∧ w'.cell? ⟨g1, 9, none⟩ = some (.int .u8 x9.toNat) ∧ w'.cell? ⟨g1, 10, none⟩ = some (.int .u8 x10.toNat) ∧ w'.cell? ⟨g1, 11, none⟩ = some (.int .u8 x11.toNat) ∧ w'.cell? ⟨g, 8, none⟩ = some (.int .u8 x8.toNat) ∧ w'.cell? ⟨g, 9, none⟩ = some (.int .u8 x9.toNat) ∧ w'.cell? ⟨g, 10, none⟩ = some (.int .u8 x10.toNat) ∧ w'.cell? ⟨g, 11, none⟩ = some (.int .u8 x11.toNat) from ⟨(hb.cell (p := ⟨g1, 8, none⟩) (block_lt_of_cell cy8)).trans cy8, (hb.cell (p := ⟨g1, 9, none⟩) (block_lt_of_cell cy9)).trans cy9, (hb.cell (p := ⟨g1, 10, none⟩) (block_lt_of_cell cy10)).trans cy10, (hb.cell (p := ⟨g1, 11, none⟩) (block_lt_of_cell cy11)).trans cy11, (hb.cell (p := ⟨g, 8, none⟩) (block_lt_of_cell cx8)).trans cx8, (hb.cell (p := ⟨g, 9, none⟩) (block_lt_of_cell cx9)).trans cx9, (hb.cell (p := ⟨g, 10, none⟩) (block_lt_of_cell cx10)).trans cx10, (hb.cell (p := ⟨g, 11, none⟩) (block_lt_of_cell cx11)).trans cx11⟩))
      have q1 : decide ((x8.toNat : Int) < (v.toNat : Int)) = true := decide_eq_true (by omega)
      have q1n : decide (x8.toNat < v.toNat) = true := decide_eq_true (by omega)
      clear hp hY hR hsz' hYs hx8 hx9 hx10 hx11 hcel cx8 cx9 cx10 cx11 cy8 cy9 cy10 cy11 hv
      go_upto_region 17 with (go_at_call 13; (with_reducible refine P1.out.mono ?_); rintro en w6 ⟨rfl, hb6⟩)
      have hb0 := hb
      have hb := hb.trans (hb6.mono hb.size)
      have hBr := hB.trans (hb.mono hB.size)
      have bd8 : (8 : Int) < (n1 : Int) := by omega
      have bd9 : (9 : Int) < (n1 : Int) := by omega
      have bd10 : (10 : Int) < (n1 : Int) := by omega
      have bd11 : (11 : Int) < (n1 : Int) := by omega
      have HKW := HK.out w6.drew (hb6.drew)
      go_region_held3 (fun w' => w'.cell? ⟨g1, 8, none⟩ = some (.int .u8 v.toNat) ∧ w'.cell? ⟨g1, 9, none⟩ = some (.int .u8 x9.toNat) ∧ w'.cell? ⟨g1, 10, none⟩ = some (.int .u8 x10.toNat) ∧ w'.cell? ⟨g1, 11, none⟩ = some (.int .u8 x11.toNat) ∧ w'.cell? ⟨g, 8, none⟩ = some (.int .u8 x8.toNat) ∧ w'.cell? ⟨g, 9, none⟩ = some (.int .u8 x9.toNat) ∧ w'.cell? ⟨g, 10, none⟩ = some (.int .u8 x10.toNat) ∧ w'.cell? ⟨g, 11, none⟩ = some (.int .u8 x11.toNat)) (first | exact HKW | exact HK.out _ hb6) (fail)
      have hB17 := hb6.drew
      have hBr := hBr.drew
      generalize w6.drew = w17 at *
      go_upto_region 18 with (fail)
      have HKW := HK.out w17.drew (hB17.drew)
      go_region_held3 (fun w' => w'.cell? ⟨g1, 8, none⟩ = some (.int .u8 v.toNat) ∧ w'.cell? ⟨g1, 9, none⟩ = some (.int .u8 x9.toNat) ∧ w'.cell? ⟨g1, 10, none⟩ = some (.int .u8 x10.toNat) ∧ w'.cell? ⟨g1, 11, none⟩ = some (.int .u8 x11.toNat) ∧ w'.cell? ⟨g, 8, none⟩ = some (.int .u8 x8.toNat) ∧ w'.cell? ⟨g, 9, none⟩ = some (.int .u8 x9.toNat) ∧ w'.cell? ⟨g, 10, none⟩ = some (.int .u8 x10.toNat) ∧ w'.cell? ⟨g, 11, none⟩ = some (.int .u8 x11.toNat)) (first | exact HKW | exact HK.out _ hB17) (fail)
      have hB18 := hB17.drew
      have hBr := hBr.drew
      generalize w17.drew = w18 at *
      go_upto_region 20 with (fail)
      have HKW := HK.out w18.drew (hB18.drew)
      go_region_held3 (fun w' => w'.cell? ⟨g1, 8, none⟩ = some (.int .u8 v.toNat) ∧ w'.cell? ⟨g1, 9, none⟩ = some (.int .u8 x9.toNat) ∧ w'.cell? ⟨g1, 10, none⟩ = some (.int .u8 x10.toNat) ∧ w'.cell? ⟨g1, 11, none⟩ = some (.int .u8 x11.toNat) ∧ w'.cell? ⟨g, 8, none⟩ = some (.int .u8 x8.toNat) ∧ w'.cell? ⟨g, 9, none⟩ = some (.int .u8 x9.toNat) ∧ w'.cell? ⟨g, 10, none⟩ = some (.int .u8 x10.toNat) ∧ w'.cell? ⟨g, 11, none⟩ = some (.int .u8 x11.toNat)) (first | exact HKW | exact HK.out _ hB18) (fail)
      have hB20 := hB18.drew
      have hBr := hBr.drew
      generalize w18.drew = w20 at *
      go_wp2_with (go_at_call 10; (with_reducible refine Calls.mono (AW.out _ hBr) ?_); rintro en wZ ⟨rfl, hBF⟩)
      go_ret
      exact ⟨rfl, hBF⟩
    · have hp := par_hdr (E := 53) (by rw [hsz', hYs, if_neg (by omega)]) (by decide)
      have P1 := Lib.hid (parse_par (L := n1) hp (by decide) (by simp; omega) (some ⟨g1, 0, none⟩) c1 w5 hY hle1 (by omega))
      have cy8 : w5.cell? ⟨g1, 8, none⟩ = some (.int .u8 v.toNat) := by
        have := hR.cell 8 (by simp; omega)
        simpa [List.getElem_set, hx8] using this
      have cy9 : w5.cell? ⟨g1, 9, none⟩ = some (.int .u8 x9.toNat) := by
        have := hR.cell 9 (by simp; omega)
        simpa [List.getElem_set, hx9] using this
      have cy10 : w5.cell? ⟨g1, 10, none⟩ = some (.int .u8 x10.toNat) := by
        have := hR.cell 10 (by simp; omega)
        simpa [List.getElem_set, hx10] using this
      have cy11 : w5.cell? ⟨g1, 11, none⟩ = some (.int .u8 x11.toNat) := by
        have := hR.cell 11 (by simp; omega)
        simpa [List.getElem_set, hx11] using this
      obtain ⟨b', o', e', -, hcel⟩ := (hI.below hb).at_ (by omega)
      cases e'
      have cx8 : w5.cell? ⟨g, 8, none⟩ = some (.int .u8 x8.toNat) := by
        have := hcel 8 (by omega)
        rw [Nat.zero_add, hx8] at this
        exact this
      have cx9 : w5.cell? ⟨g, 9, none⟩ = some (.int .u8 x9.toNat) := by
        have := hcel 9 (by omega)
        rw [Nat.zero_add, hx9] at this
        exact this
      have cx10 : w5.cell? ⟨g, 10, none⟩ = some (.int .u8 x10.toNat) := by
        have := hcel 10 (by omega)
        rw [Nat.zero_add, hx10] at this
        exact this
      have cx11 : w5.cell? ⟨g, 11, none⟩ = some (.int .u8 x11.toNat) := by
        have := hcel 11 (by omega)
        rw [Nat.zero_add, hx11] at this
        exact this
      have HK := Lib.hid (fun (w' : World) (hb : Below w5.heap.size w5 w') => (show w'.cell? ⟨g1, 8, none⟩ = some (.int .u8 v.toNat) ∧ w'.cell? ⟨g1, 9, none⟩ = some (.int .u8 x9.toNat) ∧ w'.cell? ⟨g1, 10, none⟩ = some (.int .u8 x10.toNat) ∧ w'.cell? ⟨g1, 11, none⟩ = some (.int .u8 x11.toNat) ∧ w'.cell? ⟨g, 8, none⟩ = some (.int .u8 x8.toNat) ∧ w'.cell? ⟨g, 9, none⟩ = some (.int .u8 x9.toNat) ∧ w'.cell? ⟨g, 10, none⟩ = some (.int .u8 x10.toNat) ∧ w'.cell? ⟨g, 11, none⟩ = some (.int .u8 x11.toNat) from ⟨(hb.cell (p := ⟨g1, 8, none⟩) (block_lt_of_cell cy8)).trans cy8, (hb.cell (p := ⟨g1, 9, none⟩) (block_lt_of_cell cy9)).trans cy9, (hb.cell (p := ⟨g1, 10, none⟩) (block_lt_of_cell cy10)).trans cy10, (hb.cell (p := ⟨g1, 11, none⟩) (block_lt_of_cell cy11)).trans cy11, (hb.cell (p := ⟨g, 8, none⟩) (block_lt_of_cell cx8)).trans cx8, (hb.cell (p := ⟨g, 9, none⟩) (block_lt_of_cell cx9)).trans cx9, (hb.cell (p := ⟨g, 10, none⟩) (block_lt_of_cell cx10)).trans cx10, (hb.cell (p := ⟨g, 11, none⟩) (block_lt_of_cell cx11)).trans cx11⟩))
      have q1 : decide ((x8.toNat : Int) < (v.toNat : Int)) = false := decide_eq_false (by omega)
      have q1n : decide (x8.toNat < v.toNat) = false := decide_eq_false (by omega)
      clear hp hY hR hsz' hYs hx8 hx9 hx10 hx11 hcel cx8 cx9 cx10 cx11 cy8 cy9 cy10 cy11 hv
      go_upto_region 17 with (go_at_call 13; (with_reducible refine P1.out.mono ?_); rintro en w6 ⟨rfl, hb6⟩)
      have hb0 := hb
      have hb := hb.trans (hb6.mono hb.size)
      have hBr := hB.trans (hb.mono hB.size)
      have bd8 : (8 : Int) < (n1 : Int) := by omega
      have bd9 : (9 : Int) < (n1 : Int) := by omega
      have bd10 : (10 : Int) < (n1 : Int) := by omega
      have bd11 : (11 : Int) < (n1 : Int) := by omega
      have HKW := HK.out w6.drew (hb6.drew)
      go_region_held3 (fun w' => w'.cell? ⟨g1, 8, none⟩ = some (.int .u8 v.toNat) ∧ w'.cell? ⟨g1, 9, none⟩ = some (.int .u8 x9.toNat) ∧ w'.cell? ⟨g1, 10, none⟩ = some (.int .u8 x10.toNat) ∧ w'.cell? ⟨g1, 11, none⟩ = some (.int .u8 x11.toNat) ∧ w'.cell? ⟨g, 8, none⟩ = some (.int .u8 x8.toNat) ∧ w'.cell? ⟨g, 9, none⟩ = some (.int .u8 x9.toNat) ∧ w'.cell? ⟨g, 10, none⟩ = some (.int .u8 x10.toNat) ∧ w'.cell? ⟨g, 11, none⟩ = some (.int .u8 x11.toNat)) (first | exact HKW | exact HK.out _ hb6) (fail)
      have hB17 := hb6.drew
      have hBr := hBr.drew
      generalize w6.drew = w17 at *
      go_upto_region 18 with (fail)
      have HKW := HK.out w17.drew (hB17.drew)
      go_region_held3 (fun w' => w'.cell? ⟨g1, 8, none⟩ = some (.int .u8 v.toNat) ∧ w'.cell? ⟨g1, 9, none⟩ = some (.int .u8 x9.toNat) ∧ w'.cell? ⟨g1, 10, none⟩ = some (.int .u8 x10.toNat) ∧ w'.cell? ⟨g1, 11, none⟩ = some (.int .u8 x11.toNat) ∧ w'.cell? ⟨g, 8, none⟩ = some (.int .u8 x8.toNat) ∧ w'.cell? ⟨g, 9, none⟩ = some (.int .u8 x9.toNat) ∧ w'.cell? ⟨g, 10, none⟩ = some (.int .u8 x10.toNat) ∧ w'.cell? ⟨g, 11, none⟩ = some (.int .u8 x11.toNat)) (first | exact HKW | exact HK.out _ hB17) (fail)
      have hB18 := hB17.drew
      have hBr := hBr.drew
      generalize w17.drew = w18 at *
      go_upto_region 20 with (fail)
      have HKW := HK.out w18.drew (hB18.drew)
      go_region_held3 (fun w' => w'.cell? ⟨g1, 8, none⟩ = some (.int .u8 v.toNat) ∧ w'.cell? ⟨g1, 9, none⟩ = some (.int .u8 x9.toNat) ∧ w'.cell? ⟨g1, 10, none⟩ = some (.int .u8 x10.toNat) ∧ w'.cell? ⟨g1, 11, none⟩ = some (.int .u8 x11.toNat) ∧ w'.cell? ⟨g, 8, none⟩ = some (.int .u8 x8.toNat) ∧ w'.cell? ⟨g, 9, none⟩ = some (.int .u8 x9.toNat) ∧ w'.cell? ⟨g, 10, none⟩ = some (.int .u8 x10.toNat) ∧ w'.cell? ⟨g, 11, none⟩ = some (.int .u8 x11.toNat)) (first | exact HKW | exact HK.out _ hB18) (fail)
      have hB20 := hB18.drew
      have hBr := hBr.drew
      generalize w18.drew = w20 at *
      go_wp2_with (go_at_call 10; (with_reducible refine Calls.mono (AW.out _ hBr) ?_); rintro en wZ ⟨rfl, hBF⟩)
      go_ret
      exact ⟨rfl, hBF⟩
  · obtain ⟨x8, hx8⟩ : ∃ x, X[8]'(by omega) = x := ⟨_, rfl⟩
    obtain ⟨x9, hx9⟩ : ∃ x, X[9]'(by omega) = x := ⟨_, rfl⟩
    obtain ⟨x10, hx10⟩ : ∃ x, X[10]'(by omega) = x := ⟨_, rfl⟩
    obtain ⟨x11, hx11⟩ : ∃ x, X[11]'(by omega) = x := ⟨_, rfl⟩
    have hl8 := x8.toNat_lt
    have hl9 := x9.toNat_lt
    have hl10 := x10.toNat_lt
    have hl11 := x11.toNat_lt
    have hlv := v.toNat_lt
    have hLs := (hdr_ok hh).2.2.2.2.1
    rw [leN_at (by omega), hx8, hx9, hx10, hx11] at hLs
    have hYs := leN_at (X := X.set 9 v) (by simp; omega)
    simp only [List.getElem_set, hx8, hx9, hx10, hx11] at hYs
    simp at hYs
    have hsz' := hdr_size hh (k := 9) (v := v) (by decide) (by decide) (by omega) hv
    have hvx : v.toNat ≠ x9.toNat := fun e => hv ((UInt8.toNat_inj.1 e).trans hx9.symm)
    rcases Nat.lt_or_ge x9.toNat v.toNat with hlt | hge9
    · have hp := par_hdr (E := 52) (by rw [hsz', hYs, if_pos (by omega)]) (by decide)
      have P1 := Lib.hid (parse_par (L := n1) hp (by decide) (by simp; omega) (some ⟨g1, 0, none⟩) c1 w5 hY hle1 (by omega))
      have cy8 : w5.cell? ⟨g1, 8, none⟩ = some (.int .u8 x8.toNat) := by
        have := hR.cell 8 (by simp; omega)
        simpa [List.getElem_set, hx8] using this
      have cy9 : w5.cell? ⟨g1, 9, none⟩ = some (.int .u8 v.toNat) := by
        have := hR.cell 9 (by simp; omega)
        simpa [List.getElem_set, hx9] using this
      have cy10 : w5.cell? ⟨g1, 10, none⟩ = some (.int .u8 x10.toNat) := by
        have := hR.cell 10 (by simp; omega)
        simpa [List.getElem_set, hx10] using this
      have cy11 : w5.cell? ⟨g1, 11, none⟩ = some (.int .u8 x11.toNat) := by
        have := hR.cell 11 (by simp; omega)
        simpa [List.getElem_set, hx11] using this
      obtain ⟨b', o', e', -, hcel⟩ := (hI.below hb).at_ (by omega)
      cases e'
      have cx8 : w5.cell? ⟨g, 8, none⟩ = some (.int .u8 x8.toNat) := by
        have := hcel 8 (by omega)
        rw [Nat.zero_add, hx8] at this
        exact this
      have cx9 : w5.cell? ⟨g, 9, none⟩ = some (.int .u8 x9.toNat) := by
        have := hcel 9 (by omega)
        rw [Nat.zero_add, hx9] at this
        exact this
      have cx10 : w5.cell? ⟨g, 10, none⟩ = some (.int .u8 x10.toNat) := by
        have := hcel 10 (by omega)
        rw [Nat.zero_add, hx10] at this
        exact this
      have cx11 : w5.cell? ⟨g, 11, none⟩ = some (.int .u8 x11.toNat) := by
        have := hcel 11 (by omega)
        rw [Nat.zero_add, hx11] at this
        exact this
      have HK := Lib.hid (fun (w' : World) (hb : Below w5.heap.size w5 w') => (show w'.cell? ⟨g1, 8, none⟩ = some (.int .u8 x8.toNat) ∧ w'.cell? ⟨g1, 9, none⟩ = some (.int .u8 v.toNat) ∧ w'.cell? ⟨g1, 10, none⟩ = some (.int .u8 x10.toNat) ∧ w'.cell? ⟨g1, 11, none⟩ = some (.int .u8 x11.toNat) ∧ w'.cell? ⟨g, 8, none⟩ = some (.int .u8 x8.toNat) ∧ w'.cell? ⟨g, 9, none⟩ = some (.int .u8 x9.toNat) ∧ w'.cell? ⟨g, 10, none⟩ = some (.int .u8 x10.toNat) ∧ w'.cell? ⟨g, 11, none⟩ = some (.int .u8 x11.toNat) from ⟨(hb.cell (p := ⟨g1, 8, none⟩) (block_lt_of_cell cy8)).trans cy8, (hb.cell (p := ⟨g1, 9, none⟩) (block_lt_of_cell cy9)).trans cy9, (hb.cell (p := ⟨g1, 10, none⟩) (block_lt_of_cell cy10)).trans cy10, (hb.cell (p := ⟨g1, 11, none⟩) (block_lt_of_cell cy11)).trans cy11, (hb.cell (p := ⟨g, 8, none⟩) (block_lt_of_cell cx8)).trans cx8, (hb.cell (p := ⟨g, 9, none⟩) (block_lt_of_cell cx9)).trans cx9, (hb.cell (p := ⟨g, 10, none⟩) (block_lt_of_cell cx10)).trans cx10, (hb.cell (p := ⟨g, 11, none⟩) (block_lt_of_cell cx11)).trans cx11⟩))
      have q0 : ((v.toNat : Int) != (x9.toNat : Int)) = true := by simp; omega
      have q1 : decide ((x9.toNat : Int) < (v.toNat : Int)) = true := decide_eq_true (by omega)
      have q1n : decide (x9.toNat < v.toNat) = true := decide_eq_true (by omega)
      have q0n : (v.toNat != x9.toNat) = true := by simp; omega
      have q0d : (v.toNat = x9.toNat) = False := eq_false hvx
      have q0e : (v = x9) = False := eq_false (fun e => hvx (by rw [e]))
      have q0f : (v == x9) = false := by simpa using q0e
      clear hp hY hR hsz' hYs hx8 hx9 hx10 hx11 hcel cx8 cx9 cx10 cx11 cy8 cy9 cy10 cy11 hv
      go_upto_region 17 with (go_at_call 13; (with_reducible refine P1.out.mono ?_); rintro en w6 ⟨rfl, hb6⟩)
      have hb0 := hb
      have hb := hb.trans (hb6.mono hb.size)
      have hBr := hB.trans (hb.mono hB.size)
      have bd8 : (8 : Int) < (n1 : Int) := by omega
      have bd9 : (9 : Int) < (n1 : Int) := by omega
      have bd10 : (10 : Int) < (n1 : Int) := by omega
      have bd11 : (11 : Int) < (n1 : Int) := by omega
      have HKW := HK.out w6.drew (hb6.drew)
      go_region_held3 (fun w' => w'.cell? ⟨g1, 8, none⟩ = some (.int .u8 x8.toNat) ∧ w'.cell? ⟨g1, 9, none⟩ = some (.int .u8 v.toNat) ∧ w'.cell? ⟨g1, 10, none⟩ = some (.int .u8 x10.toNat) ∧ w'.cell? ⟨g1, 11, none⟩ = some (.int .u8 x11.toNat) ∧ w'.cell? ⟨g, 8, none⟩ = some (.int .u8 x8.toNat) ∧ w'.cell? ⟨g, 9, none⟩ = some (.int .u8 x9.toNat) ∧ w'.cell? ⟨g, 10, none⟩ = some (.int .u8 x10.toNat) ∧ w'.cell? ⟨g, 11, none⟩ = some (.int .u8 x11.toNat)) (first | exact HKW | exact HK.out _ hb6) (fail)
      have hB17 := hb6.drew
      have hBr := hBr.drew
      generalize w6.drew = w17 at *
      go_upto_region 18 with (fail)
      have HKW := HK.out w17.drew (hB17.drew)
      go_region_held3 (fun w' => w'.cell? ⟨g1, 8, none⟩ = some (.int .u8 x8.toNat) ∧ w'.cell? ⟨g1, 9, none⟩ = some (.int .u8 v.toNat) ∧ w'.cell? ⟨g1, 10, none⟩ = some (.int .u8 x10.toNat) ∧ w'.cell? ⟨g1, 11, none⟩ = some (.int .u8 x11.toNat) ∧ w'.cell? ⟨g, 8, none⟩ = some (.int .u8 x8.toNat) ∧ w'.cell? ⟨g, 9, none⟩ = some (.int .u8 x9.toNat) ∧ w'.cell? ⟨g, 10, none⟩ = some (.int .u8 x10.toNat) ∧ w'.cell? ⟨g, 11, none⟩ = some (.int .u8 x11.toNat)) (first | exact HKW | exact HK.out _ hB17) (fail)
      have hB18 := hB17.drew
      have hBr := hBr.drew
      generalize w17.drew = w18 at *
      go_upto_region 19 with (fail)
      have HKW := HK.out w18.drew (hB18.drew)
      go_region_held3 (fun w' => w'.cell? ⟨g1, 8, none⟩ = some (.int .u8 x8.toNat) ∧ w'.cell? ⟨g1, 9, none⟩ = some (.int .u8 v.toNat) ∧ w'.cell? ⟨g1, 10, none⟩ = some (.int .u8 x10.toNat) ∧ w'.cell? ⟨g1, 11, none⟩ = some (.int .u8 x11.toNat) ∧ w'.cell? ⟨g, 8, none⟩ = some (.int .u8 x8.toNat) ∧ w'.cell? ⟨g, 9, none⟩ = some (.int .u8 x9.toNat) ∧ w'.cell? ⟨g, 10, none⟩ = some (.int .u8 x10.toNat) ∧ w'.cell? ⟨g, 11, none⟩ = some (.int .u8 x11.toNat)) (first | exact HKW | exact HK.out _ hB18) (fail)
      have hB19 := hB18.drew
      have hBr := hBr.drew
      generalize w18.drew = w19 at *
      go_upto_region 20 with (fail)
      have HKW := HK.out w19.drew (hB19.drew)
      go_region_held3 (fun w' => w'.cell? ⟨g1, 8, none⟩ = some (.int .u8 x8.toNat) ∧ w'.cell? ⟨g1, 9, none⟩ = some (.int .u8 v.toNat) ∧ w'.cell? ⟨g1, 10, none⟩ = some (.int .u8 x10.toNat) ∧ w'.cell? ⟨g1, 11, none⟩ = some (.int .u8 x11.toNat) ∧ w'.cell? ⟨g, 8, none⟩ = some (.int .u8 x8.toNat) ∧ w'.cell? ⟨g, 9, none⟩ = some (.int .u8 x9.toNat) ∧ w'.cell? ⟨g, 10, none⟩ = some (.int .u8 x10.toNat) ∧ w'.cell? ⟨g, 11, none⟩ = some (.int .u8 x11.toNat)) (first | exact HKW | exact HK.out _ hB19) (fail)
      have hB20 := hB19.drew
      have hBr := hBr.drew
      generalize w19.drew = w20 at *
      go_wp2_with (go_at_call 10; (with_reducible refine Calls.mono (AW.out _ hBr) ?_); rintro en wZ ⟨rfl, hBF⟩)
      go_ret
      exact ⟨rfl, hBF⟩
    · have hp := par_hdr (E := 53) (by rw [hsz', hYs, if_neg (by omega)]) (by decide)
      have P1 := Lib.hid (parse_par (L := n1) hp (by decide) (by simp; omega) (some ⟨g1, 0, none⟩) c1 w5 hY hle1 (by omega))
      have cy8 : w5.cell? ⟨g1, 8, none⟩ = some (.int .u8 x8.toNat) := by
        have := hR.cell 8 (by simp; omega)
        simpa [List.getElem_set, hx8] using this
      have cy9 : w5.cell? ⟨g1, 9, none⟩ = some (.int .u8 v.toNat) := by
        have := hR.cell 9 (by simp; omega)
        simpa [List.getElem_set, hx9] using this
      have cy10 : w5.cell? ⟨g1, 10, none⟩ = some (.int .u8 x10.toNat) := by
        have := hR.cell 10 (by simp; omega)
        simpa [List.getElem_set, hx10] using this
      have cy11 : w5.cell? ⟨g1, 11, none⟩ = some (.int .u8 x11.toNat) := by
        have := hR.cell 11 (by simp; omega)
        simpa [List.getElem_set, hx11] using this
      obtain ⟨b', o', e', -, hcel⟩ := (hI.below hb).at_ (by omega)
      cases e'
      have cx8 : w5.cell? ⟨g, 8, none⟩ = some (.int .u8 x8.toNat) := by
        have := hcel 8 (by omega)
        rw [Nat.zero_add, hx8] at this
        exact this
      have cx9 : w5.cell? ⟨g, 9, none⟩ = some (.int .u8 x9.toNat) := by
        have := hcel 9 (by omega)
        rw [Nat.zero_add, hx9] at this
        exact this
      have cx10 : w5.cell? ⟨g, 10, none⟩ = some (.int .u8 x10.toNat) := by
        have := hcel 10 (by omega)
        rw [Nat.zero_add, hx10] at this
        exact this
      have cx11 : w5.cell? ⟨g, 11, none⟩ = some (.int .u8 x11.toNat) := by
        have := hcel 11 (by omega)
        rw [Nat.zero_add, hx11] at this
        exact this
      have HK := Lib.hid (fun (w' : World) (hb : Below w5.heap.size w5 w') => (show w'.cell? ⟨g1, 8, none⟩ = some (.int .u8 x8.toNat) ∧ w'.cell? ⟨g1, 9, none⟩ = some (.int .u8 v.toNat) ∧ w'.cell? ⟨g1, 10, none⟩ = some (.int .u8 x10.toNat) ∧ w'.cell? ⟨g1, 11, none⟩ = some (.int .u8 x11.toNat) ∧ w'.cell? ⟨g, 8, none⟩ = some (.int .u8 x8.toNat) ∧ w'.cell? ⟨g, 9, none⟩ = some (.int .u8 x9.toNat) ∧ w'.cell? ⟨g, 10, none⟩ = some (.int .u8 x10.toNat) ∧ w'.cell? ⟨g, 11, none⟩ = some (.int .u8 x11.toNat) from ⟨(hb.cell (p := ⟨g1, 8, none⟩) (block_lt_of_cell cy8)).trans cy8, (hb.cell (p := ⟨g1, 9, none⟩) (block_lt_of_cell cy9)).trans cy9, (hb.cell (p := ⟨g1, 10, none⟩) (block_lt_of_cell cy10)).trans cy10, (hb.cell (p := ⟨g1, 11, none⟩) (block_lt_of_cell cy11)).trans cy11, (hb.cell (p := ⟨g, 8, none⟩) (block_lt_of_cell cx8)).trans cx8, (hb.cell (p := ⟨g, 9, none⟩) (block_lt_of_cell cx9)).trans cx9, (hb.cell (p := ⟨g, 10, none⟩) (block_lt_of_cell cx10)).trans cx10, (hb.cell (p := ⟨g, 11, none⟩) (block_lt_of_cell cx11)).trans cx11⟩))
      have q0 : ((v.toNat : Int) != (x9.toNat : Int)) = true := by simp; omega
      have q1 : decide ((x9.toNat : Int) < (v.toNat : Int)) = false := decide_eq_false (by omega)
      have q1n : decide (x9.toNat < v.toNat) = false := decide_eq_false (by omega)
      have q0n : (v.toNat != x9.toNat) = true := by simp; omega
      have q0d : (v.toNat = x9.toNat) = False := eq_false hvx
      have q0e : (v = x9) = False := eq_false (fun e => hvx (by rw [e]))
      have q0f : (v == x9) = false := by simpa using q0e
      clear hp hY hR hsz' hYs hx8 hx9 hx10 hx11 hcel cx8 cx9 cx10 cx11 cy8 cy9 cy10 cy11 hv
      go_upto_region 17 with (go_at_call 13; (with_reducible refine P1.out.mono ?_); rintro en w6 ⟨rfl, hb6⟩)
      have hb0 := hb
      have hb := hb.trans (hb6.mono hb.size)
      have hBr := hB.trans (hb.mono hB.size)
      have bd8 : (8 : Int) < (n1 : Int) := by omega
      have bd9 : (9 : Int) < (n1 : Int) := by omega
      have bd10 : (10 : Int) < (n1 : Int) := by omega
      have bd11 : (11 : Int) < (n1 : Int) := by omega
      have HKW := HK.out w6.drew (hb6.drew)
      go_region_held3 (fun w' => w'.cell? ⟨g1, 8, none⟩ = some (.int .u8 x8.toNat) ∧ w'.cell? ⟨g1, 9, none⟩ = some (.int .u8 v.toNat) ∧ w'.cell? ⟨g1, 10, none⟩ = some (.int .u8 x10.toNat) ∧ w'.cell? ⟨g1, 11, none⟩ = some (.int .u8 x11.toNat) ∧ w'.cell? ⟨g, 8, none⟩ = some (.int .u8 x8.toNat) ∧ w'.cell? ⟨g, 9, none⟩ = some (.int .u8 x9.toNat) ∧ w'.cell? ⟨g, 10, none⟩ = some (.int .u8 x10.toNat) ∧ w'.cell? ⟨g, 11, none⟩ = some (.int .u8 x11.toNat)) (first | exact HKW | exact HK.out _ hb6) (fail)
      have hB17 := hb6.drew
      have hBr := hBr.drew
      generalize w6.drew = w17 at *
      go_upto_region 18 with (fail)
      have HKW := HK.out w17.drew (hB17.drew)
      go_region_held3 (fun w' => w'.cell? ⟨g1, 8, none⟩ = some (.int .u8 x8.toNat) ∧ w'.cell? ⟨g1, 9, none⟩ = some (.int .u8 v.toNat) ∧ w'.cell? ⟨g1, 10, none⟩ = some (.int .u8 x10.toNat) ∧ w'.cell? ⟨g1, 11, none⟩ = some (.int .u8 x11.toNat) ∧ w'.cell? ⟨g, 8, none⟩ = some (.int .u8 x8.toNat) ∧ w'.cell? ⟨g, 9, none⟩ = some (.int .u8 x9.toNat) ∧ w'.cell? ⟨g, 10, none⟩ = some (.int .u8 x10.toNat) ∧ w'.cell? ⟨g, 11, none⟩ = some (.int .u8 x11.toNat)) (first | exact HKW | exact HK.out _ hB17) (fail)
      have hB18 := hB17.drew
      have hBr := hBr.drew
      generalize w17.drew = w18 at *
      go_upto_region 19 with (fail)
      have HKW := HK.out w18.drew (hB18.drew)
      go_region_held3 (fun w' => w'.cell? ⟨g1, 8, none⟩ = some (.int .u8 x8.toNat) ∧ w'.cell? ⟨g1, 9, none⟩ = some (.int .u8 v.toNat) ∧ w'.cell? ⟨g1, 10, none⟩ = some (.int .u8 x10.toNat) ∧ w'.cell? ⟨g1, 11, none⟩ = some (.int .u8 x11.toNat) ∧ w'.cell? ⟨g, 8, none⟩ = some (.int .u8 x8.toNat) ∧ w'.cell? ⟨g, 9, none⟩ = some (.int .u8 x9.toNat) ∧ w'.cell? ⟨g, 10, none⟩ = some (.int .u8 x10.toNat) ∧ w'.cell? ⟨g, 11, none⟩ = some (.int .u8 x11.toNat)) (first | exact HKW | exact HK.out _ hB18) (fail)
      have hB19 := hB18.drew
      have hBr := hBr.drew
      generalize w18.drew = w19 at *
      go_upto_region 20 with (fail)
      have HKW := HK.out w19.drew (hB19.drew)
      go_region_held3 (fun w' => w'.cell? ⟨g1, 8, none⟩ = some (.int .u8 x8.toNat) ∧ w'.cell? ⟨g1, 9, none⟩ = some (.int .u8 v.toNat) ∧ w'.cell? ⟨g1, 10, none⟩ = some (.int .u8 x10.toNat) ∧ w'.cell? ⟨g1, 11, none⟩ = some (.int .u8 x11.toNat) ∧ w'.cell? ⟨g, 8, none⟩ = some (.int .u8 x8.toNat) ∧ w'.cell? ⟨g, 9, none⟩ = some (.int .u8 x9.toNat) ∧ w'.cell? ⟨g, 10, none⟩ = some (.int .u8 x10.toNat) ∧ w'.cell? ⟨g, 11, none⟩ = some (.int .u8 x11.toNat)) (first | exact HKW | exact HK.out _ hB19) (fail)
      have hB20 := hB19.drew
      have hBr := hBr.drew
      generalize w19.drew = w20 at *
      go_wp2_with (go_at_call 10; (with_reducible refine Calls.mono (AW.out _ hBr) ?_); rintro en wZ ⟨rfl, hBF⟩)
      go_ret
      exact ⟨rfl, hBF⟩
  · obtain ⟨x8, hx8⟩ : ∃ x, X[8]'(by omega) = x := ⟨_, rfl⟩
    obtain ⟨x9, hx9⟩ : ∃ x, X[9]'(by omega) = x := ⟨_, rfl⟩
    obtain ⟨x10, hx10⟩ : ∃ x, X[10]'(by omega) = x := ⟨_, rfl⟩
    obtain ⟨x11, hx11⟩ : ∃ x, X[11]'(by omega) = x := ⟨_, rfl⟩
    have hl8 := x8.toNat_lt
    have hl9 := x9.toNat_lt
    have hl10 := x10.toNat_lt
    have hl11 := x11.toNat_lt
    have hlv := v.toNat_lt
    have hLs := (hdr_ok hh).2.2.2.2.1
    rw [leN_at (by omega), hx8, hx9, hx10, hx11] at hLs
    have hYs := leN_at (X := X.set 10 v) (by simp; omega)
    simp only [List.getElem_set, hx8, hx9, hx10, hx11] at hYs
    simp at hYs
    have hsz' := hdr_size hh (k := 10) (v := v) (by decide) (by decide) (by omega) hv
    have hvx : v.toNat ≠ x10.toNat := fun e => hv ((UInt8.toNat_inj.1 e).trans hx10.symm)
    have hp := par_hdr (E := 52) (by rw [hsz', hYs, if_pos (by omega)]) (by decide)
    have P1 := Lib.hid (parse_par (L := n1) hp (by decide) (by simp; omega) (some ⟨g1, 0, none⟩) c1 w5 hY hle1 (by omega))
    have cy8 : w5.cell? ⟨g1, 8, none⟩ = some (.int .u8 x8.toNat) := by
      have := hR.cell 8 (by simp; omega)
      simpa [List.getElem_set, hx8] using this
    have cy9 : w5.cell? ⟨g1, 9, none⟩ = some (.int .u8 x9.toNat) := by
      have := hR.cell 9 (by simp; omega)
      simpa [List.getElem_set, hx9] using this
    have cy10 : w5.cell? ⟨g1, 10, none⟩ = some (.int .u8 v.toNat) := by
      have := hR.cell 10 (by simp; omega)
      simpa [List.getElem_set, hx10] using this
    have cy11 : w5.cell? ⟨g1, 11, none⟩ = some (.int .u8 x11.toNat) := by
      have := hR.cell 11 (by simp; omega)
      simpa [List.getElem_set, hx11] using this
    obtain ⟨b', o', e', -, hcel⟩ := (hI.below hb).at_ (by omega)
    cases e'
    have cx8 : w5.cell? ⟨g, 8, none⟩ = some (.int .u8 x8.toNat) := by
      have := hcel 8 (by omega)
      rw [Nat.zero_add, hx8] at this
      exact this
    have cx9 : w5.cell? ⟨g, 9, none⟩ = some (.int .u8 x9.toNat) := by
      have := hcel 9 (by omega)
      rw [Nat.zero_add, hx9] at this
      exact this
    have cx10 : w5.cell? ⟨g, 10, none⟩ = some (.int .u8 x10.toNat) := by
      have := hcel 10 (by omega)
      rw [Nat.zero_add, hx10] at this
      exact this
    have cx11 : w5.cell? ⟨g, 11, none⟩ = some (.int .u8 x11.toNat) := by
      have := hcel 11 (by omega)
      rw [Nat.zero_add, hx11] at this
      exact this
    have HK := Lib.hid (fun (w' : World) (hb : Below w5.heap.size w5 w') => (show w'.cell? ⟨g1, 8, none⟩ = some (.int .u8 x8.toNat) ∧ w'.cell? ⟨g1, 9, none⟩ = some (.int .u8 x9.toNat) ∧ w'.cell? ⟨g1, 10, none⟩ = some (.int .u8 v.toNat) ∧ w'.cell? ⟨g1, 11, none⟩ = some (.int .u8 x11.toNat) ∧ w'.cell? ⟨g, 8, none⟩ = some (.int .u8 x8.toNat) ∧ w'.cell? ⟨g, 9, none⟩ = some (.int .u8 x9.toNat) ∧ w'.cell? ⟨g, 10, none⟩ = some (.int .u8 x10.toNat) ∧ w'.cell? ⟨g, 11, none⟩ = some (.int .u8 x11.toNat) from ⟨(hb.cell (p := ⟨g1, 8, none⟩) (block_lt_of_cell cy8)).trans cy8, (hb.cell (p := ⟨g1, 9, none⟩) (block_lt_of_cell cy9)).trans cy9, (hb.cell (p := ⟨g1, 10, none⟩) (block_lt_of_cell cy10)).trans cy10, (hb.cell (p := ⟨g1, 11, none⟩) (block_lt_of_cell cy11)).trans cy11, (hb.cell (p := ⟨g, 8, none⟩) (block_lt_of_cell cx8)).trans cx8, (hb.cell (p := ⟨g, 9, none⟩) (block_lt_of_cell cx9)).trans cx9, (hb.cell (p := ⟨g, 10, none⟩) (block_lt_of_cell cx10)).trans cx10, (hb.cell (p := ⟨g, 11, none⟩) (block_lt_of_cell cx11)).trans cx11⟩))
    have q0 : ((v.toNat : Int) != (x10.toNat : Int)) = true := by simp; omega
    have q0n : (v.toNat != x10.toNat) = true := by simp; omega
    have q0d : (v.toNat = x10.toNat) = False := eq_false hvx
    have q0e : (v = x10) = False := eq_false (fun e => hvx (by rw [e]))
    have q0f : (v == x10) = false := by simpa using q0e
    clear hp hY hR hsz' hYs hx8 hx9 hx10 hx11 hcel cx8 cx9 cx10 cx11 cy8 cy9 cy10 cy11 hv
    go_upto_region 17 with (go_at_call 13; (with_reducible refine P1.out.mono ?_); rintro en w6 ⟨rfl, hb6⟩)
    have hb0 := hb
    have hb := hb.trans (hb6.mono hb.size)
    have hBr := hB.trans (hb.mono hB.size)
    have bd8 : (8 : Int) < (n1 : Int) := by omega
    have bd9 : (9 : Int) < (n1 : Int) := by omega
    have bd10 : (10 : Int) < (n1 : Int) := by omega
    have bd11 : (11 : Int) < (n1 : Int) := by omega
    have HKW := HK.out w6.drew (hb6.drew)
    go_region_held3 (fun w' => w'.cell? ⟨g1, 8, none⟩ = some (.int .u8 x8.toNat) ∧ w'.cell? ⟨g1, 9, none⟩ = some (.int .u8 x9.toNat) ∧ w'.cell? ⟨g1, 10, none⟩ = some (.int .u8 v.toNat) ∧ w'.cell? ⟨g1, 11, none⟩ = some (.int .u8 x11.toNat) ∧ w'.cell? ⟨g, 8, none⟩ = some (.int .u8 x8.toNat) ∧ w'.cell? ⟨g, 9, none⟩ = some (.int .u8 x9.toNat) ∧ w'.cell? ⟨g, 10, none⟩ = some (.int .u8 x10.toNat) ∧ w'.cell? ⟨g, 11, none⟩ = some (.int .u8 x11.toNat)) (first | exact HKW | exact HK.out _ hb6) (fail)
    have hB17 := hb6.drew
    have hBr := hBr.drew
    generalize w6.drew = w17 at *
    go_upto_region 18 with (fail)
    have HKW := HK.out w17.drew (hB17.drew)
    go_region_held3 (fun w' => w'.cell? ⟨g1, 8, none⟩ = some (.int .u8 x8.toNat) ∧ w'.cell? ⟨g1, 9, none⟩ = some (.int .u8 x9.toNat) ∧ w'.cell? ⟨g1, 10, none⟩ = some (.int .u8 v.toNat) ∧ w'.cell? ⟨g1, 11, none⟩ = some (.int .u8 x11.toNat) ∧ w'.cell? ⟨g, 8, none⟩ = some (.int .u8 x8.toNat) ∧ w'.cell? ⟨g, 9, none⟩ = some (.int .u8 x9.toNat) ∧ w'.cell? ⟨g, 10, none⟩ = some (.int .u8 x10.toNat) ∧ w'.cell? ⟨g, 11, none⟩ = some (.int .u8 x11.toNat)) (first | exact HKW | exact HK.out _ hB17) (fail)
    have hB18 := hB17.drew
    have hBr := hBr.drew
    generalize w17.drew = w18 at *
    go_upto_region 20 with (fail)
    refine wp_region_told (n := 134) (fun w9 => Below w5.heap.size w5 w9) (fun _ _ => True) (by kernel_rfl) (by kernel_rfl) (by rfl) hB18.drew ?_
    refine walk_pure (v := ?_) (fun w => trivial) (fun _ => rfl) ?_ ?_; rotate_left; (focus (intro us w9 hS9 hF; clear hF; obtain ⟨k1, k2, k3, k4, k5, k6, k7, k8⟩ := HK.out w9 hS9; clear hS9; go_simp; (try with_reducible rfl); done)); simp only [Act.put, List.setIfInBounds_toArray, List.set_cons_zero, List.set_cons_succ, Nat.reduceAdd]
    refine walk_pure (v := ?_) (fun w => trivial) (fun _ => rfl) ?_ ?_; rotate_left; (focus (intro us w9 hS9 hF; clear hF; obtain ⟨k1, k2, k3, k4, k5, k6, k7, k8⟩ := HK.out w9 hS9; clear hS9; go_simp; (try with_reducible rfl); done)); simp only [Act.put, List.setIfInBounds_toArray, List.set_cons_zero, List.set_cons_succ, Nat.reduceAdd]
    refine walk_pure (v := ?_) (fun w => trivial) (fun _ => rfl) ?_ ?_; rotate_left; (focus (intro us w9 hS9 hF; clear hF; obtain ⟨k1, k2, k3, k4, k5, k6, k7, k8⟩ := HK.out w9 hS9; clear hS9; go_simp; (try with_reducible rfl); done)); simp only [Act.put, List.setIfInBounds_toArray, List.set_cons_zero, List.set_cons_succ, Nat.reduceAdd]
    refine walk_pure (v := ?_) (fun w => trivial) (fun _ => rfl) ?_ ?_; rotate_left; (focus (intro us w9 hS9 hF; clear hF; obtain ⟨k1, k2, k3, k4, k5, k6, k7, k8⟩ := HK.out w9 hS9; clear hS9; go_simp; (try with_reducible rfl); done)); simp only [Act.put, List.setIfInBounds_toArray, List.set_cons_zero, List.set_cons_succ, Nat.reduceAdd]
    refine walk_pure (v := ?_) (fun w => trivial) (fun _ => rfl) ?_ ?_; rotate_left; (focus (intro us w9 hS9 hF; clear hF; obtain ⟨k1, k2, k3, k4, k5, k6, k7, k8⟩ := HK.out w9 hS9; clear hS9; go_simp; (try with_reducible rfl); done)); simp only [Act.put, List.setIfInBounds_toArray, List.set_cons_zero, List.set_cons_succ, Nat.reduceAdd]
    refine walk_pure (v := ?_) (fun w => trivial) (fun _ => rfl) ?_ ?_; rotate_left; (focus (intro us w9 hS9 hF; clear hF; obtain ⟨k1, k2, k3, k4, k5, k6, k7, k8⟩ := HK.out w9 hS9; clear hS9; go_simp; (try with_reducible rfl); done)); simp only [Act.put, List.setIfInBounds_toArray, List.set_cons_zero, List.set_cons_succ, Nat.reduceAdd]
    refine walk_pure (v := .bool true) (fun w => trivial) (fun _ => rfl) ?_ ?_; (focus (intro us w9 hS9 hF; clear hF; obtain ⟨k1, k2, k3, k4, k5, k6, k7, k8⟩ := HK.out w9 hS9; clear hS9; go_simp; (try with_reducible rfl); done)); simp only [Act.put, List.setIfInBounds_toArray, List.set_cons_zero, List.set_cons_succ, Nat.reduceAdd]
    refine walk_pure (v := .bool true) (fun w => trivial) (fun _ => rfl) ?_ ?_; (focus (intro us w9 hS9 hF; clear hF; obtain ⟨k1, k2, k3, k4, k5, k6, k7, k8⟩ := HK.out w9 hS9; clear hS9; go_simp; (try with_reducible rfl); done)); simp only [Act.put, List.setIfInBounds_toArray, List.set_cons_zero, List.set_cons_succ, Nat.reduceAdd]
    refine walk_skip (fun w => trivial) (fun _ => rfl) ?_; simp only [Act.put, List.setIfInBounds_toArray, List.set_cons_zero, List.set_cons_succ, Nat.reduceAdd]
    refine walk_skip (fun w => trivial) (fun _ => rfl) ?_; simp only [Act.put, List.setIfInBounds_toArray, List.set_cons_zero, List.set_cons_succ, Nat.reduceAdd]
    refine walk_skip (fun w => trivial) (fun _ => rfl) ?_; simp only [Act.put, List.setIfInBounds_toArray, List.set_cons_zero, List.set_cons_succ, Nat.reduceAdd]
    refine walk_skip (fun w => trivial) (fun _ => rfl) ?_; simp only [Act.put, List.setIfInBounds_toArray, List.set_cons_zero, List.set_cons_succ, Nat.reduceAdd]
    refine walk_skip (fun w => trivial) (fun _ => rfl) ?_; simp only [Act.put, List.setIfInBounds_toArray, List.set_cons_zero, List.set_cons_succ, Nat.reduceAdd]
    refine walk_skip (fun w => trivial) (fun _ => rfl) ?_; simp only [Act.put, List.setIfInBounds_toArray, List.set_cons_zero, List.set_cons_succ, Nat.reduceAdd]
    refine walk_skip (fun w => trivial) (fun _ => rfl) ?_; simp only [Act.put, List.setIfInBounds_toArray, List.set_cons_zero, List.set_cons_succ, Nat.reduceAdd]
    refine walk_pure (v := .bool true) (fun w => trivial) (fun _ => rfl) ?_ ?_; (focus (intro us w9 hS9 hF; clear hF; obtain ⟨k1, k2, k3, k4, k5, k6, k7, k8⟩ := HK.out w9 hS9; clear hS9; go_simp; (try with_reducible rfl); done)); simp only [Act.put, List.setIfInBounds_toArray, List.set_cons_zero, List.set_cons_succ, Nat.reduceAdd]
    refine walk_done fun us w8 hS8 hF => ?_
    clear hF
    have hBr := hB.trans ((hb0.trans (hS8.mono hb0.size)).mono hB.size)
    go_wp2_with (go_at_call 10; (with_reducible refine Calls.mono (AW.out _ hBr) ?_); rintro en wZ ⟨rfl, hBF⟩)
    go_ret
    exact ⟨rfl, hBF⟩
  · obtain ⟨x8, hx8⟩ : ∃ x, X[8]'(by omega) = x := ⟨_, rfl⟩
    obtain ⟨x9, hx9⟩ : ∃ x, X[9]'(by omega) = x := ⟨_, rfl⟩
    obtain ⟨x10, hx10⟩ : ∃ x, X[10]'(by omega) = x := ⟨_, rfl⟩
    obtain ⟨x11, hx11⟩ : ∃ x, X[11]'(by omega) = x := ⟨_, rfl⟩
    have hl8 := x8.toNat_lt
    have hl9 := x9.toNat_lt
    have hl10 := x10.toNat_lt
    have hl11 := x11.toNat_lt
    have hlv := v.toNat_lt
    have hLs := (hdr_ok hh).2.2.2.2.1
    rw [leN_at (by omega), hx8, hx9, hx10, hx11] at hLs
    have hYs := leN_at (X := X.set 11 v) (by simp; omega)
    simp only [List.getElem_set, hx8, hx9, hx10, hx11] at hYs
    simp at hYs
    have hsz' := hdr_size hh (k := 11) (v := v) (by decide) (by decide) (by omega) hv
    have hvx : v.toNat ≠ x11.toNat := fun e => hv ((UInt8.toNat_inj.1 e).trans hx11.symm)
    have hp := par_hdr (E := 52) (by rw [hsz', hYs, if_pos (by omega)]) (by decide)
    have P1 := Lib.hid (parse_par (L := n1) hp (by decide) (by simp; omega) (some ⟨g1, 0, none⟩) c1 w5 hY hle1 (by omega))
    have cy8 : w5.cell? ⟨g1, 8, none⟩ = some (.int .u8 x8.toNat) := by
      have := hR.cell 8 (by simp; omega)
      simpa [List.getElem_set, hx8] using this
    have cy9 : w5.cell? ⟨g1, 9, none⟩ = some (.int .u8 x9.toNat) := by
      have := hR.cell 9 (by simp; omega)
      simpa [List.getElem_set, hx9] using this
    have cy10 : w5.cell? ⟨g1, 10, none⟩ = some (.int .u8 x10.toNat) := by
      have := hR.cell 10 (by simp; omega)
      simpa [List.getElem_set, hx10] using this
    have cy11 : w5.cell? ⟨g1, 11, none⟩ = some (.int .u8 v.toNat) := by
      have := hR.cell 11 (by simp; omega)
      simpa [List.getElem_set, hx11] using this
    obtain ⟨b', o', e', -, hcel⟩ := (hI.below hb).at_ (by omega)
    cases e'
    have cx8 : w5.cell? ⟨g, 8, none⟩ = some (.int .u8 x8.toNat) := by
      have := hcel 8 (by omega)
      rw [Nat.zero_add, hx8] at this
      exact this
    have cx9 : w5.cell? ⟨g, 9, none⟩ = some (.int .u8 x9.toNat) := by
      have := hcel 9 (by omega)
      rw [Nat.zero_add, hx9] at this
      exact this
    have cx10 : w5.cell? ⟨g, 10, none⟩ = some (.int .u8 x10.toNat) := by
      have := hcel 10 (by omega)
      rw [Nat.zero_add, hx10] at this
      exact this
    have cx11 : w5.cell? ⟨g, 11, none⟩ = some (.int .u8 x11.toNat) := by
      have := hcel 11 (by omega)
      rw [Nat.zero_add, hx11] at this
      exact this
    have HK := Lib.hid (fun (w' : World) (hb : Below w5.heap.size w5 w') => (show w'.cell? ⟨g1, 8, none⟩ = some (.int .u8 x8.toNat) ∧ w'.cell? ⟨g1, 9, none⟩ = some (.int .u8 x9.toNat) ∧ w'.cell? ⟨g1, 10, none⟩ = some (.int .u8 x10.toNat) ∧ w'.cell? ⟨g1, 11, none⟩ = some (.int .u8 v.toNat) ∧ w'.cell? ⟨g, 8, none⟩ = some (.int .u8 x8.toNat) ∧ w'.cell? ⟨g, 9, none⟩ = some (.int .u8 x9.toNat) ∧ w'.cell? ⟨g, 10, none⟩ = some (.int .u8 x10.toNat) ∧ w'.cell? ⟨g, 11, none⟩ = some (.int .u8 x11.toNat) from ⟨(hb.cell (p := ⟨g1, 8, none⟩) (block_lt_of_cell cy8)).trans cy8, (hb.cell (p := ⟨g1, 9, none⟩) (block_lt_of_cell cy9)).trans cy9, (hb.cell (p := ⟨g1, 10, none⟩) (block_lt_of_cell cy10)).trans cy10, (hb.cell (p := ⟨g1, 11, none⟩) (block_lt_of_cell cy11)).trans cy11, (hb.cell (p := ⟨g, 8, none⟩) (block_lt_of_cell cx8)).trans cx8, (hb.cell (p := ⟨g, 9, none⟩) (block_lt_of_cell cx9)).trans cx9, (hb.cell (p := ⟨g, 10, none⟩) (block_lt_of_cell cx10)).trans cx10, (hb.cell (p := ⟨g, 11, none⟩) (block_lt_of_cell cx11)).trans cx11⟩))
    have q0 : ((v.toNat : Int) != (x11.toNat : Int)) = true := by simp; omega
    have q0n : (v.toNat != x11.toNat) = true := by simp; omega
    have q0d : (v.toNat = x11.toNat) = False := eq_false hvx
    have q0e : (v = x11) = False := eq_false (fun e => hvx (by rw [e]))
    have q0f : (v == x11) = false := by simpa using q0e
    clear hp hY hR hsz' hYs hx8 hx9 hx10 hx11 hcel cx8 cx9 cx10 cx11 cy8 cy9 cy10 cy11 hv
    go_upto_region 17 with (go_at_call 13; (with_reducible refine P1.out.mono ?_); rintro en w6 ⟨rfl, hb6⟩)
    have hb0 := hb
    have hb := hb.trans (hb6.mono hb.size)
    have hBr := hB.trans (hb.mono hB.size)
    have bd8 : (8 : Int) < (n1 : Int) := by omega
    have bd9 : (9 : Int) < (n1 : Int) := by omega
    have bd10 : (10 : Int) < (n1 : Int) := by omega
    have bd11 : (11 : Int) < (n1 : Int) := by omega
    have HKW := HK.out w6.drew (hb6.drew)
    go_region_held3 (fun w' => w'.cell? ⟨g1, 8, none⟩ = some (.int .u8 x8.toNat) ∧ w'.cell? ⟨g1, 9, none⟩ = some (.int .u8 x9.toNat) ∧ w'.cell? ⟨g1, 10, none⟩ = some (.int .u8 x10.toNat) ∧ w'.cell? ⟨g1, 11, none⟩ = some (.int .u8 v.toNat) ∧ w'.cell? ⟨g, 8, none⟩ = some (.int .u8 x8.toNat) ∧ w'.cell? ⟨g, 9, none⟩ = some (.int .u8 x9.toNat) ∧ w'.cell? ⟨g, 10, none⟩ = some (.int .u8 x10.toNat) ∧ w'.cell? ⟨g, 11, none⟩ = some (.int .u8 x11.toNat)) (first | exact HKW | exact HK.out _ hb6) (fail)
    have hB17 := hb6.drew
    have hBr := hBr.drew
    generalize w6.drew = w17 at *
    go_upto_region 18 with (fail)
    have HKW := HK.out w17.drew (hB17.drew)
    go_region_held3 (fun w' => w'.cell? ⟨g1, 8, none⟩ = some (.int .u8 x8.toNat) ∧ w'.cell? ⟨g1, 9, none⟩ = some (.int .u8 x9.toNat) ∧ w'.cell? ⟨g1, 10, none⟩ = some (.int .u8 x10.toNat) ∧ w'.cell? ⟨g1, 11, none⟩ = some (.int .u8 v.toNat) ∧ w'.cell? ⟨g, 8, none⟩ = some (.int .u8 x8.toNat) ∧ w'.cell? ⟨g, 9, none⟩ = some (.int .u8 x9.toNat) ∧ w'.cell? ⟨g, 10, none⟩ = some (.int .u8 x10.toNat) ∧ w'.cell? ⟨g, 11, none⟩ = some (.int .u8 x11.toNat)) (first | exact HKW | exact HK.out _ hB17) (fail)
    have hB18 := hB17.drew
    have hBr := hBr.drew
    generalize w17.drew = w18 at *
    go_upto_region 20 with (fail)
    have HKW := HK.out w18.drew (hB18.drew)
    go_region_held3 (fun w' => w'.cell? ⟨g1, 8, none⟩ = some (.int .u8 x8.toNat) ∧ w'.cell? ⟨g1, 9, none⟩ = some (.int .u8 x9.toNat) ∧ w'.cell? ⟨g1, 10, none⟩ = some (.int .u8 x10.toNat) ∧ w'.cell? ⟨g1, 11, none⟩ = some (.int .u8 v.toNat) ∧ w'.cell? ⟨g, 8, none⟩ = some (.int .u8 x8.toNat) ∧ w'.cell? ⟨g, 9, none⟩ = some (.int .u8 x9.toNat) ∧ w'.cell? ⟨g, 10, none⟩ = some (.int .u8 x10.toNat) ∧ w'.cell? ⟨g, 11, none⟩ = some (.int .u8 x11.toNat)) (first | exact HKW | exact HK.out _ hB18) (fail)
    have hB20 := hB18.drew
    have hBr := hBr.drew
    generalize w18.drew = w20 at *
    go_wp2_with (go_at_call 10; (with_reducible refine Calls.mono (AW.out _ hBr) ?_); rintro en wZ ⟨rfl, hBF⟩)
    go_ret
    exact ⟨rfl, hBF⟩
  · have hp := par_hdr (hdr_sum hh hk (by omega) hkX hv) (by decide)
    have P1 := Lib.hid (parse_par (L := n1) hp (by decide) (by simp; omega) (some ⟨g1, 0, none⟩) c1 w5 hY hle1 (by omega))
    have d0 : decide (k < 4) = false := decide_eq_false (by omega)
    have d0i : decide ((k : Int) < 4) = false := decide_eq_false (by omega)
    have d1 : decide (k < 6) = false := decide_eq_false (by omega)
    have d1i : decide ((k : Int) < 6) = false := decide_eq_false (by omega)
    have d2 : decide (k < 8) = false := decide_eq_false (by omega)
    have d2i : decide ((k : Int) < 8) = false := decide_eq_false (by omega)
    have d3 : decide (k < 12) = false := decide_eq_false (by omega)
    have d3i : decide ((k : Int) < 12) = false := decide_eq_false (by omega)
    clear hp hY hR
    go_upto_region 10 with (go_at_call 13; (with_reducible refine P1.out.mono ?_); rintro en w6 ⟨rfl, hb6⟩)
    have hb := hb.trans (hb6.mono hb.size)
    have hBr := hB.trans (hb.mono hB.size)
    go_wp2_with (go_at_call 10; (with_reducible refine Calls.mono (AW.out _ hBr) ?_); rintro en wZ ⟨rfl, hBF⟩)
    go_ret
    exact ⟨rfl, hBF⟩
end Go.Proofs.YtigbmlgllgcbhaaDoor
