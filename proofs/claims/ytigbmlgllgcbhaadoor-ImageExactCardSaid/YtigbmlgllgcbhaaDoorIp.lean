/- Image: Parse. -/
import Derived.Test.YtigbmlgllgcbhaaDoorIo
import Derived.Deep.RegionHeld3
namespace Go.Proofs.YtigbmlgllgcbhaaDoor
open Go.RowKit
set_option linter.unusedVariables false
set_option linter.unusedSimpArgs false
theorem trim_le (l : List UInt8) (c : UInt8) : (Lib.trimRightB l c).length ≤ l.length := by
  unfold Lib.trimRightB
  rw [List.length_reverse]
  exact Nat.le_trans (List.dropWhile_sublist _).length_le (by rw [List.length_reverse]; exact Nat.le_refl _)
set_option maxRecDepth 100000 in
set_option maxHeartbeats 8000000 in
theorem parse_hdr (A : Option Addr) (c : Nat) (bs : List UInt8) (W : World) (hA : IsB W A bs.length bs) (hc : bs.length ≤ c) (hl : bs.length ≤ 1000000000) (hE : hdrE bs ≠ 0) : Calls Tryd.prog 13 #[.slice A bs.length c] W (ParP bs W) := by
  have HE := Lib.hid (show parE bs = hdrE bs by unfold parE; rw [if_pos hE])
  have HH := hdr A c bs W hA hc hl
  unfold HdP at HH
  have h0 : (hdrE bs != 0) = true := by simpa using hE
  have HN := Lib.hid hE
  obtain ⟨E, hEE⟩ : ∃ E, hdrE bs = E := ⟨_, rfl⟩
  rw [hEE] at HE HH h0 HN
  have HH := Lib.hid HH
  clear hE hEE
  go_enter Tryd.func13, Tryd.ntmps13
  go_wp2_with (go_at_call 31; with_reducible refine HH.out.mono ?_; rintro en w2 ⟨rfl, hb2⟩; have hB := hb2)
  go_ret2
  exact par_no HE.out HN.out hB
set_option maxRecDepth 100000 in
set_option maxHeartbeats 8000000 in
theorem parse_main (A : Option Addr) (c : Nat) (bs : List UInt8) (W : World) (hA : IsB W A bs.length bs) (hc : bs.length ≤ c) (hl : bs.length ≤ 1000000000) (hE : hdrE bs = 0) : Calls Tryd.prog 13 #[.slice A bs.length c] W (ParP bs W) := by
  have HEE := Lib.hid hE
  obtain ⟨l16, l24, -, -, -, -⟩ := hdr_ok hE
  have HH := hdr A c bs W hA hc hl
  unfold HdP at HH
  rw [hE] at HH
  have HH := Lib.hid HH
  clear hE
  obtain ⟨g, o, rfl, -, -⟩ := hA.at_ (by omega)
  have vn := leN2 bs 6
  obtain ⟨n, hn⟩ : ∃ n, cntN bs = n := ⟨_, rfl⟩
  have hn' : leN (seg bs 6 2) = n := hn
  rw [hn'] at vn
  have HN := Lib.hid hn
  clear hn
  go_enter Tryd.func13, Tryd.ntmps13
  go_upto_region 4 with (go_at_call 31; with_reducible refine HH.out.mono ?_; rintro en w2 ⟨rfl, hb2⟩; have hB := hb2)
  have hA1 := hA.below hB
  have H6 := Lib.hid (fix16 (some ⟨g, o, none⟩) c bs w2 hA1 hl (x := 6) (o := 6) rfl (by omega))
  rw [hn'] at H6
  have HNN := Lib.hid hn'
  clear hn'
  go_upto_region 5 with (go_at_call 32; with_reducible refine H6.out.mono ?_; rintro en w3 ⟨rfl, hw3⟩; subst hw3)
  clear H6 HH
  have hmul : IntKind.i64.wrap (48 * (n : Int)) = 48 * (n : Int) := by rw [IntKind.wrap_i64]; omega
  have hadd : IntKind.i64.wrap (16 + 48 * (n : Int)) = 16 + 48 * (n : Int) := by rw [IntKind.wrap_i64]; omega
  by_cases hn64 : 64 < n
  · have HE := Lib.hid (show parE bs = 54 by unfold parE; rw [if_neg (by rw [HEE.out]; exact fun h => h rfl), if_pos (by rw [HN.out]; exact .inl hn64)])
    have d1 : decide (64 < n) = true := decide_eq_true hn64
    have d1i : decide ((64 : Int) < (n : Int)) = true := decide_eq_true (by omega)
    clear hn64
    go_wp2
    go_ret2
    exact par_no HE.out (by decide) hB
  have d1 : decide (64 < n) = false := decide_eq_false hn64
  have d1i : decide ((64 : Int) < (n : Int)) = false := decide_eq_false (by omega)
  by_cases hnl : bs.length < 16 + 48 * n
  · have HE := Lib.hid (show parE bs = 54 by unfold parE; rw [if_neg (by rw [HEE.out]; exact fun h => h rfl), if_pos (by rw [HN.out]; exact .inr hnl)])
    have d2 : decide (bs.length < 16 + 48 * n) = true := decide_eq_true hnl
    have d2i : decide ((bs.length : Int) < 16 + 48 * (n : Int)) = true := decide_eq_true (by omega)
    clear hnl
    go_wp2
    go_ret2
    exact par_no HE.out (by decide) hB
  have d2 : decide (bs.length < 16 + 48 * n) = false := decide_eq_false hnl
  have d2i : decide ((bs.length : Int) < 16 + 48 * (n : Int)) = false := decide_eq_false (by omega)
  have HCN := Lib.hid (show ¬ (64 < cntN bs ∨ bs.length < 16 + 48 * cntN bs) by rw [HN.out]; omega)
  go_upto_region 9 with (fail)
  clear d1 d1i d2 d2i hmul hadd
  go_loopw [7, 43] (fun v i wr => ∃ (j : Nat) (A1 : Option Addr) (e1 : Nat) (qs : List Mq), j ≤ n ∧ i = .int .i64 j ∧ v = .slice A1 j e1 ∧ OwnMs wr W.heap.size A1 j e1 qs (rdMs bs j) ∧ Below W.heap.size W wr ∧ ∀ k, k < j → rdOk bs k) (fun _ i _ => n - (intOf i).toNat)
  case atStart => exact ⟨0, none, 0, [], by omega, rfl, rfl, OwnMs.nil _ _, hB, fun k hk => by omega⟩
  case round =>
    clear hB hA1
    obtain ⟨j, A1, e1, qs, hj, rfl, rfl, ho, hB, hall⟩ := hrel
    have HAL := Lib.hid hall
    clear hall
    have hA1 := hA.below hB
    rcases Nat.lt_or_ge j n with hjl | hjl
    · have d1 : decide (j < n) = true := decide_eq_true hjl
      have hji : (j : Int) < n := by omega
      have hmul : IntKind.i64.wrap (48 * (j : Int)) = 48 * (j : Int) := by rw [IntKind.wrap_i64]; omega
      have hadd : IntKind.i64.wrap (16 + 48 * (j : Int)) = 16 + 48 * (j : Int) := by rw [IntKind.wrap_i64]; omega
      have ha28 : IntKind.i64.wrap (16 + 48 * (j : Int) + 28) = 16 + 48 * (j : Int) + 28 := by rw [IntKind.wrap_i64]; omega
      have ha32 : IntKind.i64.wrap (16 + 48 * (j : Int) + 32) = 16 + 48 * (j : Int) + 32 := by rw [IntKind.wrap_i64]; omega
      have ha36 : IntKind.i64.wrap (16 + 48 * (j : Int) + 36) = 16 + 48 * (j : Int) + 36 := by rw [IntKind.wrap_i64]; omega
      have h28 := fix32 (some ⟨g, o, none⟩) c bs wr hA1 hl (x := 16 + 48 * (j : Int) + 28) (o := 16 + 48 * j + 28) (by omega) (by omega)
      have h32 := fix32 (some ⟨g, o, none⟩) c bs wr hA1 hl (x := 16 + 48 * (j : Int) + 32) (o := 16 + 48 * j + 32) (by omega) (by omega)
      have h36 := fix32 (some ⟨g, o, none⟩) c bs wr hA1 hl (x := 16 + 48 * (j : Int) + 36) (o := 16 + 48 * j + 36) (by omega) (by omega)
      have ven := leN4 bs (16 + 48 * j + 28)
      have vof := leN4 bs (16 + 48 * j + 32)
      have vsz := leN4 bs (16 + 48 * j + 36)
      obtain ⟨en, hen⟩ : ∃ en, leN (seg bs (16 + 48 * j + 28) 4) = en := ⟨_, rfl⟩
      obtain ⟨of, hof⟩ : ∃ of, leN (seg bs (16 + 48 * j + 32) 4) = of := ⟨_, rfl⟩
      obtain ⟨sz, hsz⟩ : ∃ sz, leN (seg bs (16 + 48 * j + 36) 4) = sz := ⟨_, rfl⟩
      rw [hen] at h28 ven
      rw [hof] at h32 vof
      rw [hsz] at h36 vsz
      have H28 := Lib.hid h28
      have H32 := Lib.hid h32
      have H36 := Lib.hid h36
      have HEN := Lib.hid hen
      have HOF := Lib.hid (show offN bs j = of from hof)
      have HSZ := Lib.hid (show sizN bs j = sz from hsz)
      clear h28 h32 h36 hen hof hsz
      go_upto_region 15 with (first | (go_at_call 33; with_reducible refine H28.out.mono ?_; rintro en w3 ⟨rfl, hw3⟩; subst hw3) | (go_at_call 33; with_reducible refine H32.out.mono ?_; rintro en w3 ⟨rfl, hw3⟩; subst hw3) | (go_at_call 33; with_reducible refine H36.out.mono ?_; rintro en w3 ⟨rfl, hw3⟩; subst hw3))
      clear H28 H32 H36 ha28 ha32 ha36 hmul hadd
      have BAD : ¬ rdOk bs j → parE bs = 54 := fun hno => by
        unfold parE
        rw [if_neg (by rw [HEE.out]; exact fun h => h rfl), if_neg HCN.out, if_pos ⟨j, by rw [HN.out]; exact hjl, hno⟩]
      have BAD := Lib.hid BAD
      by_cases hof1 : bs.length < of
      · have HE := Lib.hid (BAD.out (fun h => by have := h.1; rw [HOF.out] at this; omega))
        have d3 : decide (bs.length < of) = true := decide_eq_true hof1
        have d3i : decide ((bs.length : Int) < (of : Int)) = true := decide_eq_true (by omega)
        clear hof1
        go_wp2
        go_ret2
        exact par_no HE.out (by decide) hB
      have d3 : decide (bs.length < of) = false := decide_eq_false hof1
      have d3i : decide ((bs.length : Int) < (of : Int)) = false := decide_eq_false (by omega)
      have hsub : IntKind.i64.wrap ((bs.length : Int) - (of : Int)) = (bs.length : Int) - (of : Int) := by rw [IntKind.wrap_i64]; omega
      by_cases hsz1 : bs.length - of < sz
      · have HE := Lib.hid (BAD.out (fun h => by have := h.2; rw [HOF.out, HSZ.out] at this; omega))
        have d4i : decide ((bs.length : Int) - (of : Int) < (sz : Int)) = true := decide_eq_true (by omega)
        clear hsz1
        go_wp2
        go_ret2
        exact par_no HE.out (by decide) hB
      have HOK := Lib.hid (show rdOk bs j from ⟨by rw [HOF.out]; omega, by rw [HOF.out, HSZ.out]; omega⟩)
      have d4i : decide ((bs.length : Int) - (of : Int) < (sz : Int)) = false := decide_eq_false (by omega)
      go_upto_region 17 with (fail)
      clear d3 d3i d4i hsub BAD
      obtain ⟨b', o', e', -, hcel⟩ := hA1.at_ (by omega)
      cases e'
      have x24 := hcel (16 + 48 * j + 24) (by omega)
      have x25 := hcel (16 + 48 * j + 25) (by omega)
      have hwen : IntKind.i64.wrap (en : Int) = (en : Int) := by rw [IntKind.wrap_i64]; omega
      have HB24 := Lib.hid (show bs.getD (16 + 48 * j + 24) 0 = bs[16 + 48 * j + 24]'(by omega) by simp [List.getD, show 16 + 48 * j + 24 < bs.length by omega])
      have HB25 := Lib.hid (show bs.getD (16 + 48 * j + 25) 0 = bs[16 + 48 * j + 25]'(by omega) by simp [List.getD, show 16 + 48 * j + 25 < bs.length by omega])
      obtain ⟨y24, hy24⟩ : ∃ y, bs[16 + 48 * j + 24]'(by omega) = y := ⟨_, rfl⟩
      obtain ⟨y25, hy25⟩ : ∃ y, bs[16 + 48 * j + 25]'(by omega) = y := ⟨_, rfl⟩
      rw [hy24] at x24 HB24
      rw [hy25] at x25 HB25
      have hl24 := y24.toNat_lt
      have hl25 := y25.toNat_lt
      have hw24 : IntKind.i64.wrap (y24.toNat : Int) = (y24.toNat : Int) := by rw [IntKind.wrap_i64]; omega
      have hw25 : IntKind.i64.wrap (y25.toNat : Int) = (y25.toNat : Int) := by rw [IntKind.wrap_i64]; omega
      have hsg := hA1.part (16 + 48 * j) 24 (by omega)
      have hsl : (seg bs (16 + 48 * j) 24).length = 24 := seg_len (by omega)
      obtain ⟨nm, hnm⟩ : ∃ nm, seg bs (16 + 48 * j) 24 = nm := ⟨_, rfl⟩
      rw [hnm] at hsg hsl
      have HNM := Lib.hid hnm
      have lg := block_lt_of_cell x24
      dsimp only at lg
      have HCS := Lib.hid (fun (w : World) (hw : Below w3.heap.size w3 w) => run_str (P := Tryd.prog) (w := w) (dst := 9) Tryd.underlying23 Tryd.underlying5 Tryd.underlying9 (c - (16 + 48 * j)) (hsg.below hw))
      have HK := Lib.hid (fun (w : World) (hw : Below w3.heap.size w3 w) => (⟨(hw.cell (p := ⟨g, o + (16 + 48 * j + 24), none⟩) lg).trans x24, (hw.cell (p := ⟨g, o + (16 + 48 * j + 25), none⟩) lg).trans x25, HCS.out w hw⟩ : _ ∧ _ ∧ _))
      have hT0 : (16 + 48 * (j : Int)).toNat = 16 + 48 * j := by omega
      have hT1 : (16 + 48 * (j : Int) + 24).toNat = 16 + 48 * j + 24 := by omega
      have hT2 : (16 + 48 * (j : Int) + 25).toNat = 16 + 48 * j + 25 := by omega
      have htr := fun w => trim34 ⟨nm.toArray⟩ w (by simp [ByteArray.size, hsl]) (by
        rw [Lib.toList_data]
        cases nm with
        | nil => simp at hsl
        | cons a t => rfl)
      have HTR := Lib.hid htr
      have hmul : IntKind.i64.wrap (16 + 48 * (j : Int) + 24) = 16 + 48 * (j : Int) + 24 := by rw [IntKind.wrap_i64]; omega
      have hmul2 : IntKind.i64.wrap (16 + 48 * (j : Int) + 25) = 16 + 48 * (j : Int) + 25 := by rw [IntKind.wrap_i64]; omega
      have i0 : (0 : Int) ≤ 16 + 48 * (j : Int) := by omega
      have i1 : 16 + 48 * (j : Int) ≤ 16 + 48 * (j : Int) + 24 := by omega
      have i2 : 16 + 48 * (j : Int) + 24 ≤ (c : Int) := by omega
      have i3 : (0 : Int) ≤ 16 + 48 * (j : Int) + 24 := by omega
      have i4 : 16 + 48 * (j : Int) + 24 < (bs.length : Int) := by omega
      have i5 : (0 : Int) ≤ 16 + 48 * (j : Int) + 25 := by omega
      have i6 : 16 + 48 * (j : Int) + 25 < (bs.length : Int) := by omega
      have i7 : (c = 16 + 48 * j) = False := by simp; omega
      clear hcel hsg hnm htr hy24 hy25
      have HKW := HK.out w3.drew (Below.refl _ _).drew
      go_region_held3 (fun w' => w'.cell? ⟨g, o + (16 + 48 * j + 24), none⟩ = some (.int .u8 y24.toNat) ∧ w'.cell? ⟨g, o + (16 + 48 * j + 25), none⟩ = some (.int .u8 y25.toNat) ∧ (convert 23 9 (.slice (some ⟨g, o + (16 + 48 * j), none⟩) 24 (c - (16 + 48 * j)))).run Tryd.prog w' = .ok (.string ⟨nm.toArray⟩) w') (first | exact HK.out _ (Below.refl _ _) | exact HK.out _ (Below.refl _ _).drew | exact HK.out _ ((Below.refl _ _).alloc (Nat.le_refl _) _) | exact HK.out _ ((Below.refl _ _).alloc (Nat.le_refl _) _).drew) (first | (go_at_call 34; refine (HTR.out _).mono ?_; rintro en w9 ⟨rfl, hw9⟩; subst hw9))
      all_goals (
        clear HK HKW HCS HTR hT0 hT1 hT2 x24 x25 hmul hmul2 i0 i1 i2 i3 i4 i5 i6 i7 lg
        go_upto_region 18 with (fail)
        have r4 : Row ((w3.alloc (.cells #[.string ⟨(Lib.trimRightB nm 0).toArray⟩, .int .i64 (y24.toNat : Int), .int .i64 (y25.toNat : Int), .int .i64 (en : Int), .slice none 0 0] 35)).drew) w3.heap.size 35 (mdV ⟨Lib.trimRightB nm 0, (y24.toNat : Int), (y25.toNat : Int), (en : Int), []⟩ none 0).toArray := Row.born w3 35 _
        have hal : Below w3.heap.size w3 (w3.alloc (.cells #[.string ⟨(Lib.trimRightB nm 0).toArray⟩, .int .i64 (y24.toNat : Int), .int .i64 (y25.toNat : Int), .int .i64 (en : Int), .slice none 0 0] 35)).drew := ((Below.refl _ _).alloc (Nat.le_refl _) _).drew
        have hne := ho.lt rfl
        have ho := ho.below hal
        have hA4 := hA1.below hal
        have hWr := hB.size
        have hB := hB.trans (hal.mono hB.size)
        have hW4 := hB.size
        clear hal
        generalize (w3.alloc (.cells #[.string ⟨(Lib.trimRightB nm 0).toArray⟩, .int .i64 (y24.toNat : Int), .int .i64 (y25.toNat : Int), .int .i64 (en : Int), .slice none 0 0] 35)).drew = w4 at *
        generalize w3.heap.size = gm at *
        have j0 : (0 : Int) ≤ (of : Int) := by omega
        have j1 : (of : Int) ≤ (of : Int) + (sz : Int) := by omega
        have j2 : (of : Int) + (sz : Int) ≤ (c : Int) := by omega
        have hw32 : IntKind.u32.wrap ((of : Int) + (sz : Int)) = (of : Int) + (sz : Int) := by rw [IntKind.wrap_u32]; omega
        by_cases hco : c = of
        · obtain rfl : sz = 0 := by omega
          subst hco
          have hID := IsB.nil w4 (some ⟨g, o, none⟩)
          have hal0 := (Below.refl w4.heap.size w4).alloc (Nat.le_refl _) (.cells #[] 5)
          have hE0 := OwnB.lit0 (Row.born w4 5 #[]) hW4
          have hIDa := hID.below hal0
          have hWga := Nat.le_trans hW4 hal0.size
          go_upto_region 19 with (at_builtin; (refine wp_append_b (P := Tryd.prog) rfl _ _ 23 rfl Tryd.underlying23 info_u8 hE0 hIDa (by omega) hWga rfl rfl ?_); intro A5 n5 c5 w5 hn5 ho5 hb5 hg5 hat5; have hbb := hal0.grown hg5 hal0.size (fun k hk => Nat.le_of_eq (Option.some.inj hk)); have r5 := r4.below hbb r4.lt; have q4 := (r5.cell 4 : _ = some (Value.slice none 0 0)); have f4 := r5.frozen 4)
          have hq5 : 0 = n5 := by have h := hn5.out; omega
          clear hn5
          subst hq5
          rw [List.nil_append] at ho5
          have u5 := Upd.setCell w5 gm 4 (.slice A5 0 c5)
          have ho := (ho.below hbb).upd u5 r5 hne
          have hd5 := ho5.keeps (Keeps.upd (ts := [35]) u5 r5 (by simp)) (by decide)
          have hslen : (seg bs c 0).length = 0 := seg_len (by omega)
          have r6 := Row.data r5 (D2 := A5) (dc2 := c5) ⟨Lib.trimRightB nm 0, (y24.toNat : Int), (y25.toNat : Int), (en : Int), seg bs c 0⟩ ⟨rfl, rfl, rfl, rfl⟩
          have hB := Upd.below (hB.trans (hbb.mono hW4)) u5 hWr
          have hd6 : OwnB (w5.setCell ⟨gm, 4, none⟩ (.slice A5 0 c5)) W.heap.size 5 A5 (seg bs c 0).length c5 (seg bs c 0) := by rw [hslen]; exact hd5
          simp only [hslen] at r6
          clear u5 r5 q4 f4 hbb hg5 hat5 hb5 ho5 hd5
          generalize w5.setCell ⟨gm, 4, none⟩ (.slice A5 0 c5) = w6 at *
          have hrx := Row.range r6
          have hal := (Below.refl w6.heap.size w6).alloc (Nat.le_refl _) (.cells (mdV ((⟨Lib.trimRightB nm 0, (y24.toNat : Int), (y25.toNat : Int), (en : Int), seg bs c 0⟩ : Md)) A5 c5).toArray 35)
          have hob := ho.below hal
          have hdb := hd6.below hal
          have rx := Row.born w6 35 (mdV ((⟨Lib.trimRightB nm 0, (y24.toNat : Int), (y25.toNat : Int), (en : Int), seg bs c 0⟩ : Md)) A5 c5).toArray
          have hB := hB.trans (hal.mono hB.size)
          have hbs := hB.size
          go_upto_region 20 with (first | ((with_reducible refine wp_load_g ?_ hrx Tryd.underlying35 rfl (info35 _ _ _) ?_ ?_); rfl; rfl) | (refine wp_build_1 (P := Tryd.prog) rfl rfl Tryd.underlying25 info_md (L := (mdV ((⟨Lib.trimRightB nm 0, (y24.toNat : Int), (y25.toNat : Int), (en : Int), seg bs c 0⟩ : Md)) A5 c5).toArray) rfl (by omega) (by omega) rfl ?_) | (at_builtin; (refine wp_append_v (P := Tryd.prog) rfl _ _ 25 rfl Tryd.underlying25 info_md rfl (by omega) hob.ro rx rfl (mdV_ones _ _ _) (by omega) (by omega) hbs rfl rfl ?_); intro A8 c8 w8 h28 h38))
          have hB := hB.grown h38 hbs (fun k hk => (hob.ro.ge k hk).1)
          have ho := hob.app hdb h28 h38
          have HT : rdMs bs j ++ [⟨Lib.trimRightB nm 0, (y24.toNat : Int), (y25.toNat : Int), (en : Int), seg bs c 0⟩] = rdMs bs (j + 1) := by
            rw [rdMs_succ]
            congr 2
            unfold rdM
            rw [HNM.out, HB24.out, HB25.out, HEN.out, HOF.out, HSZ.out]
          rw [HT] at ho
          have HAL2 := Lib.hid (show ∀ k, k < j + 1 → rdOk bs k from fun k hk => by rcases Nat.lt_or_ge k j with h9 | h9; exact HAL.out k h9; obtain rfl : k = j := (by omega); exact HOK.out)
          clear HT hrx hal hob hdb rx h28 h38 hbs
          go_wp2
          exact ⟨⟨j + 1, A8, c8, _, by omega, by go_num, rfl, ho, hB, HAL2.out⟩, by simp [intOf]; omega⟩
        have hco2 : (c = of) = False := by simp; exact hco
        have hco3 : (c ≤ of) = False := by simp; omega
        have hco4 : (c - of = 0) = False := by simp; omega
        have hco5 : of + sz - of = sz := by omega
        clear hco
        have hID := hA4.part of sz (by omega)
        have hal0 := (Below.refl w4.heap.size w4).alloc (Nat.le_refl _) (.cells #[] 5)
        have hE0 := OwnB.lit0 (Row.born w4 5 #[]) hW4
        have hIDa := hID.below hal0
        have hWga := Nat.le_trans hW4 hal0.size
        go_upto_region 19 with (at_builtin; (refine wp_append_b (P := Tryd.prog) (c' := c - of) rfl _ _ 23 rfl Tryd.underlying23 info_u8 hE0 hIDa (by omega) hWga rfl (by first | rfl | (go_simp; done)) ?_); intro A5 n5 c5 w5 hn5 ho5 hb5 hg5 hat5; have hbb := hal0.grown hg5 hal0.size (fun k hk => Nat.le_of_eq (Option.some.inj hk)); have r5 := r4.below hbb r4.lt; have q4 := (r5.cell 4 : _ = some (Value.slice none 0 0)); have f4 := r5.frozen 4)
        have hq5 : sz = n5 := by have h := hn5.out; omega
        clear hn5
        subst hq5
        rw [List.nil_append] at ho5
        have u5 := Upd.setCell w5 gm 4 (.slice A5 sz c5)
        have ho := (ho.below hbb).upd u5 r5 hne
        have hd5 := ho5.keeps (Keeps.upd (ts := [35]) u5 r5 (by simp)) (by decide)
        have hslen : (seg bs of sz).length = sz := seg_len (by omega)
        have r6 := Row.data r5 (D2 := A5) (dc2 := c5) ⟨Lib.trimRightB nm 0, (y24.toNat : Int), (y25.toNat : Int), (en : Int), seg bs of sz⟩ ⟨rfl, rfl, rfl, rfl⟩
        have hB := Upd.below (hB.trans (hbb.mono hW4)) u5 hWr
        have hd6 : OwnB (w5.setCell ⟨gm, 4, none⟩ (.slice A5 sz c5)) W.heap.size 5 A5 (seg bs of sz).length c5 (seg bs of sz) := by rw [hslen]; exact hd5
        simp only [hslen] at r6
        clear u5 r5 q4 f4 hbb hg5 hat5 hb5 ho5 hd5
        generalize w5.setCell ⟨gm, 4, none⟩ (.slice A5 sz c5) = w6 at *
        have hrx := Row.range r6
        have hal := (Below.refl w6.heap.size w6).alloc (Nat.le_refl _) (.cells (mdV ((⟨Lib.trimRightB nm 0, (y24.toNat : Int), (y25.toNat : Int), (en : Int), seg bs of sz⟩ : Md)) A5 c5).toArray 35)
        have hob := ho.below hal
        have hdb := hd6.below hal
        have rx := Row.born w6 35 (mdV ((⟨Lib.trimRightB nm 0, (y24.toNat : Int), (y25.toNat : Int), (en : Int), seg bs of sz⟩ : Md)) A5 c5).toArray
        have hB := hB.trans (hal.mono hB.size)
        have hbs := hB.size
        go_upto_region 20 with (first | ((with_reducible refine wp_load_g ?_ hrx Tryd.underlying35 rfl (info35 _ _ _) ?_ ?_); rfl; rfl) | (refine wp_build_1 (P := Tryd.prog) rfl rfl Tryd.underlying25 info_md (L := (mdV ((⟨Lib.trimRightB nm 0, (y24.toNat : Int), (y25.toNat : Int), (en : Int), seg bs of sz⟩ : Md)) A5 c5).toArray) rfl (by omega) (by omega) rfl ?_) | (at_builtin; (refine wp_append_v (P := Tryd.prog) rfl _ _ 25 rfl Tryd.underlying25 info_md rfl (by omega) hob.ro rx rfl (mdV_ones _ _ _) (by omega) (by omega) hbs rfl rfl ?_); intro A8 c8 w8 h28 h38))
        have hB := hB.grown h38 hbs (fun k hk => (hob.ro.ge k hk).1)
        have ho := hob.app hdb h28 h38
        have HT : rdMs bs j ++ [⟨Lib.trimRightB nm 0, (y24.toNat : Int), (y25.toNat : Int), (en : Int), seg bs of sz⟩] = rdMs bs (j + 1) := by
          rw [rdMs_succ]
          congr 2
          unfold rdM
          rw [HNM.out, HB24.out, HB25.out, HEN.out, HOF.out, HSZ.out]
        rw [HT] at ho
        have HAL2 := Lib.hid (show ∀ k, k < j + 1 → rdOk bs k from fun k hk => by rcases Nat.lt_or_ge k j with h9 | h9; exact HAL.out k h9; obtain rfl : k = j := (by omega); exact HOK.out)
        clear HT hrx hal hob hdb rx h28 h38 hbs
        go_wp2
        exact ⟨⟨j + 1, A8, c8, _, by omega, by go_num, rfl, ho, hB, HAL2.out⟩, by simp [intOf]; omega⟩)
    · obtain rfl : j = n := by omega
      have d1 : decide (j < j) = false := by simp
      have hlen : (rdMs bs j).length = j := rdMs_len bs j
      have hnl : ∀ m ∈ rdMs bs j, m.name.length ≤ 1000000000 := fun m hm => by
        obtain ⟨k, hk, rfl⟩ := List.mem_map.1 hm
        have := trim_le (seg bs (16 + 48 * k) 24) 0
        have h2 : (seg bs (16 + 48 * k) 24).length ≤ 24 := by simp only [seg, List.length_take]; omega
        show (Lib.trimRightB _ 0).length ≤ _
        omega
      have hdl : ∀ m ∈ rdMs bs j, m.data.length ≤ 1000000000 := fun m hm => by
        obtain ⟨k, hk, rfl⟩ := List.mem_map.1 hm
        show (seg bs (offN bs k) (sizN bs k)).length ≤ _
        simp only [seg, List.length_take, List.length_drop]
        omega
      have HBL := build (rdMs bs j) A1 e1 wr (by rw [hlen]; exact ho.isMs) (by rw [hlen]; exact ho.cap) hnl hdl
      rw [hlen] at HBL
      unfold BldP at HBL
      have HBAD : ¬ ∃ k, k < cntN bs ∧ ¬ rdOk bs k := by
        rintro ⟨k, hk, hno⟩
        rw [HN.out] at hk
        exact hno (HAL.out k hk)
      have HPE := Lib.hid (show (bldE (rdMs bs j) ≠ 0 ∨ imImg (rdMs bs j) ≠ bs → parE bs = 54) ∧ (bldE (rdMs bs j) = 0 → imImg (rdMs bs j) = bs → parE bs = 0) by
        unfold parE
        rw [if_neg (by rw [HEE.out]; exact fun h => h rfl), if_neg HCN.out, if_neg HBAD, HN.out]
        exact ⟨fun h => by rw [if_pos h], fun h1 h2 => by rw [if_neg (by rw [h1, h2]; simp)]⟩)
      clear HBAD hnl hdl HCN HEE HAL HNN hlen
      obtain ⟨E, hE⟩ : ∃ E, bldE (rdMs bs j) = E := ⟨_, rfl⟩
      obtain ⟨im, him⟩ : ∃ im, imImg (rdMs bs j) = im := ⟨_, rfl⟩
      rw [hE, him] at HBL
      rw [hE, him] at HPE
      clear hE him
      by_cases h0 : E = 0
      · have HB2 := Lib.hid (HBL.mono (R' := fun en W' => ∃ g2, en = .returned (.tuple #[.slice (some ⟨g2, 0, none⟩) im.length im.length, .int .i64 0]) ∧ wr.heap.size ≤ g2 ∧ Row W' g2 5 (im.map bv).toArray ∧ Below wr.heap.size wr W') (fun en W' h => by
          rcases h with ⟨h1, -⟩ | ⟨-, h1⟩
          · exact absurd h0 h1
          · exact h1))
        subst h0
        clear HBL
        go_upto_region 22 with (go_at_call 12; with_reducible refine HB2.out.mono ?_; rintro en w5 ⟨g2, rfl, hg2, r2, hb2⟩)
        have hA5 := hA1.below hb2
        have hI5 := IsB.of_row r2
        have hs1 := run_str (P := Tryd.prog) (w := w5) (dst := 9) Tryd.underlying23 Tryd.underlying5 Tryd.underlying9 im.length hI5
        have hs2 := run_str (P := Tryd.prog) (w := w5) (dst := 9) Tryd.underlying23 Tryd.underlying5 Tryd.underlying9 c hA5
        have ho5 := ho.below hb2
        have hB5 := hB.trans (hb2.mono hB.size)
        clear HB2 hA5 hI5 hg2 r2 ho
        by_cases hq : im = bs
        · have hP := Lib.hid (HPE.out.2 (by first | rfl | trivial) hq)
          subst hq
          go_wp2
          go_ret2
          refine .inr ⟨hP.out, A1, e1, qs, ?_, ?_, hB5⟩
          · rw [HN.out]; rfl
          · rw [HN.out]; exact ho5
        · have hP := Lib.hid (HPE.out.1 (.inr hq))
          have hbq : (im == bs) = false := by simpa using hq
          have hq2 : (im = bs) = False := eq_false hq
          go_wp2
          go_ret2
          exact par_no hP.out (by decide) hB5
      · have HB2 := Lib.hid (HBL.mono (R' := fun en W' => en = .returned (.tuple #[.slice none 0 0, .int .i64 E]) ∧ Below wr.heap.size wr W') (fun en W' h => by
          rcases h with ⟨-, h1⟩ | ⟨h1, -⟩
          · exact h1
          · exact absurd h1 h0))
        have hP := Lib.hid (HPE.out.1 (.inl h0))
        have hE0 : (E != 0) = true := by simpa using h0
        clear HBL h0
        go_wp2_with (go_at_call 12; with_reducible refine HB2.out.mono ?_; rintro en w5 ⟨rfl, hb2⟩; have hB5 := hB.trans (hb2.mono hB.size))
        go_ret2
        exact par_no hP.out (by decide) hB5
theorem parse (A : Option Addr) (c : Nat) (bs : List UInt8) (W : World) (hA : IsB W A bs.length bs) (hc : bs.length ≤ c) (hl : bs.length ≤ 1000000000) : Calls Tryd.prog 13 #[.slice A bs.length c] W (ParP bs W) := by
  by_cases h : hdrE bs = 0
  · exact parse_main A c bs W hA hc hl h
  · exact parse_hdr A c bs W hA hc hl h
end Go.Proofs.YtigbmlgllgcbhaaDoor
