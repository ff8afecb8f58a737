/- Image: the reference's Parse. -/
import Derived.Test.YtigbmlgllgcbhaaDoorKg
import Derived.Test.YtigbmlgllgcbhaaDoorKe
namespace Go.Proofs.YtigbmlgllgcbhaaDoor
open Go.RowKit
set_option linter.unusedVariables false
set_option linter.unusedSimpArgs false
theorem par_two {bs : List UInt8} (h0 : hdrE bs = 0) : parE bs = 0 ∨ parE bs = 54 := by
  unfold parE
  rw [if_neg (fun h => h h0)]
  split
  · exact .inr rfl
  · split
    · exact .inr rfl
    · split
      · exact .inr rfl
      · exact .inl rfl
theorem rpar {bs : List UInt8} (h0 : hdrE bs = 0) : (bldE (rdL bs (cntN bs)) ≠ 0 ∨ imImg (rdL bs (cntN bs)) ≠ bs → parE bs = 54) ∧ (bldE (rdL bs (cntN bs)) = 0 → imImg (rdL bs (cntN bs)) = bs → parE bs = 0 ∧ rdL bs (cntN bs) = rdMs bs (cntN bs)) := by
  refine ⟨fun h => ?_, fun h1 h2 => ?_⟩
  · rcases par_two h0 with h3 | h3
    · obtain ⟨b1, b2, -, -, b3, b4⟩ := par_back h3
      have e : rdL bs (cntN bs) = rdMs bs (cntN bs) := by
        unfold rdL
        rw [if_pos (fun k hk => ⟨by omega, b4 k hk⟩)]
      rw [e] at h
      rcases h with h | h
      · exact absurd b1 h
      · exact absurd b2 h
    · exact h3
  · obtain ⟨p1, p2, p3⟩ := par_img h1
    rw [h2] at p1 p2 p3
    refine ⟨p1, ?_⟩
    rw [← p2] at p3
    exact p3.symm
theorem rdL_bounds (bs : List UInt8) (n : Nat) (hl : bs.length ≤ 1000000000) : (rdL bs n).length ≤ n ∧ (∀ m ∈ rdL bs n, m.name.length ≤ 1000000000) ∧ ∀ m ∈ rdL bs n, m.data.length ≤ 1000000000 := by
  unfold rdL
  split
  · refine ⟨by rw [rdMs_len]; exact Nat.le_refl _, fun m hm => ?_, fun m hm => ?_⟩
    · obtain ⟨k, hk, rfl⟩ := List.mem_map.1 hm
      have := trim_le (seg bs (16 + 48 * k) 24) 0
      have h2 : (seg bs (16 + 48 * k) 24).length ≤ 24 := by simp only [seg, List.length_take]; omega
      show (Lib.trimRightB _ 0).length ≤ _
      omega
    · obtain ⟨k, hk, rfl⟩ := List.mem_map.1 hm
      show (seg bs (offN bs k) (sizN bs k)).length ≤ _
      simp only [seg, List.length_take, List.length_drop]
      omega
  · simp
theorem rparse_short (A : Option Addr) (c : Nat) (bs : List UInt8) (W : World) (hA : IsB W A bs.length bs) (h : bs.length < 16) : Calls Tryd.prog 19 #[.slice A bs.length c] W (ParP bs W) := by
  have HE := Lib.hid (show parE bs = 52 by
    have e : hdrE bs = 52 := by unfold hdrE; rw [if_pos h]
    unfold parE; rw [if_pos (by rw [e]; decide), e])
  have d0 : decide (bs.length < 16) = true := decide_eq_true h
  have d0i : decide ((bs.length : Int) < 16) = true := decide_eq_true (by omega)
  clear h
  go_enter Tryd.func19, Tryd.ntmps19
  go_wp2
  go_ret2
  exact par_no HE.out (by decide) (Below.refl _ _)
set_option maxRecDepth 100000 in
set_option maxHeartbeats 8000000 in
theorem rparse_long (g o : Nat) (c : Nat) (bs : List UInt8) (W : World) (hA : IsB W (some ⟨g, o, none⟩) bs.length bs) (hc : bs.length ≤ c) (hc16 : ¬ c = 16) (h16 : 16 ≤ bs.length) (hl : bs.length ≤ 1000000000) : Calls Tryd.prog 19 #[.slice (some ⟨g, o, none⟩) bs.length c] W (ParP bs W) := by
  have H4 := Lib.hid (ruint2 (some ⟨g, o, none⟩) c bs W hA (by omega) (x := 4) (o := 4) rfl (by omega))
  have H6 := Lib.hid (ruint2 (some ⟨g, o, none⟩) c bs W hA (by omega) (x := 6) (o := 6) rfl (by omega))
  have H8 := Lib.hid (ruint4 (some ⟨g, o, none⟩) c bs W hA (by omega) (x := 8) (o := 8) rfl (by omega))
  have H12 := Lib.hid (ruint4 (some ⟨g, o, none⟩) c bs W hA (by omega) (x := 12) (o := 12) rfl (by omega))
  have hI := hA.part 16 (bs.length - 16) (by omega)
  rw [show seg bs 16 (bs.length - 16) = bs.drop 16 from List.take_of_length_le (by simp)] at hI
  have HC := crc_ref (some ⟨g, o + 16, none⟩) (bs.length - 16) (c - 16) (bs.drop 16) W hI (by omega)
  clear hI
  unfold CrcPost at HC
  have HC := Lib.hid HC
  have hs1 := run_str (P := Tryd.prog) (w := W) (dst := 9) Tryd.underlying23 Tryd.underlying5 Tryd.underlying9 c (show IsB W (some ⟨g, o, none⟩) 4 (bs.take 4) from ⟨by simp; omega, fun _ => by
    obtain ⟨b', o', e, -, hcc⟩ := hA.at_ (by omega)
    cases e
    exact ⟨g, o, rfl, fun i hi => by rw [hcc i (by simp at hi; omega)]; simp⟩⟩)
  have HRD := Lib.hid (fun n hn => rread n (some ⟨g, o, none⟩) c bs W hA (by omega) (by omega) hn)
  have HSB := Lib.hid (fun (w : World) (hw : Below W.heap.size W w) => run_str (P := Tryd.prog) (w := w) (dst := 9) Tryd.underlying23 Tryd.underlying5 Tryd.underlying9 c (hA.below hw))
  have HRB := Lib.hid (fun n => rdL_bounds bs n (by omega))
  have HRP := Lib.hid (fun h => rpar (bs := bs) h)
  have v4 := leN2 bs 4
  have v6 := leN2 bs 6
  have v8 := leN4 bs 8
  have v12 := leN4 bs 12
  have vc := crc_lt2 (bs.drop 16)
  obtain ⟨ve, hve⟩ : ∃ ve, leN (seg bs 4 2) = ve := ⟨_, rfl⟩
  obtain ⟨n, hn⟩ : ∃ n, leN (seg bs 6 2) = n := ⟨_, rfl⟩
  obtain ⟨sz, hsz⟩ : ∃ sz, leN (seg bs 8 4) = sz := ⟨_, rfl⟩
  obtain ⟨sm, hsm⟩ : ∃ sm, leN (seg bs 12 4) = sm := ⟨_, rfl⟩
  obtain ⟨cr, hcr⟩ : ∃ cr, crc (bs.drop 16) = cr := ⟨_, rfl⟩
  obtain ⟨hd, hhd⟩ : ∃ hd, bs.take 4 = hd := ⟨_, rfl⟩
  have HN := Lib.hid (show cntN bs = n from hn)
  rw [hve] at H4 v4
  rw [hn] at H6 v6
  rw [hsz] at H8 v8
  rw [hsm] at H12 v12
  rw [hcr] at HC vc
  rw [hhd] at hs1
  have HEQ := Lib.hid (show hdrE bs = if hd ≠ [77, 75, 66, 73] then 68 else if ve ≠ 1 then 69 else if bs.length < sz then 52 else if sz < bs.length then 53 else if 16777216 < sz then 15 else if sm ≠ cr then 55 else 0 by
    unfold hdrE
    rw [if_neg (by omega), hve, hsz, hsm, hcr, hhd])
  clear hve hn hsz hsm hcr hhd
  have d0 : decide (bs.length < 16) = false := decide_eq_false (by omega)
  have d0i : decide ((bs.length : Int) < 16) = false := decide_eq_false (by omega)
  have hi0 : (16 : Int) ≤ (bs.length : Int) := by omega
  have hi4 : (4 : Int) ≤ (c : Int) := by omega
  have hi5 : (4 : Int) ≤ (bs.length : Int) := by omega
  have hi6 : bs.length ≤ c := by omega
  have hi7 : bs.length ≤ 1000000000 := by omega
  clear hA
  generalize bs.length = n0 at *
  go_enter Tryd.func19, Tryd.ntmps19
  go_upto_region 7 with (first | (go_at_call 39; with_reducible refine H4.out.mono ?_; rintro en w3 ⟨rfl, hw3⟩; subst hw3) | (go_at_call 39; with_reducible refine H6.out.mono ?_; rintro en w3 ⟨rfl, hw3⟩; subst hw3) | (go_at_call 39; with_reducible refine H8.out.mono ?_; rintro en w3 ⟨rfl, hw3⟩; subst hw3) | (go_at_call 39; with_reducible refine H12.out.mono ?_; rintro en w3 ⟨rfl, hw3⟩; subst hw3))
  clear H4 H6 H8 H12
  have hwl := wrapU64 (x := n0) (by omega)
  have hws : IntKind.u32.wrap (sm : Int) = (sm : Int) := by rw [IntKind.wrap_u32]; omega
  have hwn : IntKind.i64.wrap (n : Int) = (n : Int) := by rw [IntKind.wrap_i64]; omega
  by_cases m1 : hd ≠ [77, 75, 66, 73]
  · have HE := Lib.hid (show parE bs = 68 by
      have e : hdrE bs = 68 := by rw [HEQ.out]; rw [if_pos m1]
      unfold parE; rw [if_pos (by rw [e]; decide), e])
    have x1 : (hd == [77, 75, 66, 73]) = false := by simpa using m1
    have x2 : (hd = [77, 75, 66, 73]) = False := eq_false m1
    clear m1
    go_wp2_with (go_at_call 38; with_reducible refine HC.out.mono ?_; rintro en w3 ⟨rfl, hw3⟩; subst hw3)
    go_ret2
    exact par_no HE.out (by decide) (Below.refl _ _)
  have q1 : hd = [77, 75, 66, 73] := Classical.byContradiction m1
  have m1f := Lib.hid m1
  clear m1
  subst q1
  by_cases m2 : ve ≠ 1
  · have HE := Lib.hid (show parE bs = 69 by
      have e : hdrE bs = 69 := by rw [HEQ.out]; rw [if_neg m1f.out, if_pos m2]
      unfold parE; rw [if_pos (by rw [e]; decide), e])
    have x1 : ((ve : Int) != 1) = true := by simp; omega
    have x2 : (ve == 1) = false := by simpa using m2
    have x3 : (ve = 1) = False := eq_false m2
    clear m2
    go_wp2_with (go_at_call 38; with_reducible refine HC.out.mono ?_; rintro en w3 ⟨rfl, hw3⟩; subst hw3)
    go_ret2
    exact par_no HE.out (by decide) (Below.refl _ _)
  obtain rfl : ve = 1 := by omega
  by_cases m3 : n0 < sz
  · have HE := Lib.hid (show parE bs = 52 by
      have e : hdrE bs = 52 := by rw [HEQ.out]; rw [if_neg m1f.out, if_neg m2, if_pos m3]
      unfold parE; rw [if_pos (by rw [e]; decide), e])
    have x1 : decide (n0 < sz) = true := decide_eq_true m3
    have x2 : decide ((n0 : Int) < (sz : Int)) = true := decide_eq_true (by omega)
    clear m3
    go_wp2_with (go_at_call 38; with_reducible refine HC.out.mono ?_; rintro en w3 ⟨rfl, hw3⟩; subst hw3)
    go_ret2
    exact par_no HE.out (by decide) (Below.refl _ _)
  have y1 : decide (n0 < sz) = false := decide_eq_false m3
  have y2 : decide ((n0 : Int) < (sz : Int)) = false := decide_eq_false (by omega)
  by_cases m4 : sz < n0
  · have HE := Lib.hid (show parE bs = 53 by
      have e : hdrE bs = 53 := by rw [HEQ.out]; rw [if_neg m1f.out, if_neg m2, if_neg m3, if_pos m4]
      unfold parE; rw [if_pos (by rw [e]; decide), e])
    have x1 : decide (sz < n0) = true := decide_eq_true m4
    have x2 : decide ((sz : Int) < (n0 : Int)) = true := decide_eq_true (by omega)
    clear m4
    go_wp2_with (go_at_call 38; with_reducible refine HC.out.mono ?_; rintro en w3 ⟨rfl, hw3⟩; subst hw3)
    go_ret2
    exact par_no HE.out (by decide) (Below.refl _ _)
  obtain rfl : n0 = sz := by omega
  have y3 : decide ((n0 : Int) < (n0 : Int)) = false := decide_eq_false (by omega)
  by_cases m5 : 16777216 < n0
  · have HE := Lib.hid (show parE bs = 15 by
      have e : hdrE bs = 15 := by rw [HEQ.out]; rw [if_neg m1f.out, if_neg m2, if_neg m3, if_neg m4, if_pos m5]
      unfold parE; rw [if_pos (by rw [e]; decide), e])
    have x1 : decide (16777216 < n0) = true := decide_eq_true m5
    have x2 : decide ((16777216 : Int) < (n0 : Int)) = true := decide_eq_true (by omega)
    clear m5
    go_wp2_with (go_at_call 38; with_reducible refine HC.out.mono ?_; rintro en w3 ⟨rfl, hw3⟩; subst hw3)
    go_ret2
    exact par_no HE.out (by decide) (Below.refl _ _)
  have y4 : decide (16777216 < n0) = false := decide_eq_false m5
  have y5 : decide ((16777216 : Int) < (n0 : Int)) = false := decide_eq_false (by omega)
  by_cases m6 : sm ≠ cr
  · have HE := Lib.hid (show parE bs = 55 by
      have e : hdrE bs = 55 := by rw [HEQ.out]; rw [if_neg m1f.out, if_neg m2, if_neg m3, if_neg m4, if_neg m5, if_pos m6]
      unfold parE; rw [if_pos (by rw [e]; decide), e])
    have x1 : ((sm : Int) != (cr : Int)) = true := by simp; omega
    have x2 : (sm == cr) = false := by simpa using m6
    have x3 : (sm = cr) = False := eq_false m6
    clear m6
    go_wp2_with (go_at_call 38; with_reducible refine HC.out.mono ?_; rintro en w3 ⟨rfl, hw3⟩; subst hw3)
    go_ret2
    exact par_no HE.out (by decide) (Below.refl _ _)
  obtain rfl : sm = cr := by omega
  have H0 : hdrE bs = 0 := by rw [HEQ.out, if_neg m1f.out, if_neg m2, if_neg m3, if_neg m4, if_neg m5, if_neg m6]
  have HP := Lib.hid (HRP.out H0)
  rw [HN.out] at HP
  have HP := Lib.hid HP.out
  clear H0 HRP m2 m3 m4 m5 m6
  go_upto_region 19 with (go_at_call 38; with_reducible refine HC.out.mono ?_; rintro en w3 ⟨rfl, hw3⟩; subst hw3)
  have HR := HRD.out n v6
  unfold RdP at HR
  clear HRD HC
  go_upto_region 20 with (go_at_call 40; with_reducible refine HR.mono ?_; rintro en w2 ⟨A1, c1, qs, rfl, ho, hB⟩)
  obtain ⟨hb1, hb2, hb3⟩ := HRB.out n
  have HBL := rbuild (rdL bs n) A1 c1 w2 ho.isMs ho.cap hb2 hb3
  unfold RBl at HBL
  clear hb1 hb2 hb3 HRB HR
  obtain ⟨E, hE⟩ : ∃ E, bldE (rdL bs n) = E := ⟨_, rfl⟩
  obtain ⟨im, him⟩ : ∃ im, imImg (rdL bs n) = im := ⟨_, rfl⟩
  rw [hE, him] at HBL
  rw [hE, him] at HP
  clear hE him
  by_cases h0 : E = 0
  · have HB2 := Lib.hid (HBL.mono (R' := fun en W' => ∃ A' c', en = .returned (.tuple #[.slice A' im.length c', .int .i64 0]) ∧ OwnB W' w2.heap.size 5 A' im.length c' im ∧ Below w2.heap.size w2 W') (fun en W' h => by
      rcases h with ⟨h1, -⟩ | ⟨-, h1⟩
      · exact absurd h0 h1
      · exact h1))
    subst h0
    clear HBL
    go_upto_region 21 with (go_at_call 18; with_reducible refine HB2.out.mono ?_; rintro en w5 ⟨A5, c5, rfl, r2, hb2⟩)
    have hB5 := hB.trans (hb2.mono hB.size)
    have hs1 := run_str (P := Tryd.prog) (w := w5) (dst := 9) Tryd.underlying23 Tryd.underlying5 Tryd.underlying9 c5 r2.isB
    have hs2 := HSB.out w5 hB5
    have ho5 := ho.below hb2
    clear HB2 HSB r2 ho
    by_cases hq : im = bs
    · have hP := Lib.hid (HP.out.2 (by first | rfl | trivial) hq)
      subst hq
      go_wp2
      go_ret2
      refine .inr ⟨hP.out.1, A1, c1, qs, ?_, ?_, hB5⟩
      · rw [HN.out, hP.out.2, rdMs_len]; try rfl
      · rw [hP.out.2, rdMs_len] at ho5
        rw [HN.out]
        exact ho5
    · have hP := Lib.hid (HP.out.1 (.inr hq))
      have hbq : (im == bs) = false := by simpa using hq
      have hq2 : (im = bs) = False := eq_false hq
      go_wp2
      go_ret2
      exact par_no hP.out (by decide) hB5
  · have HB2 := Lib.hid (HBL.mono (R' := fun en W' => en = .returned (.tuple #[.slice none 0 0, .int .i64 E]) ∧ Below w2.heap.size w2 W') (fun en W' h => by
      rcases h with ⟨-, h1⟩ | ⟨h1, -⟩
      · exact h1
      · exact absurd h1 h0))
    have hP := Lib.hid (HP.out.1 (.inl h0))
    have hE0 : (E != 0) = true := by simpa using h0
    clear HBL h0
    go_wp2_with (go_at_call 18; with_reducible refine HB2.out.mono ?_; rintro en w5 ⟨rfl, hb2⟩; have hB5 := hB.trans (hb2.mono hB.size))
    go_ret2
    exact par_no hP.out (by decide) hB5
set_option maxRecDepth 100000 in
set_option maxHeartbeats 8000000 in
theorem rparse_16 (g o : Nat) (bs : List UInt8) (W : World) (hA : IsB W (some ⟨g, o, none⟩) bs.length bs) (h16 : bs.length = 16) : Calls Tryd.prog 19 #[.slice (some ⟨g, o, none⟩) bs.length 16] W (ParP bs W) := by
  have H4 := Lib.hid (ruint2 (some ⟨g, o, none⟩) 16 bs W hA (by omega) (x := 4) (o := 4) rfl (by omega))
  have H6 := Lib.hid (ruint2 (some ⟨g, o, none⟩) 16 bs W hA (by omega) (x := 6) (o := 6) rfl (by omega))
  have H8 := Lib.hid (ruint4 (some ⟨g, o, none⟩) 16 bs W hA (by omega) (x := 8) (o := 8) rfl (by omega))
  have H12 := Lib.hid (ruint4 (some ⟨g, o, none⟩) 16 bs W hA (by omega) (x := 12) (o := 12) rfl (by omega))
  have HC := crc_ref (some ⟨g, o, none⟩) 0 0 [] W (IsB.nil _ _) (by omega)
  rw [show ([] : List UInt8) = bs.drop 16 from (List.drop_eq_nil_of_le (by omega)).symm] at HC
  unfold CrcPost at HC
  have HC := Lib.hid HC
  have hs1 := run_str (P := Tryd.prog) (w := W) (dst := 9) Tryd.underlying23 Tryd.underlying5 Tryd.underlying9 16 (show IsB W (some ⟨g, o, none⟩) 4 (bs.take 4) from ⟨by simp; omega, fun _ => by
    obtain ⟨b', o', e, -, hcc⟩ := hA.at_ (by omega)
    cases e
    exact ⟨g, o, rfl, fun i hi => by rw [hcc i (by simp at hi; omega)]; simp⟩⟩)
  have HRD := Lib.hid (fun n hn => rread n (some ⟨g, o, none⟩) 16 bs W hA (by omega) (by omega) hn)
  have HSB := Lib.hid (fun (w : World) (hw : Below W.heap.size W w) => run_str (P := Tryd.prog) (w := w) (dst := 9) Tryd.underlying23 Tryd.underlying5 Tryd.underlying9 16 (hA.below hw))
  have HRB := Lib.hid (fun n => rdL_bounds bs n (by omega))
  have HRP := Lib.hid (fun h => rpar (bs := bs) h)
  have v4 := leN2 bs 4
  have v6 := leN2 bs 6
  have v8 := leN4 bs 8
  have v12 := leN4 bs 12
  have vc := crc_lt2 (bs.drop 16)
  obtain ⟨ve, hve⟩ : ∃ ve, leN (seg bs 4 2) = ve := ⟨_, rfl⟩
  obtain ⟨n, hn⟩ : ∃ n, leN (seg bs 6 2) = n := ⟨_, rfl⟩
  obtain ⟨sz, hsz⟩ : ∃ sz, leN (seg bs 8 4) = sz := ⟨_, rfl⟩
  obtain ⟨sm, hsm⟩ : ∃ sm, leN (seg bs 12 4) = sm := ⟨_, rfl⟩
  obtain ⟨cr, hcr⟩ : ∃ cr, crc (bs.drop 16) = cr := ⟨_, rfl⟩
  obtain ⟨hd, hhd⟩ : ∃ hd, bs.take 4 = hd := ⟨_, rfl⟩
  have HN := Lib.hid (show cntN bs = n from hn)
  rw [hve] at H4 v4
  rw [hn] at H6 v6
  rw [hsz] at H8 v8
  rw [hsm] at H12 v12
  rw [hcr] at HC vc
  rw [hhd] at hs1
  have HEQ := Lib.hid (show hdrE bs = if hd ≠ [77, 75, 66, 73] then 68 else if ve ≠ 1 then 69 else if bs.length < sz then 52 else if sz < bs.length then 53 else if 16777216 < sz then 15 else if sm ≠ cr then 55 else 0 by
    unfold hdrE
    rw [if_neg (by omega), hve, hsz, hsm, hcr, hhd])
  clear hve hn hsz hsm hcr hhd
  have d0 : decide (bs.length < 16) = false := decide_eq_false (by omega)
  have d0i : decide ((bs.length : Int) < 16) = false := decide_eq_false (by omega)
  have hi0 : (16 : Int) ≤ (bs.length : Int) := by omega
  have hi4 : (4 : Int) ≤ (16 : Int) := by omega
  have hi5 : (4 : Int) ≤ (bs.length : Int) := by omega
  have hi6 : bs.length ≤ 16 := by omega
  have hi7 : bs.length ≤ 1000000000 := by omega
  clear hA
  generalize bs.length = n0 at *
  obtain rfl : n0 = 16 := h16
  go_enter Tryd.func19, Tryd.ntmps19
  go_upto_region 7 with (first | (go_at_call 39; with_reducible refine H4.out.mono ?_; rintro en w3 ⟨rfl, hw3⟩; subst hw3) | (go_at_call 39; with_reducible refine H6.out.mono ?_; rintro en w3 ⟨rfl, hw3⟩; subst hw3) | (go_at_call 39; with_reducible refine H8.out.mono ?_; rintro en w3 ⟨rfl, hw3⟩; subst hw3) | (go_at_call 39; with_reducible refine H12.out.mono ?_; rintro en w3 ⟨rfl, hw3⟩; subst hw3))
  clear H4 H6 H8 H12
  have hwl := wrapU64 (x := 16) (by omega)
  have hws : IntKind.u32.wrap (sm : Int) = (sm : Int) := by rw [IntKind.wrap_u32]; omega
  have hwn : IntKind.i64.wrap (n : Int) = (n : Int) := by rw [IntKind.wrap_i64]; omega
  by_cases m1 : hd ≠ [77, 75, 66, 73]
  · have HE := Lib.hid (show parE bs = 68 by
      have e : hdrE bs = 68 := by rw [HEQ.out]; rw [if_pos m1]
      unfold parE; rw [if_pos (by rw [e]; decide), e])
    have x1 : (hd == [77, 75, 66, 73]) = false := by simpa using m1
    have x2 : (hd = [77, 75, 66, 73]) = False := eq_false m1
    clear m1
    go_wp2_with (go_at_call 38; with_reducible refine HC.out.mono ?_; rintro en w3 ⟨rfl, hw3⟩; subst hw3)
    go_ret2
    exact par_no HE.out (by decide) (Below.refl _ _)
  have q1 : hd = [77, 75, 66, 73] := Classical.byContradiction m1
  have m1f := Lib.hid m1
  clear m1
  subst q1
  by_cases m2 : ve ≠ 1
  · have HE := Lib.hid (show parE bs = 69 by
      have e : hdrE bs = 69 := by rw [HEQ.out]; rw [if_neg m1f.out, if_pos m2]
      unfold parE; rw [if_pos (by rw [e]; decide), e])
    have x1 : ((ve : Int) != 1) = true := by simp; omega
    have x2 : (ve == 1) = false := by simpa using m2
    have x3 : (ve = 1) = False := eq_false m2
    clear m2
    go_wp2_with (go_at_call 38; with_reducible refine HC.out.mono ?_; rintro en w3 ⟨rfl, hw3⟩; subst hw3)
    go_ret2
    exact par_no HE.out (by decide) (Below.refl _ _)
  obtain rfl : ve = 1 := by omega
  by_cases m3 : 16 < sz
  · have HE := Lib.hid (show parE bs = 52 by
      have e : hdrE bs = 52 := by rw [HEQ.out]; rw [if_neg m1f.out, if_neg m2, if_pos m3]
      unfold parE; rw [if_pos (by rw [e]; decide), e])
    have x1 : decide (16 < sz) = true := decide_eq_true m3
    have x2 : decide ((16 : Int) < (sz : Int)) = true := decide_eq_true (by omega)
    clear m3
    go_wp2_with (go_at_call 38; with_reducible refine HC.out.mono ?_; rintro en w3 ⟨rfl, hw3⟩; subst hw3)
    go_ret2
    exact par_no HE.out (by decide) (Below.refl _ _)
  have y1 : decide (16 < sz) = false := decide_eq_false m3
  have y2 : decide ((16 : Int) < (sz : Int)) = false := decide_eq_false (by omega)
  by_cases m4 : sz < 16
  · have HE := Lib.hid (show parE bs = 53 by
      have e : hdrE bs = 53 := by rw [HEQ.out]; rw [if_neg m1f.out, if_neg m2, if_neg m3, if_pos m4]
      unfold parE; rw [if_pos (by rw [e]; decide), e])
    have x1 : decide (sz < 16) = true := decide_eq_true m4
    have x2 : decide ((sz : Int) < (16 : Int)) = true := decide_eq_true (by omega)
    clear m4
    go_wp2_with (go_at_call 38; with_reducible refine HC.out.mono ?_; rintro en w3 ⟨rfl, hw3⟩; subst hw3)
    go_ret2
    exact par_no HE.out (by decide) (Below.refl _ _)
  obtain rfl : sz = 16 := by omega
  have m5 : ¬ 16777216 < 16 := by decide
  by_cases m6 : sm ≠ cr
  · have HE := Lib.hid (show parE bs = 55 by
      have e : hdrE bs = 55 := by rw [HEQ.out]; rw [if_neg m1f.out, if_neg m2, if_neg m3, if_neg m4, if_neg m5, if_pos m6]
      unfold parE; rw [if_pos (by rw [e]; decide), e])
    have x1 : ((sm : Int) != (cr : Int)) = true := by simp; omega
    have x2 : (sm == cr) = false := by simpa using m6
    have x3 : (sm = cr) = False := eq_false m6
    clear m6
    go_wp2_with (go_at_call 38; with_reducible refine HC.out.mono ?_; rintro en w3 ⟨rfl, hw3⟩; subst hw3)
    go_ret2
    exact par_no HE.out (by decide) (Below.refl _ _)
  obtain rfl : sm = cr := by omega
  have H0 : hdrE bs = 0 := by rw [HEQ.out, if_neg m1f.out, if_neg m2, if_neg m3, if_neg m4, if_neg m5, if_neg m6]
  have HP := Lib.hid (HRP.out H0)
  rw [HN.out] at HP
  have HP := Lib.hid HP.out
  clear H0 HRP m2 m3 m4 m5 m6
  go_upto_region 19 with (go_at_call 38; with_reducible refine HC.out.mono ?_; rintro en w3 ⟨rfl, hw3⟩; subst hw3)
  have HR := HRD.out n v6
  unfold RdP at HR
  clear HRD HC
  go_upto_region 20 with (go_at_call 40; with_reducible refine HR.mono ?_; rintro en w2 ⟨A1, c1, qs, rfl, ho, hB⟩)
  obtain ⟨hb1, hb2, hb3⟩ := HRB.out n
  have HBL := rbuild (rdL bs n) A1 c1 w2 ho.isMs ho.cap hb2 hb3
  unfold RBl at HBL
  clear hb1 hb2 hb3 HRB HR
  obtain ⟨E, hE⟩ : ∃ E, bldE (rdL bs n) = E := ⟨_, rfl⟩
  obtain ⟨im, him⟩ : ∃ im, imImg (rdL bs n) = im := ⟨_, rfl⟩
  rw [hE, him] at HBL
  rw [hE, him] at HP
  clear hE him
  by_cases h0 : E = 0
  · have HB2 := Lib.hid (HBL.mono (R' := fun en W' => ∃ A' c', en = .returned (.tuple #[.slice A' im.length c', .int .i64 0]) ∧ OwnB W' w2.heap.size 5 A' im.length c' im ∧ Below w2.heap.size w2 W') (fun en W' h => by
      rcases h with ⟨h1, -⟩ | ⟨-, h1⟩
      · exact absurd h0 h1
      · exact h1))
    subst h0
    clear HBL
    go_upto_region 21 with (go_at_call 18; with_reducible refine HB2.out.mono ?_; rintro en w5 ⟨A5, c5, rfl, r2, hb2⟩)
    have hB5 := hB.trans (hb2.mono hB.size)
    have hs1 := run_str (P := Tryd.prog) (w := w5) (dst := 9) Tryd.underlying23 Tryd.underlying5 Tryd.underlying9 c5 r2.isB
    have hs2 := HSB.out w5 hB5
    have ho5 := ho.below hb2
    clear HB2 HSB r2 ho
    by_cases hq : im = bs
    · have hP := Lib.hid (HP.out.2 (by first | rfl | trivial) hq)
      subst hq
      go_wp2
      go_ret2
      refine .inr ⟨hP.out.1, A1, c1, qs, ?_, ?_, hB5⟩
      · rw [HN.out, hP.out.2, rdMs_len]; try rfl
      · rw [hP.out.2, rdMs_len] at ho5
        rw [HN.out]
        exact ho5
    · have hP := Lib.hid (HP.out.1 (.inr hq))
      have hbq : (im == bs) = false := by simpa using hq
      have hq2 : (im = bs) = False := eq_false hq
      go_wp2
      go_ret2
      exact par_no hP.out (by decide) hB5
  · have HB2 := Lib.hid (HBL.mono (R' := fun en W' => en = .returned (.tuple #[.slice none 0 0, .int .i64 E]) ∧ Below w2.heap.size w2 W') (fun en W' h => by
      rcases h with ⟨-, h1⟩ | ⟨h1, -⟩
      · exact h1
      · exact absurd h1 h0))
    have hP := Lib.hid (HP.out.1 (.inl h0))
    have hE0 : (E != 0) = true := by simpa using h0
    clear HBL h0
    go_wp2_with (go_at_call 18; with_reducible refine HB2.out.mono ?_; rintro en w5 ⟨rfl, hb2⟩; have hB5 := hB.trans (hb2.mono hB.size))
    go_ret2
    exact par_no hP.out (by decide) hB5
theorem rparse (A : Option Addr) (c : Nat) (bs : List UInt8) (W : World) (hA : IsB W A bs.length bs) (hc : bs.length ≤ c) (hl : bs.length ≤ 1000000000) : Calls Tryd.prog 19 #[.slice A bs.length c] W (ParP bs W) := by
  rcases Nat.lt_or_ge bs.length 16 with h | h
  · exact rparse_short A c bs W hA h
  · obtain ⟨g, o, rfl, -, -⟩ := hA.at_ (by omega)
    by_cases h16 : c = 16
    · subst h16
      exact rparse_16 g o bs W hA (by omega)
    · exact rparse_long g o c bs W hA hc h16 h hl
end Go.Proofs.YtigbmlgllgcbhaaDoor
