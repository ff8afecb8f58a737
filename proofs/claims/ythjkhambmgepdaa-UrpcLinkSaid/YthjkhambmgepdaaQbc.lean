/- Texts Kd, without what this claim does not use. -/
import Derived.Deep.CutBlock
import Derived.Deep.CutRange
import Derived.Test.YthjkhambmgepdaaQbb
namespace Go.Proofs.Ythjkhambmgepdaa
section
open Go.RowKit
set_option linter.unusedVariables false
set_option linter.unusedSimpArgs false
set_option maxRecDepth 100000 in
set_option maxHeartbeats 16000000 in
theorem walk_ulink (W : World) (cr li : Int) (A : Option Addr) (n cc : Nat) (A3 : Option Addr) (n3 c3 : Nat) (z3 : List Int) (_ : (Lit.int .i64 cr).wf = true) (_ : (Lit.int .i64 li).wf = true) (hT : IsTr W A n) (h3 : IsRow .i64 W A3 n3 c3 z3) : Calls Try.prog 19 #[.int .i64 cr, .int .i64 li, .slice A n cc, .slice A3 n3 c3] W (True1 W) := by
  obtain ⟨l3, hL3, hl3⟩ := h3.isNK
  obtain rfl := hL3.1
  clear h3
  have p0 : 0 ≤ li % 6 := Int.emod_nonneg _ (by omega)
  have p1 : li % 6 ≤ 5 := by have := Int.emod_lt_of_pos li (show (0 : Int) < 6 by omega); omega
  have HT : Hid (∀ n, wrap64 (2 * 2 ^ (li % 6).toNat) = n → wrap64 (2 * 2 ^ (li % 6).toNat) = n) := Lib.hid (fun _ h => h)
  obtain ⟨R, hn, hvl, r0, r1⟩ := lines_of (li % 6) p0 p1
  have HV := Lib.hid hvl
  go_enter Try.func19, Try.ntmps19
  go_upto_region 3 with (first | (go_at_call 67; refine (cn_open W.heap.size cr W (Nat.le_refl _)).mono ?_; rintro en w0 ⟨g, N, col, p, n1, n2, rfl, hM0, hc0, hb0⟩) | (go_at_call 20; refine (placeU li 6 (by omega) (by omega) _).mono ?_; rintro en w' ⟨rfl, h9⟩; rw [← h9]; clear h9))
  rw [hn]
  clear hn hvl HT p0 p1
  go_upto_region 4 with (first | (go_at_call 41; refine (new_is HV.out _).mono ?_; rintro en w1 ⟨rfl, hb⟩) | ((with_reducible refine wp_row_store (L := LEV (newL R) none 0 none 0) (Row.bornAt (g := w1.heap.size) rfl 69 _) ?_ (lev_info _ _ _ _ _) (lev_one _ _ _ _ _) ?_ ?_ ?_); rfl; rfl; rfl; intro wa ua ra))
  have hBa := Upd.below (hb.trans (((Below.refl w1.heap.size w1).alloc (Nat.le_refl _) (.cells ZE 69)).mono hb.size)) ua hb.size
  clear hb ua
  generalize w1.heap.size = g5 at *
  go_upto_region 5 with (first | (go_at_call 41; refine (new_is HV.out _).mono ?_; rintro en w1 ⟨rfl, hb⟩) | ((with_reducible refine wp_row_store (L := LEV (newL R) none 0 none 0) (Row.bornAt (g := w1.heap.size) rfl 69 _) ?_ (lev_info _ _ _ _ _) (lev_one _ _ _ _ _) ?_ ?_ ?_); rfl; rfl; rfl; intro wb ub rb))
  have hal := Upd.below (hb.trans (((Below.refl w1.heap.size w1).alloc (Nat.le_refl _) (.cells ZE 69)).mono hb.size)) ub hb.size
  have hBb := hBa.trans (hal.mono hBa.size)
  have ra := (show Row wa g5 69 (LEV (newL R) none 0 none 0) from ra).below hal ra.lt
  clear hb ub hal hBa
  generalize w1.heap.size = g7 at *
  have rb : Row wb g7 69 (LEV (newL R) none 0 none 0) := rb
  go_upto_region 7 with (fail)
  obtain ⟨⟨a0, a1, a2, a3, a4⟩, ⟨a5, a6, a7, a8, a9⟩, -⟩ := end_cells ra
  obtain ⟨⟨b0, b1, b2, b3, b4⟩, ⟨b5, b6, b7, b8, b9⟩, -⟩ := end_cells rb
  go_upto_region 8 with ((with_reducible refine wp_row_store (L := (ECell (newS R) newQ).toArray) (Row.bornAt (g := wb.heap.size) rfl 90 _) ?_ (ecell_info _ _) (ecell_one _ _) ?_ ?_ ?_); rfl; rfl; rfl; intro wc uc rc)
  have hBc := Upd.below (hBb.trans (((Below.refl wb.heap.size wb).alloc (Nat.le_refl _) _).mono hBb.size)) uc hBb.size
  have hgc : wb.heap.size < wc.heap.size := rc.lt
  have hgb := hBb.size
  clear a0 a1 a2 a3 a4 a5 a6 a7 a8 a9 b0 b1 b2 b3 b4 b5 b6 b7 b8 b9 ra rb uc hBb
  go_upto_region 11 with (fail)
  have hBl := (hBc.alloc hBc.size (.cells #[.slice none 0 0, .slice none 0 0] 91)).alloc (by have := hBc.size; simp; omega) (.cells #[.slice A3 l3.length c3, .int .i64 0] 134)
  have h2 := ((Below.refl wc.heap.size wc).alloc (Nat.le_refl _) (.cells #[.slice none 0 0, .slice none 0 0] 91)).alloc (by simp) (.cells #[.slice A3 l3.length c3, .int .i64 0] 134)
  have rl := rc.below h2 rc.lt
  have ry : Row ((wc.alloc (.cells #[.slice none 0 0, .slice none 0 0] 91)).alloc (.cells #[.slice A3 l3.length c3, .int .i64 0] 134)) wc.heap.size 91 (YCell (newS R) newQ).toArray := (Row.born wc 91 #[.slice none 0 0, .slice none 0 0]).alloc _
  have rn : Row ((wc.alloc (.cells #[.slice none 0 0, .slice none 0 0] 91)).alloc (.cells #[.slice A3 l3.length c3, .int .i64 0] 134)) (wc.heap.size + 1) 134 (NumC A3 l3.length c3 0) := Row.bornAt (g := wc.heap.size + 1) (by simp) 134 #[.slice A3 l3.length c3, .int .i64 0]
  clear rc h2 hBc
  generalize ((wc.alloc (.cells #[.slice none 0 0, .slice none 0 0] 91)).alloc (.cells #[.slice A3 l3.length c3, .int .i64 0] 134)) = wl at *
  generalize hn3 : l3.length = n3 at *
  generalize wb.heap.size = ge at *
  generalize hgn : wc.heap.size + 1 = gn at *
  generalize wc.heap.size = gy at *
  obtain ⟨o, ho⟩ : ∃ o : Loc, o = ⟨g, ge, gy, gn, A3, n3, c3⟩ := ⟨_, rfl⟩
  obtain rfl : g = o.g := by rw [ho]
  obtain rfl : ge = o.ge := by rw [ho]
  obtain rfl : gy = o.gy := by rw [ho]
  obtain rfl : gn = o.gn := by rw [ho]
  obtain rfl : A3 = o.A3 := by rw [ho]
  obtain rfl : n3 = o.n3 := by rw [ho]
  obtain rfl : c3 = o.c3 := by rw [ho]
  clear ho
  have hLI : LInv W.heap.size o N W 0 wl := by
    obtain ⟨hJ, hP⟩ := newJI n1 n2 HV.out
    exact ⟨newUS N, fun _ => [], fun _ => [], newS R, _, p, newQ, 0, hJ, Nat.le_refl _, by omega, JM.new hM0 hBl (by omega) (by omega) (by omega) rl ry rn, hb0.trans (hBl.mono hb0.size), hP⟩
  have HN3 := Lib.hid hn3
  clear hn3 hM0 hBl rl ry rn hb0 hc0 hgn hgc hgb n1 n2 HV r0 r1
  go_loopw [19] (fun v wr => ∃ i : Nat, v = .int .i64 i ∧ i ≤ 3060 ∧ LInv W.heap.size o N W i wr) (fun v _ => 3060 - (intOf v).toNat)
  case atStart => exact ⟨0, rfl, by omega, hLI⟩
  case round =>
    clear hLI
    obtain ⟨i, rfl, hi, hLI⟩ := hrel
    rcases Nat.lt_or_ge i 3060 with hil | hil
    · have d1 : decide (i < 3060) = true := decide_eq_true hil
      have d1i : decide ((i : Int) < 3060) = true := decide_eq_true (by omega)
      go_upto_region 13 with (fail)
      clear d1 d1i
      go_cut [19, 96] from 67 to 220 (fun u19 u wx => u19 = .int .i64 i ∧ u = .bool false ∧ PInv W.heap.size o N W i i wx)
      case first =>
       as_aux_lemma =>
        obtain ⟨U, F, Z, L, col, p, q, c, hJ, hc, hc6, hM, hB, hP⟩ := hLI
        by_cases h60 : i < 60
        · have d2 : decide (i < 60) = true := decide_eq_true h60
          have d2i : decide ((i : Int) < 60) = true := decide_eq_true (by omega)
          have hjp := hP.early h60
          by_cases hin : i < n
          · have d3 : decide (i < n) = true := decide_eq_true hin
            have d3i : decide ((i : Int) < (n : Int)) = true := decide_eq_true (by omega)
            have hii : (i : Int) < (n : Int) := by omega
            have hi0 : (0 : Int) ≤ (i : Int) := by omega
            have hTr : IsTr wr A n := (hT.part (col := fun _ => 0) (fun _ _ => rfl)) wr hB.size (fun x hx _ => hB.block x hx)
            obtain ⟨b, ob, x, y, z, hA, q0, q1, q2⟩ := hTr i hin
            subst hA
            by_cases hx : x % 3 = 1
            · have HK := Lib.hid hx
              clear hx hTr hT
              go_wp2_with (go_at_call 20; (with_reducible refine (place_is HK.out (by omega) (by omega) _).mono ?_); rintro en w' ⟨rfl, h9⟩; rw [← h9]; clear h9)
              go_meet
              exact ⟨rfl, rfl, U, F, Z, L, col, p, q, c, hJ, by omega, hc6, hM, hB, .inl ⟨h60, by omega⟩⟩
            · obtain ⟨x3, hx3⟩ : ∃ x3, x % 3 = x3 := ⟨_, rfl⟩
              have HK := Lib.hid hx3
              have hne : (x3 != 1) = true := by rw [← hx3]; simpa using hx
              have hne2 : (x3 == 1) = false := by rw [← hx3]; simpa using hx
              have HX := Lib.hid hx
              clear hx hTr hT hx3
              go_wp2_with (first | (go_at_call 20; (with_reducible refine (place_is HK.out (by omega) (by omega) _).mono ?_); rintro en w' ⟨rfl, h9⟩; rw [← h9]; clear h9) | (go_at_call 68; (with_reducible refine (do_scr hM.cm hJ.u hJ.r (by omega) x y z HX.out).mono ?_); rintro en w2 ⟨rfl, S2, F2, Z2, col2, p2, hQ2, hR2, hM2, hw2, hc2⟩))
              go_meet
              obtain ⟨rfl, hI2, hq2⟩ := hQ2
              obtain ⟨hJ2, hj2⟩ := hJ.scr (by omega) ⟨rfl, hI2, hq2⟩ hR2
              exact ⟨rfl, rfl, S2, _, Z2, L, col2, p2, q, c + 1, hJ2, by omega, by omega, hM.step hM2 hw2 hc2, hM.stepB hw2 hB, .inl ⟨h60, by omega⟩⟩
          · have d3 : decide (i < n) = false := decide_eq_false hin
            have d3i : decide ((i : Int) < (n : Int)) = false := decide_eq_false (by omega)
            go_wp2
            go_meet
            exact ⟨rfl, rfl, U, F, Z, L, col, p, q, c, hJ, by omega, hc6, hM, hB, .inl ⟨h60, by omega⟩⟩
        · have d2 : decide (i < 60) = false := decide_eq_false h60
          have d2i : decide ((i : Int) < 60) = false := decide_eq_false (by omega)
          go_wp2
          go_meet
          exact ⟨rfl, rfl, U, F, Z, L, col, p, q, c, hJ, by omega, hc6, hM, hB, .inr ⟨by omega, hP⟩⟩
      case rest =>
      clear hLI
      obtain ⟨rfl, rfl, hPI⟩ := hcut
      have HMI : Hid (PInv W.heap.size o N W i i wc) := Lib.hid hPI
      obtain ⟨U, F, Z, L, col, p, q, c, hJ, hc, hc6, hM, hB, hP⟩ := hPI
      have hN3 := hL3.below hB
      have hNu := hM.num.now
      go_upto_region 16 with (go_at_call 86; (with_reducible refine (num2 HN3.out hNu hN3 hl3 (by omega)).mono ?_); rintro en w5 ⟨v, hv, rfl, hrn, un⟩)
      have hM := (show JM W.heap.size o (i + 1) col w5 (U.cn Z) p L q from hM.next un hrn)
      have hB : Below W.heap.size W w5 := by
        obtain ⟨U', F', Z', L', col', p', q', c', hJ', hc', hc6', hM', hB', hP'⟩ := HMI.out
        exact hM'.nextB un hB'
      clear hN3 hNu hrn un HMI
      go_upto_if 100 with (fail)
      go_cut [19, 20] from 67 to 220 (fun u19 u wx => u19 = .int .i64 i ∧ ∃ s : Nat, s < 2 ∧ u = .int .i64 s ∧ MInv W.heap.size o N W i s 1 (40 * i) wx)
      case first =>
       as_aux_lemma =>
        rcases hP with ⟨h60, hj⟩ | ⟨h60', hP⟩
        · have d2 : decide (60 ≤ i) = false := decide_eq_false (by omega)
          have d2i : decide ((60 : Int) ≤ (i : Int)) = false := decide_eq_false (by omega)
          go_wp2
          go_meet
          exact ⟨rfl, v, hv, rfl, U, F, Z, L, col, p, q, c, _, hJ, Nat.le_refl _, hc, hc6, hM, hB, .inl ⟨h60, hj⟩⟩
        · have d2 : decide (60 ≤ i) = true := decide_eq_true h60'
          have d2i : decide ((60 : Int) ≤ (i : Int)) = true := decide_eq_true (by omega)
          have HPR := Lib.hid hP
          clear hP
          rcases (show i % 2 = 0 ∨ i % 2 = 1 by omega) with hm | hm
          · have hm2 : (i : Int).tmod 2 = 0 := by rw [Int.tmod_eq_emod_of_nonneg (by omega)]; omega
            go_wp2_with (go_at_call 69; (with_reducible refine (st_rep0 hM.cm hJ.u hJ.r (by omega) 0).mono ?_); rintro en w6 ⟨rfl, S4, F4, Z4, col4, p4, ⟨hF4, hI4, hq4⟩, hR4, hM4, hw4, hc4⟩)
            go_meet
            subst hF4
            obtain ⟨hJ4, hP4⟩ := hJ.repM (s := 0) (by omega) h60' (by omega) HPR.out hI4 hR4 hq4
            exact ⟨rfl, 0, by omega, rfl, S4, _, Z4, L, col4, p4, q, c, _, hJ4, Nat.le_refl _, hc, hc6, hM.step hM4 hw4 hc4, hM.stepB hw4 hB, hP4⟩
          · have hm2 : (i : Int).tmod 2 = 1 := by rw [Int.tmod_eq_emod_of_nonneg (by omega)]; omega
            go_wp2_with (go_at_call 69; (with_reducible refine (st_rep1 hM.cm hJ.u hJ.r (by omega) 0).mono ?_); rintro en w6 ⟨rfl, S4, F4, Z4, col4, p4, ⟨hF4, hI4, hq4⟩, hR4, hM4, hw4, hc4⟩)
            go_meet
            subst hF4
            obtain ⟨hJ4, hP4⟩ := hJ.repM (s := 1) (by omega) h60' (by omega) HPR.out hI4 hR4 hq4
            exact ⟨rfl, 1, by omega, rfl, S4, _, Z4, L, col4, p4, q, c, _, hJ4, Nat.le_refl _, hc, hc6, hM.step hM4 hw4 hc4, hM.stepB hw4 hB, hP4⟩
      case rest =>
      clear hM hB hP hJ hc hc6
      obtain ⟨rfl, s, hs, rfl, hMI⟩ := hcut
      go_upto_block 2 with (fail)
      go_cut [19, 20] from 67 to 220 (fun u19 u wx => u19 = .int .i64 i ∧ u = .int .i64 s ∧ MInv W.heap.size o N W i s 2 (40 * i + 32) wx)
      case first =>
       as_aux_lemma =>
        rcases (show s = 0 ∨ s = 1 by omega) with h' | h' <;> subst h'
        · skip
          obtain ⟨U, F, Z, L, col, p, q, c, k, hJ, hk, hc, hc6, hM, hB, hP⟩ := hMI
          have hE0 : EInv W.heap.size o N W i 0 wc := ⟨U, F, Z, L, col, p, q, c, k, hJ, by have := zlen hJ.u hJ.r (s := 1) (by omega); show k + (Z 1).length ≤ _; omega, hc, hc6, hM, hB, hP⟩
          clear hJ hk hc hc6 hM hB hP
          go_wp2_with (fail)
          go_loopw [21] (fun _ wq => EInv W.heap.size o N W i 0 wq) (fun _ w => cellLen w o.g 13)
          case atStart => exact hE0
          case round =>
            clear hE0
            obtain ⟨U, F, Z, L, col, p, q, c, k, hJ, hk, hc, hc6, hM, hB, hP⟩ := hrel
            have hwr : IntKind.i64.wrap 1 = 1 := by rw [IntKind.wrap_i64]; rfl
            obtain ⟨⟨z0, z1, i0, i1, i2, i3, i4, i5⟩, fz, m0, m1⟩ := hM.cm.cells
            clear i0 i1 i2 i3 i4 i5 m0 m1
            obtain ⟨x0, x1, y0, y1, fe, fy⟩ := hM.cells
            clear y0 y1 fe fy fz z0 x1
            have HGD := Lib.hid (hJ.l.g 0 (by omega))
            have ht := (hJ.l.g 0 (by omega)).ty
            have hHd := (hM.held 0 (by omega)).now
            cases hZ : Z 1 with
            | nil =>
              have hl0 : ((U.cn Z).Z 1).length = 0 := by show (Z 1).length = 0; rw [hZ]; rfl
              rw [hl0] at z1
              clear hl0
              have hkl : k ≤ 40 * i + 32 := by omega
              go_wp2
              go_meet
              exact ⟨rfl, rfl, U, F, Z, L, col, p, q, c, k, hJ, hkl, hc, hc6, hM, hB, hP.to2 (by omega) (.inl hZ)⟩
            | cons z zs =>
              have hl1 : ((U.cn Z).Z 1).length = zs.length + 1 := by show (Z 1).length = _; rw [hZ]; rfl
              have hk' : k + (zs.length + 1) ≤ 40 * i + 32 := by rw [← hl1]; exact hk
              have hzs : zs.length ≤ 1000000 := by have := zlen hJ.u hJ.r (s := 1) (by omega); rw [hZ] at this; simp at this; omega
              clear hk
              rw [hl1] at z1
              have hcl0 := cellLen_of z1
              have hi0 : (0 : Int) < (zs.length : Int) + 1 := by omega
              by_cases hq : (L.E 0).q.length = 64
              · have dq : decide ((L.E 0).q.length < 64) = false := decide_eq_false (by omega)
                have dqi : decide (((L.E 0).q.length : Int) < 64) = false := decide_eq_false (by omega)
                have hkl : k ≤ 40 * i + 32 := by omega
                have HQ := Lib.hid hq
                clear hq hk'
                go_wp2_with (first | ((with_reducible refine wp_load_g ?_ x0 Try.underlying69 rfl (lev_info _ _ _ _ _) ?_ ?_); rfl; rfl) | (go_at_call 43; (with_reducible refine (pend_ok_is HGD.out rfl ht hHd).mono ?_); rintro en w5 ⟨rfl, hb5⟩))
                go_meet
                exact ⟨rfl, rfl, U, F, Z, L, col, p, q, c, k, hJ, hkl, hc, hc6, hM.below hb5, hB.trans (hb5.mono hB.size), hP.to2 (by omega) (.inr HQ.out)⟩
              · have hq : (L.E 0).q.length < 64 := by have := (hJ.l.g 0 (by omega)).ve.ql; omega
                have dq : decide ((L.E 0).q.length < 64) = true := decide_eq_true hq
                have dqi : decide (((L.E 0).q.length : Int) < 64) = true := decide_eq_true (by omega)
                obtain ⟨hzl, F2, hJ2, hj2⟩ := hJ.enq (s := 0) (by omega) hZ hq
                have hen := WrS.enq_e (m := z) (hJ.l.g 0 (by omega)) (by omega) hq
                obtain ⟨e9, he9⟩ : ∃ e9, ({ L.E 0 with q := (L.E 0).q ++ [z] } : LE) = e9 := ⟨_, rfl⟩
                have HE := Lib.hid hen.1
                have HL := Lib.hid (hen.2.trans he9)
                have H9 := Lib.hid he9
                have HJ2 : Hid (JI N c (k + 1) U F2 (upd Z 1 zs) (enqS L 0 z)) := Lib.hid hJ2
                have HP2 : Hid (MProg i 0 1 U (upd Z 1 zs) (enqS L 0 z)) := Lib.hid (hP.go (Nat.le_refl _) hj2 1)
                have HZ := Lib.hid hZ
                clear hen he9 hJ2 hj2 hq hP hJ
                go_upto_region 21 with (first | ((with_reducible refine wp_load_g ?_ x0 Try.underlying69 rfl (lev_info _ _ _ _ _) ?_ ?_); rfl; rfl) | (go_at_call 43; (with_reducible refine (pend_ok_is HGD.out rfl ht hHd).mono ?_); rintro en w5 ⟨rfl, hb5⟩))
                have hM5 := hM.below hb5
                have hB5 := hB.trans (hb5.mono hB.size)
                clear z1 x0 hHd hM hB hb5 dq dqi
                obtain ⟨⟨z0, z1, i0, i1, i2, i3, i4, i5⟩, fz, m0, m1⟩ := hM5.cm.cells
                clear i0 i1 i2 i3 i4 i5 m0 m1
                obtain ⟨x0, x1, y0, y1, fe, fy⟩ := hM5.cells
                clear y0 y1 fe fy fz z0 x1
                obtain ⟨vs, hvs, hms, hcap⟩ := hM5.cm.way 1 (by omega)
                have hms' : MsgK col w5 vs (z :: zs) := by rw [← HZ.out]; exact hms
                obtain ⟨Am, cm, hv0, hIm⟩ := hms'.2 0 (by simp)
                rw [List.getElem_cons_zero] at hv0 hIm
                have hvq := hvs.part.now
                rw [hl1] at hvq z1
                obtain ⟨b, ob, cur, hA, hrb, hcell⟩ := hvq.cells (by omega)
                have hc0 := hcell 0 _ hv0
                rw [Nat.add_zero] at hc0
                have hlbd : b < w5.drew.heap.size := hrb.lt
                have hlgd : o.g < w5.drew.heap.size := hM5.cm.lt
                have hled : o.ge < w5.drew.heap.size := hM5.elt
                have hc0 : w5.drew.cell? ⟨b, ob, none⟩ = some (.slice Am z.length cm) := hc0
                have zt : w5.drew.cell? ⟨o.g, 13, none⟩ = some (.slice (p.zA 1) (zs.length + 1) (p.zc 1)) := z1
                rw [hA] at zt
                have HA := Lib.hid hA
                have hHd : Held w5.drew (L.E 0) (q.A 0) (q.c 0) (q.B 0) (q.d 0) := (hM5.drew.held 0 (by omega)).now
                have x0 : w5.drew.rangeAt o.ge 0 _ := x0
                have hIm : IsB w5.drew Am z.length z := hIm.now
                have hM5d := hM5.drew
                have hB5d : Below W.heap.size W w5.drew := hB5.drew
                clear hM5 hB5 hvs hms hms' hcap hvq hrb hcell hv0 hA z1
                refine wp_region_late (n := 247) [17] (UeS w5.drew e9 16) (DeG w5.drew) (by kernel_rfl) (by kernel_rfl) (by rfl) (UeS.loc (by kernel_rfl)) ⟨Below.refl _ _, fun h => by omega⟩ ?_
                generalize w5.drew = wd at *
                iterate 2 (refine late_pure (by simp) (fun w => DeG.refl _ _) (v := ?_) (fun _ => rfl) ?_ ?_; rotate_left; (focus (intro c9 us w9 hm9 hS9 hF; clear hF hm9; go_simp; (try with_reducible rfl); done)); simp only [Act.put, zA, zB, zC, Nat.reduceAdd])
                refine late_pure (by simp) (fun w => DeG.refl _ _) (v := .agg (LEV (L.E 0) (q.A 0) (q.c 0) (q.B 0) (q.d 0))) (fun _ => rfl) ?_ ?_; (focus (intro c9 us w9 hm9 hS9 hF; exact exec_load_g (fun j v hv => (hS9.1.cell (p := ⟨o.ge, 0 + j, none⟩) hled).trans (x0 j v hv)) Try.underlying69 rfl (lev_info _ _ _ _ _) rfl)); simp only [Act.put, zA, zB, zC, Nat.reduceAdd]
                iterate 6 (refine late_pure (by simp) (fun w => DeG.refl _ _) (v := ?_) (fun _ => rfl) ?_ ?_; rotate_left; (focus (intro c9 us w9 hm9 hS9 hF; clear hF hm9; go_simp; (try with_reducible rfl); done)); simp only [Act.put, zA, zB, zC, Nat.reduceAdd])
                refine late_pure (by simp) (fun w => DeG.refl _ _) (v := ?_) (fun _ => rfl) ?_ ?_; rotate_left; (focus (intro c9 us w9 hm9 hS9 hF; have bz := (hS9.1.cell (p := ⟨o.g, 13, none⟩) hlgd).trans zt; clear hF hm9; go_simp; (try with_reducible rfl); done)); simp only [Act.put, zA, zB, zC, Nat.reduceAdd]
                refine late_pure (by simp) (fun w => DeG.refl _ _) (v := ?_) (fun _ => rfl) ?_ ?_; rotate_left; (focus (intro c9 us w9 hm9 hS9 hF; clear hF hm9; go_simp; (try with_reducible rfl); done)); simp only [Act.put, zA, zB, zC, Nat.reduceAdd]
                refine late_pure (by simp) (fun w => DeG.refl _ _) (v := ?_) (fun _ => rfl) ?_ ?_; rotate_left; (focus (intro c9 us w9 hm9 hS9 hF; have bm := (hS9.1.cell (p := ⟨b, ob, none⟩) hlbd).trans hc0; clear hF hm9; go_simp; (try with_reducible rfl); done)); simp only [Act.put, zA, zB, zC, Nat.reduceAdd]
                refine late_free (by simp) (Ue12 wd e9) (Ue12.mono) ?_ ?_; (focus (intro c9 us w9 hm9 hS9 hF K hK; have hc9 : c9 < 1 := (by rcases Nat.lt_or_ge c9 1 with h9 | h9; exact h9; exact absurd hm9 (by rw [mayAt_no (d := 0) (by kernel_rfl) (by omega) (by decide)]; decide)); clear hF; go_simp; refine (enq_ok_is HGD.out HE.out HL.out rfl ht (hHd.below hS9.1) (hIm.below hS9.1)).mono ?_; rintro en w' ⟨A, c, B, d, rfl, h1, hb⟩; exact hK _ w' ⟨below_on hS9.1 hb, fun h => by omega⟩ (DeG.below hb) ⟨A, c, B, d, _, rfl, HeldI.lower h1 hS9.1.size⟩)); simp only [Act.put, zA, zB, zC, Nat.reduceAdd]
                refine late_free (by simp) (Ue12 wd e9) (Ue12.mono) ?_ ?_; (focus (intro c9 us w9 hm9 hS9 hF K hK; obtain ⟨A, c, B, d, hi, hu, h1⟩ := hF (12, Ue12 wd e9) (by simp) (by kernel_rfl); clear hF; dsimp only at hu; simp only [hu] at hK ⊢; go_simp; exact hK _ w9 hS9 (DeG.refl _ _) ⟨A, c, B, d, hi, rfl, h1⟩)); simp only [Act.put, zA, zB, zC, Nat.reduceAdd]
                refine late_free (by simp) (Ue14 wd e9) (Ue14.mono) ?_ ?_; (focus (intro c9 us w9 hm9 hS9 hF K hK; obtain ⟨A, c, B, d, hi, hu, h1⟩ := hF (13, Ue12 wd e9) (by simp) (by kernel_rfl); clear hF; dsimp only at hu; simp only [hu] at hK ⊢; go_simp; exact hK _ w9 hS9 (DeG.refl _ _) ⟨A, c, B, d, hi, rfl, h1⟩)); simp only [Act.put, zA, zB, zC, Nat.reduceAdd]
                refine late_pure (by simp) (fun w => DeG.refl _ _) (v := .int .i64 0) (fun _ => rfl) ?_ ?_; (focus (intro c9 us w9 hm9 hS9 hF; obtain ⟨A, c, B, d, hi, hu, -⟩ := hF (13, Ue12 wd e9) (by simp) (by kernel_rfl); dsimp only at hu; simp only [hu]; go_simp)); simp only [Act.put, zA, zB, zC, Nat.reduceAdd]
                refine late_free (by simp) (PtrN wd.heap.size 69 10) (PtrN.monoG) ?_ ?_; (focus (intro c9 us w9 hm9 hS9 hF K hK; have hc9 : c9 < 1 := (by rcases Nat.lt_or_ge c9 1 with h9 | h9; exact h9; exact absurd hm9 (by rw [mayAt_no (d := 0) (by kernel_rfl) (by omega) (by decide)]; decide)); clear hF; go_simp; exact hK _ _ ⟨hS9.1.alloc hS9.1.size (.cells ZE 69), fun h => by omega⟩ ⟨Keeps.below ((Below.refl _ _).alloc (Nat.le_refl _) _), Shp.alloc _ _ _⟩ ⟨w9.heap.size, ZE, rfl, hS9.1.size, Row.born w9 69 ZE, rfl⟩)); simp only [Act.put, zA, zB, zC, Nat.reduceAdd]
                refine late_store rfl ?_ ?_; (focus (intro us w9 hS9 hF K hK; obtain ⟨A, c, B, d, hi, hu9, h1⟩ := hF (14, Ue14 wd e9) (by simp) (by kernel_rfl); obtain ⟨b3, cs, hu, hb3, hr, hn⟩ := hF (16, PtrN wd.heap.size 69 10) (by simp) (by kernel_rfl); dsimp only at hu9 hu; clear hF; simp only [hu9, hu] at hK ⊢; rw [if_pos (by rfl)]; exact step_put (L := LEV e9 A c B d) hr hn (lev_info _ _ _ _ _) (lev_one _ _ _ _ _) rfl rfl (fun w' u' r' => hK w' ⟨Upd.below hS9.1 u' hb3, fun _ => ⟨b3, A, c, B, d, hi, hu, hb3, r', h1.keeps (Keeps.upd (ts := [69]) u' hr (by simp)) (by decide) (by decide)⟩⟩ ⟨Keeps.upd (ts := [69]) u' hr (by simp), Shp.upd u' hr r' hn⟩))); simp only [Nat.reduceAdd]
                refine late_pure (by simp) (fun w => DeG.refl _ _) (v := ?_) (fun _ => rfl) ?_ ?_; rotate_left; (focus (intro c9 us w9 hm9 hS9 hF; clear hF hm9; go_simp; (try with_reducible rfl); done)); simp only [Act.put, zA, zB, zC, Nat.reduceAdd]
                refine late_done fun us wf hS8 hF => ?_
                obtain ⟨g8, A8, c8, B8, d8, hi8, hu16, hg8, r8, hT8⟩ := hS8.2 (by omega)
                have hbf := hS8.1
                clear hF hS8
                try dsimp only at hu16
                simp only [hu16]
                clear hu16
                have hM11 := hM5d.below hbf
                have hB11 := hB5d.trans (hbf.mono hB5d.size)
                have hP11 : Part col 0 wf (fun w => Held w e9 A8 c8 B8 d8) := Part.held hT8 (fun x h1 h2 => hM5d.cm.cn x h1)
                clear hM5d hB5d hbf hT8 zt hc0 x0 hHd hIm hlbd hlgd hled
                go_upto_region 24 with (fail)
                have hrow : Row wf o.ge 90 (([] : List Value) ++ (LEV (L.E 0) (q.A 0) (q.c 0) (q.B 0) (q.d 0)).toList ++ (LEV (L.E 1) (q.A 1) (q.c 1) (q.B 1) (q.d 1)).toList).toArray := by exact hM11.ends.now
                go_upto_region 25 with (first | ((with_reducible refine wp_load_g ?_ r8.range Try.underlying69 rfl (lev_info _ _ _ _ _) ?_ ?_); rfl; rfl) | ((with_reducible refine wp_put_midU (g := o.ge) (t := 90) (off := 0) (pre := ([] : List Value)) (cs := (LEV (L.E 0) (q.A 0) (q.c 0) (q.B 0) (q.d 0)).toList) (post := (LEV (L.E 1) (q.A 1) (q.c 1) (q.B 1) (q.d 1)).toList) (L := LEV e9 A8 c8 B8 d8) hrow ?_ ?_ (lev_info _ _ _ _ _) (lev_one _ _ _ _ _) ?_ ?_ ?_); rfl; rfl; rfl; rfl; intro w8 u7 r7))

                have hM8 := hM11.putE (s := 0) (by omega) u7 hP11 r7
                have hB8 := hM11.putB u7 hB11
                have hM8 : JM W.heap.size o (i + 1) col w8 (U.cn Z) p (enqS L 0 z) _ := hM8.same (fun t ht => by show upd L.E 0 _ t = upd L.E 0 e9 t; rw [H9.out]) (fun t ht => rfl)
                clear hM11 hB11 hP11 hrow r8 u7 r7
                obtain ⟨⟨z0, z1, i0, i1, i2, i3, i4, i5⟩, fz, m0, m1⟩ := hM8.cm.cells
                clear i0 i1 i2 i3 i4 i5 m0 m1
                obtain ⟨vs, hvs, hms, hcap⟩ := hM8.cm.way 1 (by omega)
                have hms' : MsgK col w8 vs (z :: zs) := by rw [← HZ.out]; exact hms
                have hvq := hvs.part.now
                obtain ⟨cZ, hcZ⟩ : ∃ cZ, p.zc 1 = cZ := ⟨_, rfl⟩
                rw [hl1, hcZ] at hvq z1
                rw [HA.out] at hvq z1
                have hcapq := hvq.cap
                have hci : (1 : Int) ≤ (zs.length : Int) + 1 := by omega
                have hcj : (1 : Int) ≤ cZ := by omega
                have hck : (zs.length : Int) + 1 ≤ cZ := by omega
                obtain ⟨A2, hA2⟩ : ∃ A2 : Option Addr, (if cZ - 1 = 0 then some ⟨b, ob, none⟩ else some ⟨b, ob + 1, none⟩) = A2 := ⟨_, rfl⟩
                have HA2 := Lib.hid hA2
                have hq2 : OwnQ w8 44 1 A2 zs.length (cZ - 1) (vs.drop 1) := by
                  rw [← hA2]
                  split
                  · next hz =>
                    obtain rfl : cZ = 1 := by omega
                    have hl0 : zs.length = 0 := by omega
                    rw [hl0] at hvq ⊢
                    exact hvq.tail0
                  · exact hvq.tail (by omega)
                have hbA2 : blk A2 = blk (p.zA 1) := by
                  rw [HA.out, ← hA2]
                  split <;> rfl
                have hr6 := hM8.cm.row.now.set 13 (.slice A2 zs.length (cZ - 1))
                have u6 : Upd w8 ((w8.setCell ⟨o.g, 13, none⟩ (.slice A2 zs.length (cZ - 1))).drew) o.g := ⟨rfl, rfl, rfl, (Upd.setCell w8 o.g 13 _).size, (Upd.setCell w8 o.g 13 _).block⟩
                have hr6 : Row ((w8.setCell ⟨o.g, 13, none⟩ (.slice A2 zs.length (cZ - 1))).drew) o.g 116 _ := hr6
                have hz6 : ((w8.setCell ⟨o.g, 13, none⟩ (.slice A2 zs.length (cZ - 1))).drew).cell? ⟨o.g, 13, none⟩ = some (.slice A2 zs.length (cZ - 1)) := by
                  rw [hr6.cell]
                  rfl
                have hM9 : JM W.heap.size o (i + 1) col _ (U.cn (upd Z 1 zs)) _ (enqS L 0 z) _ := hM8.tailZ (s := 1) (by omega) HZ.out u6 hbA2 hms' hcap hq2 (by
                  unfold CCell
                  simp only [upd, if_true]
                  exact hr6)
                have hB9 := hM8.tailZB u6 hB8
                have hcl6 := cellLen_of hz6
                have hkk : k + 1 + (upd Z 1 zs 1).length ≤ 40 * i + 32 := by rw [upd_self]; omega
                have HM9 := Lib.hid hM9
                have HB9 := Lib.hid hB9
                have HCL := Lib.hid (show cellLen ((w8.setCell ⟨o.g, 13, none⟩ (.slice A2 zs.length (cZ - 1))).drew) o.g 13 < cellLen wr o.g 13 by rw [hcl6, hcl0]; omega)
                have zt : w8.drew.cell? ⟨o.g, 13, none⟩ = some (.slice (some ⟨b, ob, none⟩) (zs.length + 1) cZ) := z1
                have hrow : Row w8.drew o.g 116 (CCell (U.cn Z) p).toArray := hM8.cm.row.now
                clear hA2 hq2 hbA2 hr6 u6 hz6 hM9 hB9 hcl6 hcl0 hM8 hB8 hvs hms hms' hcap hvq z1 z0 hcZ
                refine wp_region_tailN (n := 247) 14 (fun w' => w' = w8.drew) (fun _ _ => True) (by kernel_rfl) (by kernel_rfl) (by decide) (by rfl) rfl ?_
                simp only [List.take_succ_cons, List.take_zero, List.drop_succ_cons, List.drop_zero]
                iterate 10 (refine tail_pure (fun w => trivial) (v := ?_) (fun _ => rfl) ?_ ?_; rotate_left; (focus (intro us w9 hS9 hF; clear hF; subst hS9; go_simp; (try with_reducible rfl); done)); simp only [Act.put, zA, zB, zC, Nat.reduceAdd])
                refine tail_pure (fun w => trivial) (v := .slice A2 zs.length (cZ - 1)) (fun _ => rfl) ?_ ?_; (focus (intro us w9 hS9 hF; clear hF; subst hS9; rw [← HA2.out]; by_cases hz : cZ - 1 = 0; (rw [if_pos hz]; go_simp; omega); (rw [if_neg hz]; go_simp; (try omega); done))); simp only [Act.put, zA, zB, zC, Nat.reduceAdd]
                iterate 3 (refine tail_pure (fun w => trivial) (v := ?_) (fun _ => rfl) ?_ ?_; rotate_left; (focus (intro us w9 hS9 hF; clear hF; subst hS9; go_simp; (try with_reducible rfl); done)); simp only [Act.put, zA, zB, zC, Nat.reduceAdd])
                refine tail_done fun us w7 hS7 hF => ?_
                subst hS7
                clear hF
                go_wp2
                refine ⟨?_, HCL.out⟩
                (repeat apply Exists.intro)
                exact ⟨⟨U, F2, upd Z 1 zs, enqS L 0 z, col, _, _, c, k + 1, HJ2.out, hkk, hc, hc6, HM9.out, HB9.out, HP2.out⟩, rfl⟩
        · skip
          obtain ⟨U, F, Z, L, col, p, q, c, k, hJ, hk, hc, hc6, hM, hB, hP⟩ := hMI
          have hE0 : EInv W.heap.size o N W i 1 wc := ⟨U, F, Z, L, col, p, q, c, k, hJ, by have := zlen hJ.u hJ.r (s := 0) (by omega); show k + (Z 0).length ≤ _; omega, hc, hc6, hM, hB, hP⟩
          clear hJ hk hc hc6 hM hB hP
          go_wp2_with (fail)
          go_loopw [21] (fun _ wq => EInv W.heap.size o N W i 1 wq) (fun _ w => cellLen w o.g 12)
          case atStart => exact hE0
          case round =>
            clear hE0
            obtain ⟨U, F, Z, L, col, p, q, c, k, hJ, hk, hc, hc6, hM, hB, hP⟩ := hrel
            have hwr : IntKind.i64.wrap 0 = 0 := by rw [IntKind.wrap_i64]; rfl
            obtain ⟨⟨z0, z1, i0, i1, i2, i3, i4, i5⟩, fz, m0, m1⟩ := hM.cm.cells
            clear i0 i1 i2 i3 i4 i5 m0 m1
            obtain ⟨x0, x1, y0, y1, fe, fy⟩ := hM.cells
            clear y0 y1 fe fy fz z1 x0
            have HGD := Lib.hid (hJ.l.g 1 (by omega))
            have ht := (hJ.l.g 1 (by omega)).ty
            have hHd := (hM.held 1 (by omega)).now
            cases hZ : Z 0 with
            | nil =>
              have hl0 : ((U.cn Z).Z 0).length = 0 := by show (Z 0).length = 0; rw [hZ]; rfl
              rw [hl0] at z0
              clear hl0
              have hkl : k ≤ 40 * i + 32 := by omega
              go_wp2
              go_meet
              exact ⟨rfl, rfl, U, F, Z, L, col, p, q, c, k, hJ, hkl, hc, hc6, hM, hB, hP.to2 (by omega) (.inl hZ)⟩
            | cons z zs =>
              have hl1 : ((U.cn Z).Z 0).length = zs.length + 1 := by show (Z 0).length = _; rw [hZ]; rfl
              have hk' : k + (zs.length + 1) ≤ 40 * i + 32 := by rw [← hl1]; exact hk
              have hzs : zs.length ≤ 1000000 := by have := zlen hJ.u hJ.r (s := 0) (by omega); rw [hZ] at this; simp at this; omega
              clear hk
              rw [hl1] at z0
              have hcl0 := cellLen_of z0
              have hi0 : (0 : Int) < (zs.length : Int) + 1 := by omega
              by_cases hq : (L.E 1).q.length = 64
              · have dq : decide ((L.E 1).q.length < 64) = false := decide_eq_false (by omega)
                have dqi : decide (((L.E 1).q.length : Int) < 64) = false := decide_eq_false (by omega)
                have hkl : k ≤ 40 * i + 32 := by omega
                have HQ := Lib.hid hq
                clear hq hk'
                go_wp2_with (first | ((with_reducible refine wp_load_g ?_ x1 Try.underlying69 rfl (lev_info _ _ _ _ _) ?_ ?_); rfl; rfl) | (go_at_call 43; (with_reducible refine (pend_ok_is HGD.out rfl ht hHd).mono ?_); rintro en w5 ⟨rfl, hb5⟩))
                go_meet
                exact ⟨rfl, rfl, U, F, Z, L, col, p, q, c, k, hJ, hkl, hc, hc6, hM.below hb5, hB.trans (hb5.mono hB.size), hP.to2 (by omega) (.inr HQ.out)⟩
              · have hq : (L.E 1).q.length < 64 := by have := (hJ.l.g 1 (by omega)).ve.ql; omega
                have dq : decide ((L.E 1).q.length < 64) = true := decide_eq_true hq
                have dqi : decide (((L.E 1).q.length : Int) < 64) = true := decide_eq_true (by omega)
                obtain ⟨hzl, F2, hJ2, hj2⟩ := hJ.enq (s := 1) (by omega) hZ hq
                have hen := WrS.enq_e (m := z) (hJ.l.g 1 (by omega)) (by omega) hq
                obtain ⟨e9, he9⟩ : ∃ e9, ({ L.E 1 with q := (L.E 1).q ++ [z] } : LE) = e9 := ⟨_, rfl⟩
                have HE := Lib.hid hen.1
                have HL := Lib.hid (hen.2.trans he9)
                have H9 := Lib.hid he9
                have HJ2 : Hid (JI N c (k + 1) U F2 (upd Z 0 zs) (enqS L 1 z)) := Lib.hid hJ2
                have HP2 : Hid (MProg i 1 1 U (upd Z 0 zs) (enqS L 1 z)) := Lib.hid (hP.go (Nat.le_refl _) hj2 1)
                have HZ := Lib.hid hZ
                clear hen he9 hJ2 hj2 hq hP hJ
                go_upto_region 21 with (first | ((with_reducible refine wp_load_g ?_ x1 Try.underlying69 rfl (lev_info _ _ _ _ _) ?_ ?_); rfl; rfl) | (go_at_call 43; (with_reducible refine (pend_ok_is HGD.out rfl ht hHd).mono ?_); rintro en w5 ⟨rfl, hb5⟩))
                have hM5 := hM.below hb5
                have hB5 := hB.trans (hb5.mono hB.size)
                clear z0 x1 hHd hM hB hb5 dq dqi
                obtain ⟨⟨z0, z1, i0, i1, i2, i3, i4, i5⟩, fz, m0, m1⟩ := hM5.cm.cells
                clear i0 i1 i2 i3 i4 i5 m0 m1
                obtain ⟨x0, x1, y0, y1, fe, fy⟩ := hM5.cells
                clear y0 y1 fe fy fz z1 x0
                obtain ⟨vs, hvs, hms, hcap⟩ := hM5.cm.way 0 (by omega)
                have hms' : MsgK col w5 vs (z :: zs) := by rw [← HZ.out]; exact hms
                obtain ⟨Am, cm, hv0, hIm⟩ := hms'.2 0 (by simp)
                rw [List.getElem_cons_zero] at hv0 hIm
                have hvq := hvs.part.now
                rw [hl1] at hvq z0
                obtain ⟨b, ob, cur, hA, hrb, hcell⟩ := hvq.cells (by omega)
                have hc0 := hcell 0 _ hv0
                rw [Nat.add_zero] at hc0
                have hlbd : b < w5.drew.heap.size := hrb.lt
                have hlgd : o.g < w5.drew.heap.size := hM5.cm.lt
                have hled : o.ge < w5.drew.heap.size := hM5.elt
                have hc0 : w5.drew.cell? ⟨b, ob, none⟩ = some (.slice Am z.length cm) := hc0
                have zt : w5.drew.cell? ⟨o.g, 12, none⟩ = some (.slice (p.zA 0) (zs.length + 1) (p.zc 0)) := z0
                rw [hA] at zt
                have HA := Lib.hid hA
                have hHd : Held w5.drew (L.E 1) (q.A 1) (q.c 1) (q.B 1) (q.d 1) := (hM5.drew.held 1 (by omega)).now
                have x1 : w5.drew.rangeAt o.ge 10 _ := x1
                have hIm : IsB w5.drew Am z.length z := hIm.now
                have hM5d := hM5.drew
                have hB5d : Below W.heap.size W w5.drew := hB5.drew
                clear hM5 hB5 hvs hms hms' hcap hvq hrb hcell hv0 hA z0
                refine wp_region_late (n := 247) [17] (UeS w5.drew e9 16) (DeG w5.drew) (by kernel_rfl) (by kernel_rfl) (by rfl) (UeS.loc (by kernel_rfl)) ⟨Below.refl _ _, fun h => by omega⟩ ?_
                generalize w5.drew = wd at *
                iterate 2 (refine late_pure (by simp) (fun w => DeG.refl _ _) (v := ?_) (fun _ => rfl) ?_ ?_; rotate_left; (focus (intro c9 us w9 hm9 hS9 hF; clear hF hm9; go_simp; (try with_reducible rfl); done)); simp only [Act.put, zA, zB, zC, Nat.reduceAdd])
                refine late_pure (by simp) (fun w => DeG.refl _ _) (v := .agg (LEV (L.E 1) (q.A 1) (q.c 1) (q.B 1) (q.d 1))) (fun _ => rfl) ?_ ?_; (focus (intro c9 us w9 hm9 hS9 hF; exact exec_load_g (fun j v hv => (hS9.1.cell (p := ⟨o.ge, 10 + j, none⟩) hled).trans (x1 j v hv)) Try.underlying69 rfl (lev_info _ _ _ _ _) rfl)); simp only [Act.put, zA, zB, zC, Nat.reduceAdd]
                iterate 6 (refine late_pure (by simp) (fun w => DeG.refl _ _) (v := ?_) (fun _ => rfl) ?_ ?_; rotate_left; (focus (intro c9 us w9 hm9 hS9 hF; clear hF hm9; go_simp; (try with_reducible rfl); done)); simp only [Act.put, zA, zB, zC, Nat.reduceAdd])
                refine late_pure (by simp) (fun w => DeG.refl _ _) (v := ?_) (fun _ => rfl) ?_ ?_; rotate_left; (focus (intro c9 us w9 hm9 hS9 hF; have bz := (hS9.1.cell (p := ⟨o.g, 12, none⟩) hlgd).trans zt; clear hF hm9; go_simp; (try with_reducible rfl); done)); simp only [Act.put, zA, zB, zC, Nat.reduceAdd]
                refine late_pure (by simp) (fun w => DeG.refl _ _) (v := ?_) (fun _ => rfl) ?_ ?_; rotate_left; (focus (intro c9 us w9 hm9 hS9 hF; clear hF hm9; go_simp; (try with_reducible rfl); done)); simp only [Act.put, zA, zB, zC, Nat.reduceAdd]
                refine late_pure (by simp) (fun w => DeG.refl _ _) (v := ?_) (fun _ => rfl) ?_ ?_; rotate_left; (focus (intro c9 us w9 hm9 hS9 hF; have bm := (hS9.1.cell (p := ⟨b, ob, none⟩) hlbd).trans hc0; clear hF hm9; go_simp; (try with_reducible rfl); done)); simp only [Act.put, zA, zB, zC, Nat.reduceAdd]
                refine late_free (by simp) (Ue12 wd e9) (Ue12.mono) ?_ ?_; (focus (intro c9 us w9 hm9 hS9 hF K hK; have hc9 : c9 < 1 := (by rcases Nat.lt_or_ge c9 1 with h9 | h9; exact h9; exact absurd hm9 (by rw [mayAt_no (d := 0) (by kernel_rfl) (by omega) (by decide)]; decide)); clear hF; go_simp; refine (enq_ok_is HGD.out HE.out HL.out rfl ht (hHd.below hS9.1) (hIm.below hS9.1)).mono ?_; rintro en w' ⟨A, c, B, d, rfl, h1, hb⟩; exact hK _ w' ⟨below_on hS9.1 hb, fun h => by omega⟩ (DeG.below hb) ⟨A, c, B, d, _, rfl, HeldI.lower h1 hS9.1.size⟩)); simp only [Act.put, zA, zB, zC, Nat.reduceAdd]
                refine late_free (by simp) (Ue12 wd e9) (Ue12.mono) ?_ ?_; (focus (intro c9 us w9 hm9 hS9 hF K hK; obtain ⟨A, c, B, d, hi, hu, h1⟩ := hF (12, Ue12 wd e9) (by simp) (by kernel_rfl); clear hF; dsimp only at hu; simp only [hu] at hK ⊢; go_simp; exact hK _ w9 hS9 (DeG.refl _ _) ⟨A, c, B, d, hi, rfl, h1⟩)); simp only [Act.put, zA, zB, zC, Nat.reduceAdd]
                refine late_free (by simp) (Ue14 wd e9) (Ue14.mono) ?_ ?_; (focus (intro c9 us w9 hm9 hS9 hF K hK; obtain ⟨A, c, B, d, hi, hu, h1⟩ := hF (13, Ue12 wd e9) (by simp) (by kernel_rfl); clear hF; dsimp only at hu; simp only [hu] at hK ⊢; go_simp; exact hK _ w9 hS9 (DeG.refl _ _) ⟨A, c, B, d, hi, rfl, h1⟩)); simp only [Act.put, zA, zB, zC, Nat.reduceAdd]
                refine late_pure (by simp) (fun w => DeG.refl _ _) (v := .int .i64 0) (fun _ => rfl) ?_ ?_; (focus (intro c9 us w9 hm9 hS9 hF; obtain ⟨A, c, B, d, hi, hu, -⟩ := hF (13, Ue12 wd e9) (by simp) (by kernel_rfl); dsimp only at hu; simp only [hu]; go_simp)); simp only [Act.put, zA, zB, zC, Nat.reduceAdd]
                refine late_free (by simp) (PtrN wd.heap.size 69 10) (PtrN.monoG) ?_ ?_; (focus (intro c9 us w9 hm9 hS9 hF K hK; have hc9 : c9 < 1 := (by rcases Nat.lt_or_ge c9 1 with h9 | h9; exact h9; exact absurd hm9 (by rw [mayAt_no (d := 0) (by kernel_rfl) (by omega) (by decide)]; decide)); clear hF; go_simp; exact hK _ _ ⟨hS9.1.alloc hS9.1.size (.cells ZE 69), fun h => by omega⟩ ⟨Keeps.below ((Below.refl _ _).alloc (Nat.le_refl _) _), Shp.alloc _ _ _⟩ ⟨w9.heap.size, ZE, rfl, hS9.1.size, Row.born w9 69 ZE, rfl⟩)); simp only [Act.put, zA, zB, zC, Nat.reduceAdd]
                refine late_store rfl ?_ ?_; (focus (intro us w9 hS9 hF K hK; obtain ⟨A, c, B, d, hi, hu9, h1⟩ := hF (14, Ue14 wd e9) (by simp) (by kernel_rfl); obtain ⟨b3, cs, hu, hb3, hr, hn⟩ := hF (16, PtrN wd.heap.size 69 10) (by simp) (by kernel_rfl); dsimp only at hu9 hu; clear hF; simp only [hu9, hu] at hK ⊢; rw [if_pos (by rfl)]; exact step_put (L := LEV e9 A c B d) hr hn (lev_info _ _ _ _ _) (lev_one _ _ _ _ _) rfl rfl (fun w' u' r' => hK w' ⟨Upd.below hS9.1 u' hb3, fun _ => ⟨b3, A, c, B, d, hi, hu, hb3, r', h1.keeps (Keeps.upd (ts := [69]) u' hr (by simp)) (by decide) (by decide)⟩⟩ ⟨Keeps.upd (ts := [69]) u' hr (by simp), Shp.upd u' hr r' hn⟩))); simp only [Nat.reduceAdd]
                refine late_pure (by simp) (fun w => DeG.refl _ _) (v := ?_) (fun _ => rfl) ?_ ?_; rotate_left; (focus (intro c9 us w9 hm9 hS9 hF; clear hF hm9; go_simp; (try with_reducible rfl); done)); simp only [Act.put, zA, zB, zC, Nat.reduceAdd]
                refine late_done fun us wf hS8 hF => ?_
                obtain ⟨g8, A8, c8, B8, d8, hi8, hu16, hg8, r8, hT8⟩ := hS8.2 (by omega)
                have hbf := hS8.1
                clear hF hS8
                try dsimp only at hu16
                simp only [hu16]
                clear hu16
                have hM11 := hM5d.below hbf
                have hB11 := hB5d.trans (hbf.mono hB5d.size)
                have hP11 : Part col 0 wf (fun w => Held w e9 A8 c8 B8 d8) := Part.held hT8 (fun x h1 h2 => hM5d.cm.cn x h1)
                clear hM5d hB5d hbf hT8 zt hc0 x1 hHd hIm hlbd hlgd hled
                go_upto_region 24 with (fail)
                have hrow : Row wf o.ge 90 ((LEV (L.E 0) (q.A 0) (q.c 0) (q.B 0) (q.d 0)).toList ++ (LEV (L.E 1) (q.A 1) (q.c 1) (q.B 1) (q.d 1)).toList ++ ([] : List Value)).toArray := by rw [List.append_nil]; exact hM11.ends.now
                go_upto_region 25 with (first | ((with_reducible refine wp_load_g ?_ r8.range Try.underlying69 rfl (lev_info _ _ _ _ _) ?_ ?_); rfl; rfl) | ((with_reducible refine wp_put_midU (g := o.ge) (t := 90) (off := 10) (pre := (LEV (L.E 0) (q.A 0) (q.c 0) (q.B 0) (q.d 0)).toList) (cs := (LEV (L.E 1) (q.A 1) (q.c 1) (q.B 1) (q.d 1)).toList) (post := ([] : List Value)) (L := LEV e9 A8 c8 B8 d8) hrow ?_ ?_ (lev_info _ _ _ _ _) (lev_one _ _ _ _ _) ?_ ?_ ?_); rfl; rfl; rfl; rfl; intro w8 u7 r7))
                rw [List.append_nil] at r7
                have hM8 := hM11.putE (s := 1) (by omega) u7 hP11 r7
                have hB8 := hM11.putB u7 hB11
                have hM8 : JM W.heap.size o (i + 1) col w8 (U.cn Z) p (enqS L 1 z) _ := hM8.same (fun t ht => by show upd L.E 1 _ t = upd L.E 1 e9 t; rw [H9.out]) (fun t ht => rfl)
                clear hM11 hB11 hP11 hrow r8 u7 r7
                obtain ⟨⟨z0, z1, i0, i1, i2, i3, i4, i5⟩, fz, m0, m1⟩ := hM8.cm.cells
                clear i0 i1 i2 i3 i4 i5 m0 m1
                obtain ⟨vs, hvs, hms, hcap⟩ := hM8.cm.way 0 (by omega)
                have hms' : MsgK col w8 vs (z :: zs) := by rw [← HZ.out]; exact hms
                have hvq := hvs.part.now
                obtain ⟨cZ, hcZ⟩ : ∃ cZ, p.zc 0 = cZ := ⟨_, rfl⟩
                rw [hl1, hcZ] at hvq z0
                rw [HA.out] at hvq z0
                have hcapq := hvq.cap
                have hci : (1 : Int) ≤ (zs.length : Int) + 1 := by omega
                have hcj : (1 : Int) ≤ cZ := by omega
                have hck : (zs.length : Int) + 1 ≤ cZ := by omega
                obtain ⟨A2, hA2⟩ : ∃ A2 : Option Addr, (if cZ - 1 = 0 then some ⟨b, ob, none⟩ else some ⟨b, ob + 1, none⟩) = A2 := ⟨_, rfl⟩
                have HA2 := Lib.hid hA2
                have hq2 : OwnQ w8 44 1 A2 zs.length (cZ - 1) (vs.drop 1) := by
                  rw [← hA2]
                  split
                  · next hz =>
                    obtain rfl : cZ = 1 := by omega
                    have hl0 : zs.length = 0 := by omega
                    rw [hl0] at hvq ⊢
                    exact hvq.tail0
                  · exact hvq.tail (by omega)
                have hbA2 : blk A2 = blk (p.zA 0) := by
                  rw [HA.out, ← hA2]
                  split <;> rfl
                have hr6 := hM8.cm.row.now.set 12 (.slice A2 zs.length (cZ - 1))
                have u6 : Upd w8 ((w8.setCell ⟨o.g, 12, none⟩ (.slice A2 zs.length (cZ - 1))).drew) o.g := ⟨rfl, rfl, rfl, (Upd.setCell w8 o.g 12 _).size, (Upd.setCell w8 o.g 12 _).block⟩
                have hr6 : Row ((w8.setCell ⟨o.g, 12, none⟩ (.slice A2 zs.length (cZ - 1))).drew) o.g 116 _ := hr6
                have hz6 : ((w8.setCell ⟨o.g, 12, none⟩ (.slice A2 zs.length (cZ - 1))).drew).cell? ⟨o.g, 12, none⟩ = some (.slice A2 zs.length (cZ - 1)) := by
                  rw [hr6.cell]
                  rfl
                have hM9 : JM W.heap.size o (i + 1) col _ (U.cn (upd Z 0 zs)) _ (enqS L 1 z) _ := hM8.tailZ (s := 0) (by omega) HZ.out u6 hbA2 hms' hcap hq2 (by
                  unfold CCell
                  simp only [upd, if_true]
                  exact hr6)
                have hB9 := hM8.tailZB u6 hB8
                have hcl6 := cellLen_of hz6
                have hkk : k + 1 + (upd Z 0 zs 0).length ≤ 40 * i + 32 := by rw [upd_self]; omega
                have HM9 := Lib.hid hM9
                have HB9 := Lib.hid hB9
                have HCL := Lib.hid (show cellLen ((w8.setCell ⟨o.g, 12, none⟩ (.slice A2 zs.length (cZ - 1))).drew) o.g 12 < cellLen wr o.g 12 by rw [hcl6, hcl0]; omega)
                have zt : w8.drew.cell? ⟨o.g, 12, none⟩ = some (.slice (some ⟨b, ob, none⟩) (zs.length + 1) cZ) := z0
                have hrow : Row w8.drew o.g 116 (CCell (U.cn Z) p).toArray := hM8.cm.row.now
                clear hA2 hq2 hbA2 hr6 u6 hz6 hM9 hB9 hcl6 hcl0 hM8 hB8 hvs hms hms' hcap hvq z0 z1 hcZ
                refine wp_region_tailN (n := 247) 14 (fun w' => w' = w8.drew) (fun _ _ => True) (by kernel_rfl) (by kernel_rfl) (by decide) (by rfl) rfl ?_
                simp only [List.take_succ_cons, List.take_zero, List.drop_succ_cons, List.drop_zero]
                iterate 10 (refine tail_pure (fun w => trivial) (v := ?_) (fun _ => rfl) ?_ ?_; rotate_left; (focus (intro us w9 hS9 hF; clear hF; subst hS9; go_simp; (try with_reducible rfl); done)); simp only [Act.put, zA, zB, zC, Nat.reduceAdd])
                refine tail_pure (fun w => trivial) (v := .slice A2 zs.length (cZ - 1)) (fun _ => rfl) ?_ ?_; (focus (intro us w9 hS9 hF; clear hF; subst hS9; rw [← HA2.out]; by_cases hz : cZ - 1 = 0; (rw [if_pos hz]; go_simp; omega); (rw [if_neg hz]; go_simp; (try omega); done))); simp only [Act.put, zA, zB, zC, Nat.reduceAdd]
                iterate 3 (refine tail_pure (fun w => trivial) (v := ?_) (fun _ => rfl) ?_ ?_; rotate_left; (focus (intro us w9 hS9 hF; clear hF; subst hS9; go_simp; (try with_reducible rfl); done)); simp only [Act.put, zA, zB, zC, Nat.reduceAdd])
                refine tail_done fun us w7 hS7 hF => ?_
                subst hS7
                clear hF
                go_wp2
                refine ⟨?_, HCL.out⟩
                (repeat apply Exists.intro)
                exact ⟨⟨U, F2, upd Z 0 zs, enqS L 1 z, col, _, _, c, k + 1, HJ2.out, hkk, hc, hc6, HM9.out, HB9.out, HP2.out⟩, rfl⟩
      case rest =>
      clear hMI
      obtain ⟨rfl, rfl, hMI⟩ := hcut
      rcases (show s = 0 ∨ s = 1 by omega) with h' | h' <;> subst h'
      · skip
        obtain ⟨U, F, Z, L, col, p, q, c, k, hJ, hk, hc, hc6, hM, hB, hP⟩ := hMI
        have hgd := hJ.l.g 0 (by omega)
        have hHd := (hM.held 0 (by omega)).now
        obtain ⟨x0, x1, y0, y1, fe, fy⟩ := hM.cells
        clear y0 y1 fe fy x1
        obtain ⟨E, hE⟩ : ∃ E, nxE (L.E 0) = E := ⟨_, rfl⟩
        have hE2 : E = 0 ∨ E = 17 := by rw [← hE]; exact nx_zero hgd (by have := hJ.l.bs 0 (by omega); omega)
        obtain ⟨e9, he9⟩ : ∃ e9, nxL (L.E 0) = e9 := ⟨_, rfl⟩
        obtain ⟨⟨kd, el, fl, len, ack, pp⟩, hV, hpp, hln⟩ := nxV_ln hgd
        have hpp : pp.length = 56 := hpp
        have HS := Lib.hid (show (L.E 0).s < 4611686018427387904 by have := hJ.l.bs 0 (by omega); omega)
        have HE := Lib.hid hE
        have HL := Lib.hid he9
        have HV := Lib.hid (show nxV (L.E 0) = LV kd el fl len ack pp from hV)
        have HLN := Lib.hid hln
        have ht := hgd.ty
        have hokn := Lib.hid (nxn_ok hgd.ve)
        clear hE he9 hV hln
        go_upto_region 27 with (first | ((with_reducible refine wp_load_g ?_ x0 Try.underlying69 rfl (lev_info _ _ _ _ _) ?_ ?_); rfl; rfl) | (go_at_call 45; (with_reducible refine (next_ok_is hgd HS.out HE.out HL.out HV.out ht hHd).mono ?_); rintro en w3 ⟨A3, c3, B3, d3, rfl, hH3, hb3⟩) | ((with_reducible refine wp_row_store (L := LEV e9 A3 c3 B3 d3) ((Row.bornAt (g := w3.heap.size) rfl 69 _).alloc _) ?_ (lev_info _ _ _ _ _) (lev_one _ _ _ _ _) ?_ ?_ ?_); rfl; rfl; rfl; intro w4 u4 r8) | ((with_reducible refine wp_row_store (L := LV kd el fl len ack pp) ((Row.bornAt (g := w3.heap.size + 1) (by simp) 40 _).upd u4 (by omega)) ?_ (line_info _ _ _ _ _ hpp) (LV_one _ _ _ _ _ _) ?_ ?_ ?_); exact (LV_size _ _ _ _ _ hpp).symm; rfl; rfl; intro w5 u5 r9))
        have hal := ((Below.refl w3.heap.size w3).alloc (Nat.le_refl _) (.cells ZE 69)).alloc (by simp) (.cells ZL 40)
        have hal2 := Upd.below (Upd.below (hb3.trans (hal.mono hb3.size)) u4 hb3.size) u5 (by have := hb3.size; omega)
        have r8 := r8.upd u5 (by omega)
        have hH5 := ((hH3.below hal).upd u4 (.inr (Nat.le_refl _))).upd u5 (.inr (by omega))
        have hM5 := hM.below hal2
        have hB5 := hB.trans (hal2.mono hB.size)
        have hP5 : Part col 0 w5 (fun w => Held w e9 A3 c3 B3 d3) := Part.held hH5 (fun x h1 h2 => hM.cm.cn x h1)
        have hg3 : o.ge < w3.heap.size := Nat.lt_of_lt_of_le hM.elt hb3.size
        clear hM hB hal hal2 hb3 hH3 u4 u5 hH5 x0 hHd
        generalize w3.heap.size = g3 at *
        go_upto_if 167 with (fail)
        go_cut [19, 20] from 67 to 220 (fun u19 u wx => u19 = .int .i64 i ∧ u = .int .i64 0 ∧ MInv W.heap.size o N W i 0 3 (40 * i + 33) wx)
        case first =>
         as_aux_lemma =>
          rcases hE2 with rfl | rfl
          · obtain ⟨hJ2, hj2⟩ := hJ.tr (s := 0) (by omega) HE.out
            have hln := HLN.out HE.out
            have hok := hokn.out
            rw [← hln] at hok
            have HJ2 : Hid (JI N c (k + 1) U F Z (trS L 0)) := Lib.hid hJ2
            have HP2 : Hid (MProg i 0 3 U Z (trS L 0)) := Lib.hid (hP.go (Nat.le_refl _) hj2 3)
            have hYl : (L.Y 1).length ≤ 1000000 := by have := hJ.l.bY 1 (by omega); omega
            clear hJ2 hj2 hP hJ
            go_upto_region 28 with (fail)
            have hrow : Row w5 o.ge 90 (([] : List Value) ++ (LEV (L.E 0) (q.A 0) (q.c 0) (q.B 0) (q.d 0)).toList ++ (LEV (L.E 1) (q.A 1) (q.c 1) (q.B 1) (q.d 1)).toList).toArray := by exact hM5.ends.now
            go_upto_region 29 with (first | ((with_reducible refine wp_load_g ?_ r8.range Try.underlying69 rfl (lev_info _ _ _ _ _) ?_ ?_); rfl; rfl) | ((with_reducible refine wp_put_midU (g := o.ge) (t := 90) (off := 0) (pre := ([] : List Value)) (cs := (LEV (L.E 0) (q.A 0) (q.c 0) (q.B 0) (q.d 0)).toList) (post := (LEV (L.E 1) (q.A 1) (q.c 1) (q.B 1) (q.d 1)).toList) (L := LEV e9 A3 c3 B3 d3) hrow ?_ ?_ (lev_info _ _ _ _ _) (lev_one _ _ _ _ _) ?_ ?_ ?_); rfl; rfl; rfl; rfl; intro w8 u7 r7))

            have hM8 := hM5.putE (s := 0) (by omega) u7 hP5 r7
            have hB8 := (hM5.putB u7 hB5).drew
            have r9 := r9.upd u7 (by omega)
            clear hM5 hB5 hrow r8 u7 r7 hP5
            have hvs := hM8.way 1 (by omega)
            have hvq : OwnQ w8.drew 40 61 (q.yA 1) (L.Y 1).length (q.yc 1) (lsC (L.Y 1)) := hvs.part.now
            have hwr : IntKind.i64.wrap 1 = 1 := by rw [IntKind.wrap_i64]; rfl
            obtain ⟨x0, x1, y0, y1, fe, fy⟩ := hM8.cells
            clear x0 x1 fe fy y0
            have hM8d := hM8.drew
            have yt : w8.drew.cell? ⟨o.gy, 1, none⟩ = some (.slice (q.yA 1) (L.Y 1).length (q.yc 1)) := y1
            have hlyd : o.gy < w8.drew.heap.size := hM8.ylt
            have r9 : Row w8.drew (g3 + 1) 40 (LV kd el fl len ack pp) := r9
            have hal := (Below.refl w8.drew.heap.size w8.drew).alloc (Nat.le_refl _) (.cells (LV kd el fl len ack pp) 40)
            have hMA := hM8d.below hal
            have hBA := hB8.trans (hal.mono hB8.size)
            have hrowA : ∀ w9, (w8.drew.alloc (.cells (LV kd el fl len ack pp) 40)).grownBy w9 (blk (q.yA 1)) → Row w9 o.gy 91 _ := fun w9 h3 => (h3.block o.gy hMA.ylt (fun e => by have h9 := hvs.blk o.gy e.symm; have h8 := hMA.cy; omega)).trans hMA.ways.now
            clear hM8 y1 hB8
            refine wp_region_late (n := 247) [7, 8, 10] (QS w8.drew o.gy 1 40 61 (q.yA 1) (L.Y 1).length (lsC (L.Y 1)) (LV kd el fl len ack pp) 7 8) (fun _ _ => True) (by kernel_rfl) (by kernel_rfl) (by rfl) QS.loc QS.zero ?_
            generalize w8.drew = wd at *
            iterate 5 (refine late_pure (by simp) (fun _ => trivial) (v := ?_) (fun _ => rfl) ?_ ?_; rotate_left; (focus (intro c9 us w9 hm9 hS9 hF; clear hF hm9; go_simp; (try with_reducible rfl); done)); simp only [Act.put, zA, zB, zC, Nat.reduceAdd])
            refine late_pure (by simp) (fun _ => trivial) (v := ?_) (fun _ => rfl) ?_ ?_; rotate_left; (focus (intro c9 us w9 hm9 hS9 hF; have hc9 : c9 < 2 := (by rcases Nat.lt_or_ge c9 2 with h9 | h9; exact h9; exact absurd hm9 (by rw [mayAt_no (d := 1) (by kernel_rfl) (by omega) (by decide)]; decide)); have bcell := ((hS9.early hc9).cell (p := ⟨o.gy, 1, none⟩) hlyd).trans yt; clear hF hm9; go_simp; (try with_reducible rfl); done)); simp only [Act.put, zA, zB, zC, Nat.reduceAdd]
            refine late_pure (by simp) (fun _ => trivial) (v := .agg (LV kd el fl len ack pp)) (fun _ => rfl) ?_ ?_; (focus (intro c9 us w9 hm9 hS9 hF; have hc9 : c9 < 1 := (by rcases Nat.lt_or_ge c9 1 with h9 | h9; exact h9; exact absurd hm9 (by rw [mayAt_no (d := 0) (by kernel_rfl) (by omega) (by decide)]; decide)); have h0 : c9 = 0 := (by omega); have hw9 := hS9.1 h0; subst hw9; exact exec_load_g r9.range Try.underlying40 rfl (line_info _ _ _ _ _ hpp) rfl)); simp only [Act.put, zA, zB, zC, Nat.reduceAdd]
            refine late_chain (by simp) ?_ ?_; (focus (intro us w9 hS9 hF K hK; clear hF; obtain rfl := hS9.1 rfl; rw [if_pos (by rfl)]; exact step_build_1 Try.underlying36 info_ln (LV_size _ _ _ _ _ hpp) (by omega) (by omega) rfl (hK _ _ QS.one trivial))); simp only [Act.put, zA, zB, zC, Nat.reduceAdd]
            refine late_chain (by simp) ?_ ?_; (focus (intro us w9 hS9 hF K hK; clear hF; obtain ⟨hu, rfl⟩ := hS9.2.1 rfl; simp only [hu] at hK ⊢; rw [if_pos (by rfl)]; exact step_append_q (P := Try.prog) Try.underlying36 info_ln rfl (by omega) (hvq.of_same (fun b hb => hal.block b (hvq.lt b hb))) (Row.born _ _ _) (LV_list _ _ _ _ _ hpp) (LV_ones _ _ _ _ _ _) (by omega) (by omega) rfl rfl (fun A' c'' w' b h2 h3 h4 h5 => hK _ _ (QS.two h2 h3 h4 h5) trivial))); simp only [Act.put, zA, zB, zC, Nat.reduceAdd]
            refine late_pure (by simp) (fun _ => trivial) (v := ?_) (fun _ => rfl) ?_ ?_; rotate_left; (focus (intro c9 us w9 hm9 hS9 hF; clear hF hm9; go_simp; (try with_reducible rfl); done)); simp only [Act.put, zA, zB, zC, Nat.reduceAdd]
            refine late_store rfl ?_ ?_; (focus (intro us w9 hS9 hF K hK; clear hF; obtain ⟨A', c', w2, b, hu, h2, h3, h4, h5, h6, -⟩ := hS9.2.2 (by omega); have h6 := h6 rfl; subst h6; simp only [hu] at hK ⊢; have hr9 := hrowA w9 h3; have k9 := hr9.cell 1; have f9 := hr9.frozen 1; simp only [YCell] at k9; have hS10 := hS9.three hu; go_simp; exact hK _ hS10 trivial)); simp only [Nat.reduceAdd]
            refine late_done fun us w12 hS12 hF => ?_
            obtain ⟨A', c', w2, bN, -, hq2, hg2, hbA, hbb, -, hw0⟩ := hS12.2.2 (by omega)
            have hw12 := hw0 (by omega)
            clear hF hS12 hw0
            have hG : GrowK o.gy 21 (22 + 1) bN col (wd.alloc (.cells (LV kd el fl len ack pp) 40)) w2 w12 (blk (q.yA 1)) := ⟨hMA.ylt, hMA.cy, by omega, by omega, by omega, hg2, hvs.blk, hbb, hq2.lt bN hbA, by rw [hw12]; exact Upd.setCell _ _ _ _⟩
            have hr12 := (hrowA w2 hg2).set 1 (.slice A' ((L.Y 1).length + 1) c')
            rw [← hw12] at hr12
            have hlen : (L.Y 1 ++ [(⟨kd, el, fl, len, ack, pp⟩ : Ln)]).length = (L.Y 1).length + 1 := by simp
            have hM12 := hMA.appY (s := 1) (by omega) hG hok hq2 hbA (by
              unfold YCell
              simp only [upd, if_true, hlen]
              exact hr12)
            have hB12 := hG.bel hMA.cm hBA
            have hM13 := Lib.hid (hM12.same (L' := trS L 0) (fun t' ht' => by show upd L.E 0 (nxL (L.E 0)) t' = upd L.E 0 e9 t'; rw [HL.out]) (fun t' ht' => by show upd L.Y 1 (L.Y 1 ++ [nxn (L.E 0)]) t' = upd L.Y 1 (L.Y 1 ++ [_]) t'; rw [hln]))
            have HB12 := Lib.hid hB12
            clear hw12 hG hr12 hrowA hMA hM8d hvq hvs hg2 hq2 hM12 hB12 hBA hal hlen
            go_wp2
            go_meet
            exact ⟨rfl, rfl, U, F, Z, trS L 0, _, p, _, c, k + 1, HJ2.out, by omega, hc, hc6, hM13.out, HB12.out, HP2.out⟩
          · have hkl : k ≤ 40 * i + 33 := by omega
            go_wp2
            go_meet
            exact ⟨rfl, rfl, U, F, Z, L, col, p, q, c, k, hJ, hkl, hc, hc6, hM5, hB5, hP.to3 HE.out⟩
        case rest =>
        clear hM5 hB5 hP5 hP hJ r8 r9 HE HL HV HLN hokn hgd ht
        obtain ⟨rfl, rfl, hMI⟩ := hcut
        obtain ⟨U, F, Z, L, col, p, q, c, k, hJ, hk, hc, hc6, hM, hB, hP⟩ := hMI
        obtain ⟨x0, x1, y0, y1, fe, fy⟩ := hM.cells
        clear x1 y1 fe fy
        cases hY : L.Y 0 with
        | nil =>
         as_aux_lemma =>
          have hl0 : (L.Y 0).length = 0 := by rw [hY]; rfl
          rw [hl0] at y0
          have HLI : Hid (LInv W.heap.size o N W (i + 1) wc) := Lib.hid (MInv.next (s := 0) ⟨U, F, Z, L, col, p, q, c, k, hJ, hk, hc, hc6, hM, hB, hP.to4 hY⟩ (by omega))
          clear x0 hl0 hY hJ hk hc hc6 hM hB hP
          go_wp2
          exact ⟨⟨i + 1, by go_num, by omega, HLI.out⟩, by simp [intOf]; omega⟩
        | cons l ls =>
         as_aux_lemma =>
          have tk := hJ.l.takes (by omega) (s := 0) (by omega) hY
          have hok := tk.ok
          have hgd := hJ.l.g 0 (by omega)
          have ht := hgd.ty
          have hl1 : (L.Y 0).length = ls.length + 1 := by rw [hY]; rfl
          have hls : ls.length ≤ 1000000 := by have := hJ.l.bY 0 (by omega); omega
          obtain ⟨kd, el, fl, len, ack, pp⟩ := l
          have hpp : pp.length = 56 := hok.1
          have hack : 0 ≤ ack ∧ ack < 65536 := hok.2
          have HE := Lib.hid (show dvE (L.E 0) kd el fl len ack pp = 0 from tk.dv)
          have HNO := Lib.hid (show dvC (L.E 0) kd fl len pp = false → dvM (L.E 0) kd fl len pp = [] from tk.no)
          obtain ⟨e9, he9⟩ : ∃ e9, dvG (L.E 0) kd fl len ack pp = e9 := ⟨_, rfl⟩
          have HG := Lib.hid he9
          obtain ⟨dc, hdc⟩ : ∃ dc, dvC (L.E 0) kd fl len pp = dc := ⟨_, rfl⟩
          have HC := Lib.hid hdc
          obtain ⟨ms, hms⟩ : ∃ ms, dvM (L.E 0) kd fl len pp = ms := ⟨_, rfl⟩
          have HM := Lib.hid hms
          have HY := Lib.hid hY
          clear tk hok he9 hdc hms hgd
          rw [hl1] at y0
          have hi0 : (0 : Int) < (ls.length : Int) + 1 := by omega
          go_upto_region 33 with (fail)
          obtain ⟨w5, hw5⟩ : ∃ w', wc = w' := ⟨_, rfl⟩
          rw [hw5] at hM hB x0 y0
          rw [hw5]
          have hvs := hM.way 0 (by omega)
          have hvq := hvs.part.now
          rw [hl1, hY] at hvq
          obtain ⟨b, ob, cur, hA, hrb, hcell⟩ := hvq.cells (by omega)
          have hlbd : b < w5.drew.heap.size := hrb.lt
          have hrng : w5.drew.rangeAt b ob (LV kd el fl len ack pp).toList := fun j v hv => by
            refine hcell j v ?_
            show ((LV kd el fl len ack pp).toList ++ lsC ls)[j]? = some v
            rw [List.getElem?_append_left (List.getElem?_eq_some_iff.1 hv).1]
            exact hv
          have yt : w5.drew.cell? ⟨o.gy, 0, none⟩ = some (.slice (q.yA 0) (ls.length + 1) (q.yc 0)) := y0
          rw [hA] at yt
          have HA := Lib.hid hA
          have hlyd : o.gy < w5.drew.heap.size := hM.ylt
          have hled : o.ge < w5.drew.heap.size := hM.elt
          have hHd : Held w5.drew (L.E 0) (q.A 0) (q.c 0) (q.B 0) (q.d 0) := (hM.drew.held 0 (by omega)).now
          have x0 : w5.drew.rangeAt o.ge 0 _ := x0
          have hM5d := hM.drew
          have hB5d : Below W.heap.size W w5.drew := hB.drew
          clear hM hB hvs hvq hrb hcell hA y0 hw5 hY
          refine wp_region_late (n := 247) [15] (DeS w5.drew e9 14) (DeG w5.drew) (by kernel_rfl) (by kernel_rfl) (by rfl) (DeS.loc (by kernel_rfl)) ⟨Below.refl _ _, fun h => by omega⟩ ?_
          generalize w5.drew = wd at *
          iterate 2 (refine late_pure (by simp) (fun w => DeG.refl _ _) (v := ?_) (fun _ => rfl) ?_ ?_; rotate_left; (focus (intro c9 us w9 hm9 hS9 hF; clear hF hm9; go_simp; (try with_reducible rfl); done)); simp only [Act.put, zA, zB, zC, Nat.reduceAdd])
          refine late_pure (by simp) (fun w => DeG.refl _ _) (v := .agg (LEV (L.E 0) (q.A 0) (q.c 0) (q.B 0) (q.d 0))) (fun _ => rfl) ?_ ?_; (focus (intro c9 us w9 hm9 hS9 hF; exact exec_load_g (fun j v hv => (hS9.1.cell (p := ⟨o.ge, 0 + j, none⟩) hled).trans (x0 j v hv)) Try.underlying69 rfl (lev_info _ _ _ _ _) rfl)); simp only [Act.put, zA, zB, zC, Nat.reduceAdd]
          iterate 2 (refine late_pure (by simp) (fun w => DeG.refl _ _) (v := ?_) (fun _ => rfl) ?_ ?_; rotate_left; (focus (intro c9 us w9 hm9 hS9 hF; clear hF hm9; go_simp; (try with_reducible rfl); done)); simp only [Act.put, zA, zB, zC, Nat.reduceAdd])
          refine late_pure (by simp) (fun w => DeG.refl _ _) (v := ?_) (fun _ => rfl) ?_ ?_; rotate_left; (focus (intro c9 us w9 hm9 hS9 hF; have by9 := (hS9.1.cell (p := ⟨o.gy, 0, none⟩) hlyd).trans yt; clear hF hm9; go_simp; (try with_reducible rfl); done)); simp only [Act.put, zA, zB, zC, Nat.reduceAdd]
          refine late_pure (by simp) (fun w => DeG.refl _ _) (v := ?_) (fun _ => rfl) ?_ ?_; rotate_left; (focus (intro c9 us w9 hm9 hS9 hF; clear hF hm9; go_simp; (try with_reducible rfl); done)); simp only [Act.put, zA, zB, zC, Nat.reduceAdd]
          refine late_pure (by simp) (fun w => DeG.refl _ _) (v := .agg (LV kd el fl len ack pp)) (fun _ => rfl) ?_ ?_; (focus (intro c9 us w9 hm9 hS9 hF; exact exec_load_g (fun j v hv => (hS9.1.cell (p := ⟨b, ob + j, none⟩) hlbd).trans (hrng j v hv)) Try.underlying40 rfl (line_info _ _ _ _ _ hpp) rfl)); simp only [Act.put, zA, zB, zC, Nat.reduceAdd]
          refine late_free (by simp) (De7 wd e9 ms dc) (De7.mono) ?_ ?_; (focus (intro c9 us w9 hm9 hS9 hF K hK; have hc9 : c9 < 1 := (by rcases Nat.lt_or_ge c9 1 with h9 | h9; exact h9; exact absurd hm9 (by rw [mayAt_no (d := 0) (by kernel_rfl) (by omega) (by decide)]; decide)); clear hF; go_simp; refine (deliver_is HE.out HG.out HM.out HC.out ht (hHd.below hS9.1) hpp hack).mono ?_; rintro en w' ⟨A, c, B, d, M, mc, rfl, h1, h2, hb⟩; exact hK _ w' ⟨below_on hS9.1 hb, fun h => by omega⟩ (DeG.below hb) ⟨A, c, B, d, M, mc, rfl, HeldT.lower h1 hS9.1.size, h2.lower hS9.1.size⟩)); simp only [Act.put, zA, zB, zC, Nat.reduceAdd]
          refine late_free (by simp) (De7 wd e9 ms dc) (De7.mono) ?_ ?_; (focus (intro c9 us w9 hm9 hS9 hF K hK; obtain ⟨A, c, B, d, M, mc, hu, h1, h2⟩ := hF (8, De7 wd e9 ms dc) (by simp) (by kernel_rfl); clear hF; dsimp only at hu; simp only [hu] at hK ⊢; go_simp; exact hK _ w9 hS9 (DeG.refl _ _) ⟨A, c, B, d, M, mc, rfl, h1, h2⟩)); simp only [Act.put, zA, zB, zC, Nat.reduceAdd]
          refine late_free (by simp) (De9 wd e9) (De9.mono) ?_ ?_; (focus (intro c9 us w9 hm9 hS9 hF K hK; obtain ⟨A, c, B, d, M, mc, hu, h1, h2⟩ := hF (9, De7 wd e9 ms dc) (by simp) (by kernel_rfl); clear hF; dsimp only at hu; simp only [hu] at hK ⊢; go_simp; exact hK _ w9 hS9 (DeG.refl _ _) ⟨A, c, B, d, rfl, h1⟩)); simp only [Act.put, zA, zB, zC, Nat.reduceAdd]
          refine late_free (by simp) (De10 wd ms) (De10.mono) ?_ ?_; (focus (intro c9 us w9 hm9 hS9 hF K hK; obtain ⟨A, c, B, d, M, mc, hu, h1, h2⟩ := hF (9, De7 wd e9 ms dc) (by simp) (by kernel_rfl); clear hF; dsimp only at hu; simp only [hu] at hK ⊢; go_simp; exact hK _ w9 hS9 (DeG.refl _ _) ⟨M, mc, rfl, h2⟩)); simp only [Act.put, zA, zB, zC, Nat.reduceAdd]
          refine late_pure (by simp) (fun w => DeG.refl _ _) (v := .bool dc) (fun _ => rfl) ?_ ?_; (focus (intro c9 us w9 hm9 hS9 hF; obtain ⟨A, c, B, d, M, mc, hu, -⟩ := hF (9, De7 wd e9 ms dc) (by simp) (by kernel_rfl); dsimp only at hu; simp only [hu]; go_simp)); simp only [Act.put, zA, zB, zC, Nat.reduceAdd]
          refine late_pure (by simp) (fun w => DeG.refl _ _) (v := .int .i64 0) (fun _ => rfl) ?_ ?_; (focus (intro c9 us w9 hm9 hS9 hF; obtain ⟨A, c, B, d, M, mc, hu, -⟩ := hF (9, De7 wd e9 ms dc) (by simp) (by kernel_rfl); dsimp only at hu; simp only [hu]; go_simp)); simp only [Act.put, zA, zB, zC, Nat.reduceAdd]
          refine late_free (by simp) (PtrN wd.heap.size 69 10) (PtrN.monoG) ?_ ?_; (focus (intro c9 us w9 hm9 hS9 hF K hK; have hc9 : c9 < 1 := (by rcases Nat.lt_or_ge c9 1 with h9 | h9; exact h9; exact absurd hm9 (by rw [mayAt_no (d := 0) (by kernel_rfl) (by omega) (by decide)]; decide)); clear hF; go_simp; exact hK _ _ ⟨hS9.1.alloc hS9.1.size (.cells ZE 69), fun h => by omega⟩ ⟨Keeps.below ((Below.refl _ _).alloc (Nat.le_refl _) _), Shp.alloc _ _ _⟩ ⟨w9.heap.size, ZE, rfl, hS9.1.size, Row.born w9 69 ZE, rfl⟩)); simp only [Act.put, zA, zB, zC, Nat.reduceAdd]
          refine late_store rfl ?_ ?_; (focus (intro us w9 hS9 hF K hK; obtain ⟨A, c, B, d, hu9, h1⟩ := hF (10, De9 wd e9) (by simp) (by kernel_rfl); obtain ⟨b3, cs, hu, hb3, hr, hn⟩ := hF (14, PtrN wd.heap.size 69 10) (by simp) (by kernel_rfl); dsimp only at hu9 hu; clear hF; simp only [hu9, hu] at hK ⊢; rw [if_pos (by rfl)]; exact step_put (L := LEV e9 A c B d) hr hn (lev_info _ _ _ _ _) (lev_one _ _ _ _ _) rfl rfl (fun w' u' r' => hK w' ⟨Upd.below hS9.1 u' hb3, fun _ => ⟨b3, A, c, B, d, hu, hb3, r', h1.keeps (Keeps.upd (ts := [69]) u' hr (by simp)) (by decide) (by decide)⟩⟩ ⟨Keeps.upd (ts := [69]) u' hr (by simp), Shp.upd u' hr r' hn⟩))); simp only [Nat.reduceAdd]
          refine late_free (by simp) (De10 wd ms) (De10.mono) ?_ ?_; (focus (intro c9 us w9 hm9 hS9 hF K hK; obtain ⟨M, mc, hu, h2⟩ := hF (11, De10 wd ms) (by simp) (by kernel_rfl); clear hF; dsimp only at hu; simp only [hu] at hK ⊢; go_simp; exact hK _ w9 hS9 (DeG.refl _ _) ⟨M, mc, rfl, h2⟩)); simp only [Act.put, zA, zB, zC, Nat.reduceAdd]
          iterate 2 (refine late_pure (by simp) (fun w => DeG.refl _ _) (v := ?_) (fun _ => rfl) ?_ ?_; rotate_left; (focus (intro c9 us w9 hm9 hS9 hF; clear hF hm9; go_simp; (try with_reducible rfl); done)); simp only [Act.put, zA, zB, zC, Nat.reduceAdd])
          refine late_done fun us wf hS8 hF => ?_
          obtain ⟨M, mc, hu16, hoM⟩ := hF (16, De10 wd ms) (by simp)
          obtain ⟨g8, A8, c8, B8, d8, hu14, hg8, r8, hT8⟩ := hS8.2 (by omega)
          have hbf := hS8.1
          clear hF hS8
          (try dsimp only at hu16 hu14)
          simp only [hu16, hu14]
          clear hu16 hu14
          have hM11 := hM5d.below hbf
          have hB11 := hB5d.trans (hbf.mono hB5d.size)
          have hP11 : Part col 0 wf (fun w => Held w e9 A8 c8 B8 d8) := Part.held hT8.heldI (fun x h1 h2 => hM5d.cm.cn x h1)
          have hMP : Part col 0 wf (fun w => IsB w M ms.length ms) := Part.ownB hoM (fun x h1 => hM5d.cm.cn x h1)
          have hcap2 := OwnB.capM hoM
          clear hM5d hB5d hbf hT8 hoM yt x0 hHd hlbd hlyd hled hrng
          go_upto_region 36 with (fail)
          have hrow : Row wf o.ge 90 (([] : List Value) ++ (LEV (L.E 0) (q.A 0) (q.c 0) (q.B 0) (q.d 0)).toList ++ (LEV (L.E 1) (q.A 1) (q.c 1) (q.B 1) (q.d 1)).toList).toArray := by exact hM11.ends.now
          go_upto_region 37 with (first | ((with_reducible refine wp_load_g ?_ r8.range Try.underlying69 rfl (lev_info _ _ _ _ _) ?_ ?_); rfl; rfl) | ((with_reducible refine wp_put_midU (g := o.ge) (t := 90) (off := 0) (pre := ([] : List Value)) (cs := (LEV (L.E 0) (q.A 0) (q.c 0) (q.B 0) (q.d 0)).toList) (post := (LEV (L.E 1) (q.A 1) (q.c 1) (q.B 1) (q.d 1)).toList) (L := LEV e9 A8 c8 B8 d8) hrow ?_ ?_ (lev_info _ _ _ _ _) (lev_one _ _ _ _ _) ?_ ?_ ?_); rfl; rfl; rfl; rfl; intro w8 u7 r7))

          have hM8 := hM11.putE (s := 0) (by omega) u7 hP11 r7
          have hB8 := hM11.putB u7 hB11
          have hMP8 := hMP.only (Only.upd u7 hM11.ce) (by omega)
          clear hM11 hB11 hP11 hrow r8 u7 r7 hMP
          obtain ⟨x0, x1, y0, y1, fe, fy⟩ := hM8.cells
          clear x0 x1 fe y1
          have hvq := (hM8.way 0 (by omega)).part.now
          obtain ⟨cY, hcY⟩ : ∃ cY, q.yc 0 = cY := ⟨_, rfl⟩
          have hYe : ({ L with E := upd L.E 0 e9 } : WrS).Y 0 = (⟨kd, el, fl, len, ack, pp⟩ : Ln) :: ls := HY.out
          have hYl : (({ L with E := upd L.E 0 e9 } : WrS).Y 0).length = ls.length + 1 := by rw [hYe]; rfl
          rw [hYl] at hvq y0
          rw [hYe] at hvq
          replace hvq : OwnQ w8 40 61 (q.yA 0) (ls.length + 1) (q.yc 0) (lsC ((⟨kd, el, fl, len, ack, pp⟩ : Ln) :: ls)) := hvq
          replace y0 : w8.cell? ⟨o.gy, 0, none⟩ = some (.slice (q.yA 0) (ls.length + 1) (q.yc 0)) := y0
          rw [hcY] at hvq y0
          rw [HA.out] at hvq y0
          have hcapq := hvq.cap
          have hdrop : (lsC ((⟨kd, el, fl, len, ack, pp⟩ : Ln) :: ls)).drop 61 = lsC ls := by
            show ((LV kd el fl len ack pp).toList ++ lsC ls).drop 61 = lsC ls
            rw [List.drop_append_of_le_length (by rw [LV_list _ _ _ _ _ hpp]; omega), List.drop_of_length_le (by rw [LV_list _ _ _ _ _ hpp]; omega)]
            rfl
          have hci : (1 : Int) ≤ (ls.length : Int) + 1 := by omega
          have hcj : (1 : Int) ≤ cY := by omega
          have hck : (ls.length : Int) + 1 ≤ cY := by omega
          obtain ⟨A2, hA2⟩ : ∃ A2 : Option Addr, (if cY - 1 = 0 then some ⟨b, ob, none⟩ else some ⟨b, ob + 61, none⟩) = A2 := ⟨_, rfl⟩
          have HA2 := Lib.hid hA2
          have hq2 : OwnQ w8 40 61 A2 ls.length (cY - 1) (lsC ls) := by
            rw [← hdrop, ← hA2]
            split
            · next hz =>
              obtain rfl : cY = 1 := by omega
              have hl0 : ls.length = 0 := by omega
              rw [hl0] at hvq ⊢
              exact hvq.tail0
            · exact hvq.tail (by omega)
          have hbA2 : blk A2 = blk (q.yA 0) := by
            rw [HA.out, ← hA2]
            split <;> rfl
          clear hA2 hdrop hvq hcY hYl
          go_upto_region 38 with (refine wp_slice_is (v := .slice A2 ls.length (cY - 1)) ?_ ?_; (focus (rw [← HA2.out]; by_cases hz : cY - 1 = 0; (rw [if_pos hz]; go_simp; omega); (rw [if_neg hz]; go_simp; (try omega); done))))
          have hr6 := hM8.ways.now.set 0 (.slice A2 ls.length (cY - 1))
          have u6 := Upd.setCell w8 o.gy 0 (.slice A2 ls.length (cY - 1))
          have hM9 := hM8.tailY (s := 0) (by omega) hYe u6 hbA2 hq2 (by
            unfold YCell
            simp only [upd, if_true]
            exact hr6)
          have hB9 := hM8.tailB u6 hB8
          have hMP9 := hMP8.only (Only.upd u6 hM8.cy) (by omega)
          have hM9 : JM W.heap.size o (i + 1) col _ (U.cn Z) p (deS L 0 ⟨kd, el, fl, len, ack, pp⟩ ls) _ := hM9.same (fun t' ht' => by show upd L.E 0 (dvG (L.E 0) kd fl len ack pp) t' = upd L.E 0 e9 t'; rw [HG.out]) (fun t' ht' => rfl)
          clear hq2 hbA2 hr6 u6 hM8 hB8 hMP8 y0 fy hYe
          generalize w8.setCell ⟨o.gy, 0, none⟩ (.slice A2 ls.length (cY - 1)) = wg at *
          cases dc with
          | false =>
            obtain ⟨hJ2, hj2⟩ := hJ.de0 (by omega) (s := 0) (by omega) HY.out HC.out
            have HLI : Hid (LInv W.heap.size o N W (i + 1) wg) := Lib.hid (MInv.next (s := 0) ⟨U, F, Z, _, col, p, _, c, k, hJ2, hk, hc, hc6, hM9, hB9, hP.go (Nat.le_refl _) hj2 4⟩ (by omega))
            clear hJ2 hj2 hJ hk hc hc6 hM9 hB9 hP hMP9
            go_wp2
            exact ⟨⟨i + 1, by go_num, by omega, HLI.out⟩, by simp [intOf]; omega⟩
          | true =>
            obtain ⟨m, Fs, ys, hF, hm, hU, hR0, hfin⟩ := hJ.de1 (by omega) (s := 0) (by omega) HY.out HC.out
            obtain rfl : ms = m.by := HM.out.symm.trans hm
            have HFN := Lib.hid hfin
            clear hfin
            go_wp2_with (go_at_call 87; (with_reducible refine (st_rcv0 hM9.cm hJ.u (by omega) hU hR0 hMP9 hcap2).mono ?_); rintro en w6 ⟨rfl, S6, F6, Z6, col6, p6, ⟨hF6, hI6, hq6⟩, hR6, hM6, hw6, hc6'⟩; subst hF6; (have HLI : Hid (LInv W.heap.size o N W (i + 1) w6) := Lib.hid (by
                obtain ⟨j1, j2, j3⟩ := HFN.out S6 Z6 hq6 hI6 hR6
                exact MInv.next (s := 0) ⟨S6, _, Z6, _, col6, p6, _, c, k, j1, hk, hc, hc6, hM9.step hM6 hw6 hc6', hM9.stepB hw6 hB9, hP.go (Nat.le_of_lt j3) j2 4⟩ (by omega))); clear hJ hk hc hc6 hM9 hB9 hP hMP9 hM6)
            exact ⟨⟨i + 1, by go_num, by omega, HLI.out⟩, by simp [intOf]; omega⟩
      · skip
        obtain ⟨U, F, Z, L, col, p, q, c, k, hJ, hk, hc, hc6, hM, hB, hP⟩ := hMI
        have hgd := hJ.l.g 1 (by omega)
        have hHd := (hM.held 1 (by omega)).now
        obtain ⟨x0, x1, y0, y1, fe, fy⟩ := hM.cells
        clear y0 y1 fe fy x0
        obtain ⟨E, hE⟩ : ∃ E, nxE (L.E 1) = E := ⟨_, rfl⟩
        have hE2 : E = 0 ∨ E = 17 := by rw [← hE]; exact nx_zero hgd (by have := hJ.l.bs 1 (by omega); omega)
        obtain ⟨e9, he9⟩ : ∃ e9, nxL (L.E 1) = e9 := ⟨_, rfl⟩
        obtain ⟨⟨kd, el, fl, len, ack, pp⟩, hV, hpp, hln⟩ := nxV_ln hgd
        have hpp : pp.length = 56 := hpp
        have HS := Lib.hid (show (L.E 1).s < 4611686018427387904 by have := hJ.l.bs 1 (by omega); omega)
        have HE := Lib.hid hE
        have HL := Lib.hid he9
        have HV := Lib.hid (show nxV (L.E 1) = LV kd el fl len ack pp from hV)
        have HLN := Lib.hid hln
        have ht := hgd.ty
        have hokn := Lib.hid (nxn_ok hgd.ve)
        clear hE he9 hV hln
        go_upto_region 27 with (first | ((with_reducible refine wp_load_g ?_ x1 Try.underlying69 rfl (lev_info _ _ _ _ _) ?_ ?_); rfl; rfl) | (go_at_call 45; (with_reducible refine (next_ok_is hgd HS.out HE.out HL.out HV.out ht hHd).mono ?_); rintro en w3 ⟨A3, c3, B3, d3, rfl, hH3, hb3⟩) | ((with_reducible refine wp_row_store (L := LEV e9 A3 c3 B3 d3) ((Row.bornAt (g := w3.heap.size) rfl 69 _).alloc _) ?_ (lev_info _ _ _ _ _) (lev_one _ _ _ _ _) ?_ ?_ ?_); rfl; rfl; rfl; intro w4 u4 r8) | ((with_reducible refine wp_row_store (L := LV kd el fl len ack pp) ((Row.bornAt (g := w3.heap.size + 1) (by simp) 40 _).upd u4 (by omega)) ?_ (line_info _ _ _ _ _ hpp) (LV_one _ _ _ _ _ _) ?_ ?_ ?_); exact (LV_size _ _ _ _ _ hpp).symm; rfl; rfl; intro w5 u5 r9))
        have hal := ((Below.refl w3.heap.size w3).alloc (Nat.le_refl _) (.cells ZE 69)).alloc (by simp) (.cells ZL 40)
        have hal2 := Upd.below (Upd.below (hb3.trans (hal.mono hb3.size)) u4 hb3.size) u5 (by have := hb3.size; omega)
        have r8 := r8.upd u5 (by omega)
        have hH5 := ((hH3.below hal).upd u4 (.inr (Nat.le_refl _))).upd u5 (.inr (by omega))
        have hM5 := hM.below hal2
        have hB5 := hB.trans (hal2.mono hB.size)
        have hP5 : Part col 0 w5 (fun w => Held w e9 A3 c3 B3 d3) := Part.held hH5 (fun x h1 h2 => hM.cm.cn x h1)
        have hg3 : o.ge < w3.heap.size := Nat.lt_of_lt_of_le hM.elt hb3.size
        clear hM hB hal hal2 hb3 hH3 u4 u5 hH5 x1 hHd
        generalize w3.heap.size = g3 at *
        go_upto_if 167 with (fail)
        go_cut [19, 20] from 67 to 220 (fun u19 u wx => u19 = .int .i64 i ∧ u = .int .i64 1 ∧ MInv W.heap.size o N W i 1 3 (40 * i + 33) wx)
        case first =>
         as_aux_lemma =>
          rcases hE2 with rfl | rfl
          · obtain ⟨hJ2, hj2⟩ := hJ.tr (s := 1) (by omega) HE.out
            have hln := HLN.out HE.out
            have hok := hokn.out
            rw [← hln] at hok
            have HJ2 : Hid (JI N c (k + 1) U F Z (trS L 1)) := Lib.hid hJ2
            have HP2 : Hid (MProg i 1 3 U Z (trS L 1)) := Lib.hid (hP.go (Nat.le_refl _) hj2 3)
            have hYl : (L.Y 0).length ≤ 1000000 := by have := hJ.l.bY 0 (by omega); omega
            clear hJ2 hj2 hP hJ
            go_upto_region 28 with (fail)
            have hrow : Row w5 o.ge 90 ((LEV (L.E 0) (q.A 0) (q.c 0) (q.B 0) (q.d 0)).toList ++ (LEV (L.E 1) (q.A 1) (q.c 1) (q.B 1) (q.d 1)).toList ++ ([] : List Value)).toArray := by rw [List.append_nil]; exact hM5.ends.now
            go_upto_region 29 with (first | ((with_reducible refine wp_load_g ?_ r8.range Try.underlying69 rfl (lev_info _ _ _ _ _) ?_ ?_); rfl; rfl) | ((with_reducible refine wp_put_midU (g := o.ge) (t := 90) (off := 10) (pre := (LEV (L.E 0) (q.A 0) (q.c 0) (q.B 0) (q.d 0)).toList) (cs := (LEV (L.E 1) (q.A 1) (q.c 1) (q.B 1) (q.d 1)).toList) (post := ([] : List Value)) (L := LEV e9 A3 c3 B3 d3) hrow ?_ ?_ (lev_info _ _ _ _ _) (lev_one _ _ _ _ _) ?_ ?_ ?_); rfl; rfl; rfl; rfl; intro w8 u7 r7))
            rw [List.append_nil] at r7
            have hM8 := hM5.putE (s := 1) (by omega) u7 hP5 r7
            have hB8 := (hM5.putB u7 hB5).drew
            have r9 := r9.upd u7 (by omega)
            clear hM5 hB5 hrow r8 u7 r7 hP5
            have hvs := hM8.way 0 (by omega)
            have hvq : OwnQ w8.drew 40 61 (q.yA 0) (L.Y 0).length (q.yc 0) (lsC (L.Y 0)) := hvs.part.now
            have hwr : IntKind.i64.wrap 0 = 0 := by rw [IntKind.wrap_i64]; rfl
            obtain ⟨x0, x1, y0, y1, fe, fy⟩ := hM8.cells
            clear x0 x1 fe fy y1
            have hM8d := hM8.drew
            have yt : w8.drew.cell? ⟨o.gy, 0, none⟩ = some (.slice (q.yA 0) (L.Y 0).length (q.yc 0)) := y0
            have hlyd : o.gy < w8.drew.heap.size := hM8.ylt
            have r9 : Row w8.drew (g3 + 1) 40 (LV kd el fl len ack pp) := r9
            have hal := (Below.refl w8.drew.heap.size w8.drew).alloc (Nat.le_refl _) (.cells (LV kd el fl len ack pp) 40)
            have hMA := hM8d.below hal
            have hBA := hB8.trans (hal.mono hB8.size)
            have hrowA : ∀ w9, (w8.drew.alloc (.cells (LV kd el fl len ack pp) 40)).grownBy w9 (blk (q.yA 0)) → Row w9 o.gy 91 _ := fun w9 h3 => (h3.block o.gy hMA.ylt (fun e => by have h9 := hvs.blk o.gy e.symm; have h8 := hMA.cy; omega)).trans hMA.ways.now
            clear hM8 y0 hB8
            refine wp_region_late (n := 247) [7, 8, 10] (QS w8.drew o.gy 0 40 61 (q.yA 0) (L.Y 0).length (lsC (L.Y 0)) (LV kd el fl len ack pp) 7 8) (fun _ _ => True) (by kernel_rfl) (by kernel_rfl) (by rfl) QS.loc QS.zero ?_
            generalize w8.drew = wd at *
            iterate 5 (refine late_pure (by simp) (fun _ => trivial) (v := ?_) (fun _ => rfl) ?_ ?_; rotate_left; (focus (intro c9 us w9 hm9 hS9 hF; clear hF hm9; go_simp; (try with_reducible rfl); done)); simp only [Act.put, zA, zB, zC, Nat.reduceAdd])
            refine late_pure (by simp) (fun _ => trivial) (v := ?_) (fun _ => rfl) ?_ ?_; rotate_left; (focus (intro c9 us w9 hm9 hS9 hF; have hc9 : c9 < 2 := (by rcases Nat.lt_or_ge c9 2 with h9 | h9; exact h9; exact absurd hm9 (by rw [mayAt_no (d := 1) (by kernel_rfl) (by omega) (by decide)]; decide)); have bcell := ((hS9.early hc9).cell (p := ⟨o.gy, 0, none⟩) hlyd).trans yt; clear hF hm9; go_simp; (try with_reducible rfl); done)); simp only [Act.put, zA, zB, zC, Nat.reduceAdd]
            refine late_pure (by simp) (fun _ => trivial) (v := .agg (LV kd el fl len ack pp)) (fun _ => rfl) ?_ ?_; (focus (intro c9 us w9 hm9 hS9 hF; have hc9 : c9 < 1 := (by rcases Nat.lt_or_ge c9 1 with h9 | h9; exact h9; exact absurd hm9 (by rw [mayAt_no (d := 0) (by kernel_rfl) (by omega) (by decide)]; decide)); have h0 : c9 = 0 := (by omega); have hw9 := hS9.1 h0; subst hw9; exact exec_load_g r9.range Try.underlying40 rfl (line_info _ _ _ _ _ hpp) rfl)); simp only [Act.put, zA, zB, zC, Nat.reduceAdd]
            refine late_chain (by simp) ?_ ?_; (focus (intro us w9 hS9 hF K hK; clear hF; obtain rfl := hS9.1 rfl; rw [if_pos (by rfl)]; exact step_build_1 Try.underlying36 info_ln (LV_size _ _ _ _ _ hpp) (by omega) (by omega) rfl (hK _ _ QS.one trivial))); simp only [Act.put, zA, zB, zC, Nat.reduceAdd]
            refine late_chain (by simp) ?_ ?_; (focus (intro us w9 hS9 hF K hK; clear hF; obtain ⟨hu, rfl⟩ := hS9.2.1 rfl; simp only [hu] at hK ⊢; rw [if_pos (by rfl)]; exact step_append_q (P := Try.prog) Try.underlying36 info_ln rfl (by omega) (hvq.of_same (fun b hb => hal.block b (hvq.lt b hb))) (Row.born _ _ _) (LV_list _ _ _ _ _ hpp) (LV_ones _ _ _ _ _ _) (by omega) (by omega) rfl rfl (fun A' c'' w' b h2 h3 h4 h5 => hK _ _ (QS.two h2 h3 h4 h5) trivial))); simp only [Act.put, zA, zB, zC, Nat.reduceAdd]
            refine late_pure (by simp) (fun _ => trivial) (v := ?_) (fun _ => rfl) ?_ ?_; rotate_left; (focus (intro c9 us w9 hm9 hS9 hF; clear hF hm9; go_simp; (try with_reducible rfl); done)); simp only [Act.put, zA, zB, zC, Nat.reduceAdd]
            refine late_store rfl ?_ ?_; (focus (intro us w9 hS9 hF K hK; clear hF; obtain ⟨A', c', w2, b, hu, h2, h3, h4, h5, h6, -⟩ := hS9.2.2 (by omega); have h6 := h6 rfl; subst h6; simp only [hu] at hK ⊢; have hr9 := hrowA w9 h3; have k9 := hr9.cell 0; have f9 := hr9.frozen 0; simp only [YCell] at k9; have hS10 := hS9.three hu; go_simp; exact hK _ hS10 trivial)); simp only [Nat.reduceAdd]
            refine late_done fun us w12 hS12 hF => ?_
            obtain ⟨A', c', w2, bN, -, hq2, hg2, hbA, hbb, -, hw0⟩ := hS12.2.2 (by omega)
            have hw12 := hw0 (by omega)
            clear hF hS12 hw0
            have hG : GrowK o.gy 21 (22 + 0) bN col (wd.alloc (.cells (LV kd el fl len ack pp) 40)) w2 w12 (blk (q.yA 0)) := ⟨hMA.ylt, hMA.cy, by omega, by omega, by omega, hg2, hvs.blk, hbb, hq2.lt bN hbA, by rw [hw12]; exact Upd.setCell _ _ _ _⟩
            have hr12 := (hrowA w2 hg2).set 0 (.slice A' ((L.Y 0).length + 1) c')
            rw [← hw12] at hr12
            have hlen : (L.Y 0 ++ [(⟨kd, el, fl, len, ack, pp⟩ : Ln)]).length = (L.Y 0).length + 1 := by simp
            have hM12 := hMA.appY (s := 0) (by omega) hG hok hq2 hbA (by
              unfold YCell
              simp only [upd, if_true, hlen]
              exact hr12)
            have hB12 := hG.bel hMA.cm hBA
            have hM13 := Lib.hid (hM12.same (L' := trS L 1) (fun t' ht' => by show upd L.E 1 (nxL (L.E 1)) t' = upd L.E 1 e9 t'; rw [HL.out]) (fun t' ht' => by show upd L.Y 0 (L.Y 0 ++ [nxn (L.E 1)]) t' = upd L.Y 0 (L.Y 0 ++ [_]) t'; rw [hln]))
            have HB12 := Lib.hid hB12
            clear hw12 hG hr12 hrowA hMA hM8d hvq hvs hg2 hq2 hM12 hB12 hBA hal hlen
            go_wp2
            go_meet
            exact ⟨rfl, rfl, U, F, Z, trS L 1, _, p, _, c, k + 1, HJ2.out, by omega, hc, hc6, hM13.out, HB12.out, HP2.out⟩
          · have hkl : k ≤ 40 * i + 33 := by omega
            go_wp2
            go_meet
            exact ⟨rfl, rfl, U, F, Z, L, col, p, q, c, k, hJ, hkl, hc, hc6, hM5, hB5, hP.to3 HE.out⟩
        case rest =>
        clear hM5 hB5 hP5 hP hJ r8 r9 HE HL HV HLN hokn hgd ht
        obtain ⟨rfl, rfl, hMI⟩ := hcut
        obtain ⟨U, F, Z, L, col, p, q, c, k, hJ, hk, hc, hc6, hM, hB, hP⟩ := hMI
        obtain ⟨x0, x1, y0, y1, fe, fy⟩ := hM.cells
        clear x0 y0 fe fy
        cases hY : L.Y 1 with
        | nil =>
         as_aux_lemma =>
          have hl0 : (L.Y 1).length = 0 := by rw [hY]; rfl
          rw [hl0] at y1
          have HLI : Hid (LInv W.heap.size o N W (i + 1) wc) := Lib.hid (MInv.next (s := 1) ⟨U, F, Z, L, col, p, q, c, k, hJ, hk, hc, hc6, hM, hB, hP.to4 hY⟩ (by omega))
          clear x1 hl0 hY hJ hk hc hc6 hM hB hP
          go_wp2
          exact ⟨⟨i + 1, by go_num, by omega, HLI.out⟩, by simp [intOf]; omega⟩
        | cons l ls =>
         as_aux_lemma =>
          have tk := hJ.l.takes (by omega) (s := 1) (by omega) hY
          have hok := tk.ok
          have hgd := hJ.l.g 1 (by omega)
          have ht := hgd.ty
          have hl1 : (L.Y 1).length = ls.length + 1 := by rw [hY]; rfl
          have hls : ls.length ≤ 1000000 := by have := hJ.l.bY 1 (by omega); omega
          obtain ⟨kd, el, fl, len, ack, pp⟩ := l
          have hpp : pp.length = 56 := hok.1
          have hack : 0 ≤ ack ∧ ack < 65536 := hok.2
          have HE := Lib.hid (show dvE (L.E 1) kd el fl len ack pp = 0 from tk.dv)
          have HNO := Lib.hid (show dvC (L.E 1) kd fl len pp = false → dvM (L.E 1) kd fl len pp = [] from tk.no)
          obtain ⟨e9, he9⟩ : ∃ e9, dvG (L.E 1) kd fl len ack pp = e9 := ⟨_, rfl⟩
          have HG := Lib.hid he9
          obtain ⟨dc, hdc⟩ : ∃ dc, dvC (L.E 1) kd fl len pp = dc := ⟨_, rfl⟩
          have HC := Lib.hid hdc
          obtain ⟨ms, hms⟩ : ∃ ms, dvM (L.E 1) kd fl len pp = ms := ⟨_, rfl⟩
          have HM := Lib.hid hms
          have HY := Lib.hid hY
          clear tk hok he9 hdc hms hgd
          rw [hl1] at y1
          have hi0 : (0 : Int) < (ls.length : Int) + 1 := by omega
          go_upto_region 33 with (fail)
          obtain ⟨w5, hw5⟩ : ∃ w', wc = w' := ⟨_, rfl⟩
          rw [hw5] at hM hB x1 y1
          rw [hw5]
          have hvs := hM.way 1 (by omega)
          have hvq := hvs.part.now
          rw [hl1, hY] at hvq
          obtain ⟨b, ob, cur, hA, hrb, hcell⟩ := hvq.cells (by omega)
          have hlbd : b < w5.drew.heap.size := hrb.lt
          have hrng : w5.drew.rangeAt b ob (LV kd el fl len ack pp).toList := fun j v hv => by
            refine hcell j v ?_
            show ((LV kd el fl len ack pp).toList ++ lsC ls)[j]? = some v
            rw [List.getElem?_append_left (List.getElem?_eq_some_iff.1 hv).1]
            exact hv
          have yt : w5.drew.cell? ⟨o.gy, 1, none⟩ = some (.slice (q.yA 1) (ls.length + 1) (q.yc 1)) := y1
          rw [hA] at yt
          have HA := Lib.hid hA
          have hlyd : o.gy < w5.drew.heap.size := hM.ylt
          have hled : o.ge < w5.drew.heap.size := hM.elt
          have hHd : Held w5.drew (L.E 1) (q.A 1) (q.c 1) (q.B 1) (q.d 1) := (hM.drew.held 1 (by omega)).now
          have x1 : w5.drew.rangeAt o.ge 10 _ := x1
          have hM5d := hM.drew
          have hB5d : Below W.heap.size W w5.drew := hB.drew
          clear hM hB hvs hvq hrb hcell hA y1 hw5 hY
          refine wp_region_late (n := 247) [15] (DeS w5.drew e9 14) (DeG w5.drew) (by kernel_rfl) (by kernel_rfl) (by rfl) (DeS.loc (by kernel_rfl)) ⟨Below.refl _ _, fun h => by omega⟩ ?_
          generalize w5.drew = wd at *
          iterate 2 (refine late_pure (by simp) (fun w => DeG.refl _ _) (v := ?_) (fun _ => rfl) ?_ ?_; rotate_left; (focus (intro c9 us w9 hm9 hS9 hF; clear hF hm9; go_simp; (try with_reducible rfl); done)); simp only [Act.put, zA, zB, zC, Nat.reduceAdd])
          refine late_pure (by simp) (fun w => DeG.refl _ _) (v := .agg (LEV (L.E 1) (q.A 1) (q.c 1) (q.B 1) (q.d 1))) (fun _ => rfl) ?_ ?_; (focus (intro c9 us w9 hm9 hS9 hF; exact exec_load_g (fun j v hv => (hS9.1.cell (p := ⟨o.ge, 10 + j, none⟩) hled).trans (x1 j v hv)) Try.underlying69 rfl (lev_info _ _ _ _ _) rfl)); simp only [Act.put, zA, zB, zC, Nat.reduceAdd]
          iterate 2 (refine late_pure (by simp) (fun w => DeG.refl _ _) (v := ?_) (fun _ => rfl) ?_ ?_; rotate_left; (focus (intro c9 us w9 hm9 hS9 hF; clear hF hm9; go_simp; (try with_reducible rfl); done)); simp only [Act.put, zA, zB, zC, Nat.reduceAdd])
          refine late_pure (by simp) (fun w => DeG.refl _ _) (v := ?_) (fun _ => rfl) ?_ ?_; rotate_left; (focus (intro c9 us w9 hm9 hS9 hF; have by9 := (hS9.1.cell (p := ⟨o.gy, 1, none⟩) hlyd).trans yt; clear hF hm9; go_simp; (try with_reducible rfl); done)); simp only [Act.put, zA, zB, zC, Nat.reduceAdd]
          refine late_pure (by simp) (fun w => DeG.refl _ _) (v := ?_) (fun _ => rfl) ?_ ?_; rotate_left; (focus (intro c9 us w9 hm9 hS9 hF; clear hF hm9; go_simp; (try with_reducible rfl); done)); simp only [Act.put, zA, zB, zC, Nat.reduceAdd]
          refine late_pure (by simp) (fun w => DeG.refl _ _) (v := .agg (LV kd el fl len ack pp)) (fun _ => rfl) ?_ ?_; (focus (intro c9 us w9 hm9 hS9 hF; exact exec_load_g (fun j v hv => (hS9.1.cell (p := ⟨b, ob + j, none⟩) hlbd).trans (hrng j v hv)) Try.underlying40 rfl (line_info _ _ _ _ _ hpp) rfl)); simp only [Act.put, zA, zB, zC, Nat.reduceAdd]
          refine late_free (by simp) (De7 wd e9 ms dc) (De7.mono) ?_ ?_; (focus (intro c9 us w9 hm9 hS9 hF K hK; have hc9 : c9 < 1 := (by rcases Nat.lt_or_ge c9 1 with h9 | h9; exact h9; exact absurd hm9 (by rw [mayAt_no (d := 0) (by kernel_rfl) (by omega) (by decide)]; decide)); clear hF; go_simp; refine (deliver_is HE.out HG.out HM.out HC.out ht (hHd.below hS9.1) hpp hack).mono ?_; rintro en w' ⟨A, c, B, d, M, mc, rfl, h1, h2, hb⟩; exact hK _ w' ⟨below_on hS9.1 hb, fun h => by omega⟩ (DeG.below hb) ⟨A, c, B, d, M, mc, rfl, HeldT.lower h1 hS9.1.size, h2.lower hS9.1.size⟩)); simp only [Act.put, zA, zB, zC, Nat.reduceAdd]
          refine late_free (by simp) (De7 wd e9 ms dc) (De7.mono) ?_ ?_; (focus (intro c9 us w9 hm9 hS9 hF K hK; obtain ⟨A, c, B, d, M, mc, hu, h1, h2⟩ := hF (8, De7 wd e9 ms dc) (by simp) (by kernel_rfl); clear hF; dsimp only at hu; simp only [hu] at hK ⊢; go_simp; exact hK _ w9 hS9 (DeG.refl _ _) ⟨A, c, B, d, M, mc, rfl, h1, h2⟩)); simp only [Act.put, zA, zB, zC, Nat.reduceAdd]
          refine late_free (by simp) (De9 wd e9) (De9.mono) ?_ ?_; (focus (intro c9 us w9 hm9 hS9 hF K hK; obtain ⟨A, c, B, d, M, mc, hu, h1, h2⟩ := hF (9, De7 wd e9 ms dc) (by simp) (by kernel_rfl); clear hF; dsimp only at hu; simp only [hu] at hK ⊢; go_simp; exact hK _ w9 hS9 (DeG.refl _ _) ⟨A, c, B, d, rfl, h1⟩)); simp only [Act.put, zA, zB, zC, Nat.reduceAdd]
          refine late_free (by simp) (De10 wd ms) (De10.mono) ?_ ?_; (focus (intro c9 us w9 hm9 hS9 hF K hK; obtain ⟨A, c, B, d, M, mc, hu, h1, h2⟩ := hF (9, De7 wd e9 ms dc) (by simp) (by kernel_rfl); clear hF; dsimp only at hu; simp only [hu] at hK ⊢; go_simp; exact hK _ w9 hS9 (DeG.refl _ _) ⟨M, mc, rfl, h2⟩)); simp only [Act.put, zA, zB, zC, Nat.reduceAdd]
          refine late_pure (by simp) (fun w => DeG.refl _ _) (v := .bool dc) (fun _ => rfl) ?_ ?_; (focus (intro c9 us w9 hm9 hS9 hF; obtain ⟨A, c, B, d, M, mc, hu, -⟩ := hF (9, De7 wd e9 ms dc) (by simp) (by kernel_rfl); dsimp only at hu; simp only [hu]; go_simp)); simp only [Act.put, zA, zB, zC, Nat.reduceAdd]
          refine late_pure (by simp) (fun w => DeG.refl _ _) (v := .int .i64 0) (fun _ => rfl) ?_ ?_; (focus (intro c9 us w9 hm9 hS9 hF; obtain ⟨A, c, B, d, M, mc, hu, -⟩ := hF (9, De7 wd e9 ms dc) (by simp) (by kernel_rfl); dsimp only at hu; simp only [hu]; go_simp)); simp only [Act.put, zA, zB, zC, Nat.reduceAdd]
          refine late_free (by simp) (PtrN wd.heap.size 69 10) (PtrN.monoG) ?_ ?_; (focus (intro c9 us w9 hm9 hS9 hF K hK; have hc9 : c9 < 1 := (by rcases Nat.lt_or_ge c9 1 with h9 | h9; exact h9; exact absurd hm9 (by rw [mayAt_no (d := 0) (by kernel_rfl) (by omega) (by decide)]; decide)); clear hF; go_simp; exact hK _ _ ⟨hS9.1.alloc hS9.1.size (.cells ZE 69), fun h => by omega⟩ ⟨Keeps.below ((Below.refl _ _).alloc (Nat.le_refl _) _), Shp.alloc _ _ _⟩ ⟨w9.heap.size, ZE, rfl, hS9.1.size, Row.born w9 69 ZE, rfl⟩)); simp only [Act.put, zA, zB, zC, Nat.reduceAdd]
          refine late_store rfl ?_ ?_; (focus (intro us w9 hS9 hF K hK; obtain ⟨A, c, B, d, hu9, h1⟩ := hF (10, De9 wd e9) (by simp) (by kernel_rfl); obtain ⟨b3, cs, hu, hb3, hr, hn⟩ := hF (14, PtrN wd.heap.size 69 10) (by simp) (by kernel_rfl); dsimp only at hu9 hu; clear hF; simp only [hu9, hu] at hK ⊢; rw [if_pos (by rfl)]; exact step_put (L := LEV e9 A c B d) hr hn (lev_info _ _ _ _ _) (lev_one _ _ _ _ _) rfl rfl (fun w' u' r' => hK w' ⟨Upd.below hS9.1 u' hb3, fun _ => ⟨b3, A, c, B, d, hu, hb3, r', h1.keeps (Keeps.upd (ts := [69]) u' hr (by simp)) (by decide) (by decide)⟩⟩ ⟨Keeps.upd (ts := [69]) u' hr (by simp), Shp.upd u' hr r' hn⟩))); simp only [Nat.reduceAdd]
          refine late_free (by simp) (De10 wd ms) (De10.mono) ?_ ?_; (focus (intro c9 us w9 hm9 hS9 hF K hK; obtain ⟨M, mc, hu, h2⟩ := hF (11, De10 wd ms) (by simp) (by kernel_rfl); clear hF; dsimp only at hu; simp only [hu] at hK ⊢; go_simp; exact hK _ w9 hS9 (DeG.refl _ _) ⟨M, mc, rfl, h2⟩)); simp only [Act.put, zA, zB, zC, Nat.reduceAdd]
          iterate 2 (refine late_pure (by simp) (fun w => DeG.refl _ _) (v := ?_) (fun _ => rfl) ?_ ?_; rotate_left; (focus (intro c9 us w9 hm9 hS9 hF; clear hF hm9; go_simp; (try with_reducible rfl); done)); simp only [Act.put, zA, zB, zC, Nat.reduceAdd])
          refine late_done fun us wf hS8 hF => ?_
          obtain ⟨M, mc, hu16, hoM⟩ := hF (16, De10 wd ms) (by simp)
          obtain ⟨g8, A8, c8, B8, d8, hu14, hg8, r8, hT8⟩ := hS8.2 (by omega)
          have hbf := hS8.1
          clear hF hS8
          (try dsimp only at hu16 hu14)
          simp only [hu16, hu14]
          clear hu16 hu14
          have hM11 := hM5d.below hbf
          have hB11 := hB5d.trans (hbf.mono hB5d.size)
          have hP11 : Part col 0 wf (fun w => Held w e9 A8 c8 B8 d8) := Part.held hT8.heldI (fun x h1 h2 => hM5d.cm.cn x h1)
          have hMP : Part col 0 wf (fun w => IsB w M ms.length ms) := Part.ownB hoM (fun x h1 => hM5d.cm.cn x h1)
          have hcap2 := OwnB.capM hoM
          clear hM5d hB5d hbf hT8 hoM yt x1 hHd hlbd hlyd hled hrng
          go_upto_region 36 with (fail)
          have hrow : Row wf o.ge 90 ((LEV (L.E 0) (q.A 0) (q.c 0) (q.B 0) (q.d 0)).toList ++ (LEV (L.E 1) (q.A 1) (q.c 1) (q.B 1) (q.d 1)).toList ++ ([] : List Value)).toArray := by rw [List.append_nil]; exact hM11.ends.now
          go_upto_region 37 with (first | ((with_reducible refine wp_load_g ?_ r8.range Try.underlying69 rfl (lev_info _ _ _ _ _) ?_ ?_); rfl; rfl) | ((with_reducible refine wp_put_midU (g := o.ge) (t := 90) (off := 10) (pre := (LEV (L.E 0) (q.A 0) (q.c 0) (q.B 0) (q.d 0)).toList) (cs := (LEV (L.E 1) (q.A 1) (q.c 1) (q.B 1) (q.d 1)).toList) (post := ([] : List Value)) (L := LEV e9 A8 c8 B8 d8) hrow ?_ ?_ (lev_info _ _ _ _ _) (lev_one _ _ _ _ _) ?_ ?_ ?_); rfl; rfl; rfl; rfl; intro w8 u7 r7))
          rw [List.append_nil] at r7
          have hM8 := hM11.putE (s := 1) (by omega) u7 hP11 r7
          have hB8 := hM11.putB u7 hB11
          have hMP8 := hMP.only (Only.upd u7 hM11.ce) (by omega)
          clear hM11 hB11 hP11 hrow r8 u7 r7 hMP
          obtain ⟨x0, x1, y0, y1, fe, fy⟩ := hM8.cells
          clear x0 x1 fe y0
          have hvq := (hM8.way 1 (by omega)).part.now
          obtain ⟨cY, hcY⟩ : ∃ cY, q.yc 1 = cY := ⟨_, rfl⟩
          have hYe : ({ L with E := upd L.E 1 e9 } : WrS).Y 1 = (⟨kd, el, fl, len, ack, pp⟩ : Ln) :: ls := HY.out
          have hYl : (({ L with E := upd L.E 1 e9 } : WrS).Y 1).length = ls.length + 1 := by rw [hYe]; rfl
          rw [hYl] at hvq y1
          rw [hYe] at hvq
          replace hvq : OwnQ w8 40 61 (q.yA 1) (ls.length + 1) (q.yc 1) (lsC ((⟨kd, el, fl, len, ack, pp⟩ : Ln) :: ls)) := hvq
          replace y1 : w8.cell? ⟨o.gy, 1, none⟩ = some (.slice (q.yA 1) (ls.length + 1) (q.yc 1)) := y1
          rw [hcY] at hvq y1
          rw [HA.out] at hvq y1
          have hcapq := hvq.cap
          have hdrop : (lsC ((⟨kd, el, fl, len, ack, pp⟩ : Ln) :: ls)).drop 61 = lsC ls := by
            show ((LV kd el fl len ack pp).toList ++ lsC ls).drop 61 = lsC ls
            rw [List.drop_append_of_le_length (by rw [LV_list _ _ _ _ _ hpp]; omega), List.drop_of_length_le (by rw [LV_list _ _ _ _ _ hpp]; omega)]
            rfl
          have hci : (1 : Int) ≤ (ls.length : Int) + 1 := by omega
          have hcj : (1 : Int) ≤ cY := by omega
          have hck : (ls.length : Int) + 1 ≤ cY := by omega
          obtain ⟨A2, hA2⟩ : ∃ A2 : Option Addr, (if cY - 1 = 0 then some ⟨b, ob, none⟩ else some ⟨b, ob + 61, none⟩) = A2 := ⟨_, rfl⟩
          have HA2 := Lib.hid hA2
          have hq2 : OwnQ w8 40 61 A2 ls.length (cY - 1) (lsC ls) := by
            rw [← hdrop, ← hA2]
            split
            · next hz =>
              obtain rfl : cY = 1 := by omega
              have hl0 : ls.length = 0 := by omega
              rw [hl0] at hvq ⊢
              exact hvq.tail0
            · exact hvq.tail (by omega)
          have hbA2 : blk A2 = blk (q.yA 1) := by
            rw [HA.out, ← hA2]
            split <;> rfl
          clear hA2 hdrop hvq hcY hYl
          go_upto_region 38 with (refine wp_slice_is (v := .slice A2 ls.length (cY - 1)) ?_ ?_; (focus (rw [← HA2.out]; by_cases hz : cY - 1 = 0; (rw [if_pos hz]; go_simp; omega); (rw [if_neg hz]; go_simp; (try omega); done))))
          have hr6 := hM8.ways.now.set 1 (.slice A2 ls.length (cY - 1))
          have u6 := Upd.setCell w8 o.gy 1 (.slice A2 ls.length (cY - 1))
          have hM9 := hM8.tailY (s := 1) (by omega) hYe u6 hbA2 hq2 (by
            unfold YCell
            simp only [upd, if_true]
            exact hr6)
          have hB9 := hM8.tailB u6 hB8
          have hMP9 := hMP8.only (Only.upd u6 hM8.cy) (by omega)
          have hM9 : JM W.heap.size o (i + 1) col _ (U.cn Z) p (deS L 1 ⟨kd, el, fl, len, ack, pp⟩ ls) _ := hM9.same (fun t' ht' => by show upd L.E 1 (dvG (L.E 1) kd fl len ack pp) t' = upd L.E 1 e9 t'; rw [HG.out]) (fun t' ht' => rfl)
          clear hq2 hbA2 hr6 u6 hM8 hB8 hMP8 y1 fy hYe
          generalize w8.setCell ⟨o.gy, 1, none⟩ (.slice A2 ls.length (cY - 1)) = wg at *
          cases dc with
          | false =>
            obtain ⟨hJ2, hj2⟩ := hJ.de0 (by omega) (s := 1) (by omega) HY.out HC.out
            have HLI : Hid (LInv W.heap.size o N W (i + 1) wg) := Lib.hid (MInv.next (s := 1) ⟨U, F, Z, _, col, p, _, c, k, hJ2, hk, hc, hc6, hM9, hB9, hP.go (Nat.le_refl _) hj2 4⟩ (by omega))
            clear hJ2 hj2 hJ hk hc hc6 hM9 hB9 hP hMP9
            go_wp2
            exact ⟨⟨i + 1, by go_num, by omega, HLI.out⟩, by simp [intOf]; omega⟩
          | true =>
            obtain ⟨m, Fs, ys, hF, hm, hU, hR0, hfin⟩ := hJ.de1 (by omega) (s := 1) (by omega) HY.out HC.out
            obtain rfl : ms = m.by := HM.out.symm.trans hm
            have HFN := Lib.hid hfin
            clear hfin
            go_wp2_with (go_at_call 87; (with_reducible refine (st_rcv1 hM9.cm hJ.u (by omega) hU hR0 hMP9 hcap2).mono ?_); rintro en w6 ⟨rfl, S6, F6, Z6, col6, p6, ⟨hF6, hI6, hq6⟩, hR6, hM6, hw6, hc6'⟩; subst hF6; (have HLI : Hid (LInv W.heap.size o N W (i + 1) w6) := Lib.hid (by
                obtain ⟨j1, j2, j3⟩ := HFN.out S6 Z6 hq6 hI6 hR6
                exact MInv.next (s := 1) ⟨S6, _, Z6, _, col6, p6, _, c, k, j1, hk, hc, hc6, hM9.step hM6 hw6 hc6', hM9.stepB hw6 hB9, hP.go (Nat.le_of_lt j3) j2 4⟩ (by omega))); clear hJ hk hc hc6 hM9 hB9 hP hMP9 hM6)
            exact ⟨⟨i + 1, by go_num, by omega, HLI.out⟩, by simp [intOf]; omega⟩
    · obtain rfl : i = 3060 := by omega
      have d1 : decide ((3060 : Nat) < 3060) = false := by decide
      have d1i : decide ((3060 : Int) < 3060) = false := by decide
      obtain ⟨U, F, Z, L, col, p, q, c, hJ, hc, hc6, hM, hB, hP⟩ := hLI
      have hu := hP.done
      have h0 : U.pot 0 = 0 := by unfold upots at hu; omega
      have h1 : U.pot 1 = 0 := by unfold upots at hu; omega
      clear hu hP
      obtain ⟨w2, hw2⟩ : ∃ w2, wr = w2 := ⟨_, rfl⟩
      go_upto_region 41 with (fail)
      go_loopw [30] (fun v wq => ∃ s : Nat, s ≤ 2 ∧ v = .int .i64 s ∧ wq = w2) (fun v _ => 2 - (intOf v).toNat)
      case atStart => exact ⟨0, by omega, rfl, rfl⟩
      case round =>
        obtain ⟨s, hs, rfl, hwq⟩ := hrel
        subst hwq
        subst hw2
        rcases (by omega : s = 0 ∨ s = 1 ∨ s = 2) with h' | h' | h' <;> subst h'
        · as_aux_lemma =>
          obtain ⟨-, -, -, hone⟩ := uc_pot_zero hJ.u h0 h1 (s := 0) (by omega)
          obtain ⟨O1, hO1e⟩ : ∃ O1, U.O 0 = O1 := ⟨_, rfl⟩
          have hO1 : O1.length ≤ 1000 := by
            have h1 := (hJ.u.sd (s := 0) (by omega)).dir.ol
            have h2 := (hJ.u.sd (s := 0) (by omega)).lc
            rw [← hO1e]; omega
          rw [hO1e] at hone
          have hIO : (U.cn Z).I 4 = O1 := hO1e
          have iO : wr.cell? ⟨o.g, 18, none⟩ = some (.slice (p.iA 4) O1.length (p.ic 4)) := by
            have h : wr.cell? ⟨o.g, 18, none⟩ = some (.slice (p.iA 4) ((U.cn Z).I 4).length (p.ic 4)) := hM.cm.row.now.cell 18
            rw [hIO] at h
            exact h
          have hcells : ∀ k, k < O1.length → ∃ b oo, p.iA 4 = some ⟨b, oo, none⟩ ∧ wr.cell? ⟨b, oo + k, none⟩ = some (.int .i64 1) := fun k hk => by
            obtain ⟨bO, oO, curO, hAO, hrO, hcO⟩ := (hM.cm.ints 4 (by omega)).part.now.cells (by rw [hIO]; omega)
            exact ⟨bO, oO, hAO, hcO k _ (iv_at (by rw [hIO]; exact hone k hk))⟩
          have HCE := Lib.hid hcells
          clear hone hcells hIO hO1e hJ hM h0 h1
          obtain ⟨w3, hw3⟩ : ∃ w3, wr = w3 := ⟨_, rfl⟩
          go_upto_region 44 with (fail)
          go_loopw [31] (fun v wq => ∃ k : Nat, v = .int .i64 k ∧ k ≤ O1.length ∧ wq = w3) (fun v _ => O1.length - (intOf v).toNat)
          case atStart => exact ⟨0, rfl, Nat.zero_le _, rfl⟩
          case round =>
            obtain ⟨k, rfl, hk, hwq⟩ := hrel
            subst hwq
            subst hw3
            rcases Nat.lt_or_ge k O1.length with hkl | hkl
            · have dk : decide (k < O1.length) = true := decide_eq_true hkl
              have dki : decide ((k : Int) < (O1.length : Int)) = true := decide_eq_true (by omega)
              have hki : (k : Int) < (O1.length : Int) := by omega
              have hk0 : (0 : Int) ≤ (k : Int) := by omega
              obtain ⟨bO, oO, hAO, hcO⟩ := HCE.out k hkl
              rw [hAO] at iO
              clear hAO
              go_wp2
              exact ⟨⟨k + 1, by go_num, by omega, trivial⟩, by simp [intOf]; omega⟩
            · have dk : decide (k < O1.length) = false := decide_eq_false (by omega)
              have dki : decide ((k : Int) < (O1.length : Int)) = false := decide_eq_false (by omega)
              clear hkl hk
              go_wp2
              exact ⟨⟨1, by omega, by go_num, trivial⟩, by simp [intOf]⟩
        · as_aux_lemma =>
          obtain ⟨-, -, -, hone⟩ := uc_pot_zero hJ.u h0 h1 (s := 1) (by omega)
          obtain ⟨O1, hO1e⟩ : ∃ O1, U.O 1 = O1 := ⟨_, rfl⟩
          have hO1 : O1.length ≤ 1000 := by
            have h1 := (hJ.u.sd (s := 1) (by omega)).dir.ol
            have h2 := (hJ.u.sd (s := 1) (by omega)).lc
            rw [← hO1e]; omega
          rw [hO1e] at hone
          have hIO : (U.cn Z).I 5 = O1 := hO1e
          have iO : wr.cell? ⟨o.g, 19, none⟩ = some (.slice (p.iA 5) O1.length (p.ic 5)) := by
            have h : wr.cell? ⟨o.g, 19, none⟩ = some (.slice (p.iA 5) ((U.cn Z).I 5).length (p.ic 5)) := hM.cm.row.now.cell 19
            rw [hIO] at h
            exact h
          have hcells : ∀ k, k < O1.length → ∃ b oo, p.iA 5 = some ⟨b, oo, none⟩ ∧ wr.cell? ⟨b, oo + k, none⟩ = some (.int .i64 1) := fun k hk => by
            obtain ⟨bO, oO, curO, hAO, hrO, hcO⟩ := (hM.cm.ints 5 (by omega)).part.now.cells (by rw [hIO]; omega)
            exact ⟨bO, oO, hAO, hcO k _ (iv_at (by rw [hIO]; exact hone k hk))⟩
          have HCE := Lib.hid hcells
          clear hone hcells hIO hO1e hJ hM h0 h1
          obtain ⟨w3, hw3⟩ : ∃ w3, wr = w3 := ⟨_, rfl⟩
          go_upto_region 44 with (fail)
          go_loopw [31] (fun v wq => ∃ k : Nat, v = .int .i64 k ∧ k ≤ O1.length ∧ wq = w3) (fun v _ => O1.length - (intOf v).toNat)
          case atStart => exact ⟨0, rfl, Nat.zero_le _, rfl⟩
          case round =>
            obtain ⟨k, rfl, hk, hwq⟩ := hrel
            subst hwq
            subst hw3
            rcases Nat.lt_or_ge k O1.length with hkl | hkl
            · have dk : decide (k < O1.length) = true := decide_eq_true hkl
              have dki : decide ((k : Int) < (O1.length : Int)) = true := decide_eq_true (by omega)
              have hki : (k : Int) < (O1.length : Int) := by omega
              have hk0 : (0 : Int) ≤ (k : Int) := by omega
              obtain ⟨bO, oO, hAO, hcO⟩ := HCE.out k hkl
              rw [hAO] at iO
              clear hAO
              go_wp2
              exact ⟨⟨k + 1, by go_num, by omega, trivial⟩, by simp [intOf]; omega⟩
            · have dk : decide (k < O1.length) = false := decide_eq_false (by omega)
              have dki : decide ((k : Int) < (O1.length : Int)) = false := decide_eq_false (by omega)
              clear hkl hk
              go_wp2
              exact ⟨⟨2, by omega, by go_num, trivial⟩, by simp [intOf]⟩
        · clear hM hJ
          go_wp2_with (go_at_call 62; refine (awake32 _).mono ?_; rintro en wz ⟨rfl, hbz⟩)
          go_ret
          exact ⟨rfl, hB.trans (hbz.mono hB.size)⟩
end
end Go.Proofs.Ythjkhambmgepdaa
