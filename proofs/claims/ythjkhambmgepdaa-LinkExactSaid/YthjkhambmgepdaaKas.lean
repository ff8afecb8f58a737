/- Texts Fm, without what this claim does not use. -/
import Derived.Test.YthjkhambmgepdaaKar
namespace Go.Proofs.Ythjkhambmgepdaa
section
open Go.RowKit
set_option linter.unusedVariables false
set_option linter.unusedSimpArgs false
set_option maxRecDepth 100000 in
set_option maxHeartbeats 8000000 in
theorem nxr_enda1 (e : LE) (A B : Option Addr) (c d : Nat) (W : World) (ht : e.ty) (hH : Held W e A c B d) (hv : vE e = true) (hq0 : 0 < e.q.length) (hf0 : 0 < fr e.n e.s e.a) (hs : e.s ≠ 4611686018427387904) (hoff : e.off = -1) (h52 : (frM e).length ≤ 52) : Calls Try.prog 50 #[.agg (LEV e A c B d)] W (NxP e W) := by
  have hg0 : nxGo e = true := by simp [nxGo, hq0, hf0]
  have d0 : decide (0 < e.q.length) = true := decide_eq_true hq0
  have d0i : decide ((0 : Int) < (e.q.length : Int)) = true := decide_eq_true (by omega)
  have h0i : (0 : Int) < (e.q.length : Int) := by omega
  obtain ⟨x, hx⟩ : ∃ x, fr e.n e.s e.a = x := ⟨_, rfl⟩
  have hfx := hf0
  rw [hx] at hfx
  have dx : decide (0 < x) = true := decide_eq_true hfx
  have HX := Lib.hid hx
  have HV := Lib.hid hv
  have hve := vE_yes hv
  have hfm := hve.qm _ (frM_mem hq0)
  have hcon := Lib.hid (send_goR ht hve hq0 hf0 hs)
  have HE := Lib.hid (show nxE e = 0 by unfold nxE; rw [hv, hg0, if_pos rfl, if_pos rfl, if_neg hs])
  have HG := Lib.hid hg0
  obtain ⟨hDs, hDi, hD1⟩ := nxD_form (frP_len hve hq0)
  obtain ⟨DD, hDD⟩ : ∃ DD, nxD e = DD := ⟨_, rfl⟩
  rw [hDD] at hcon hDs hDi hD1
  have HDs := Lib.hid hDs
  have HDi := Lib.hid hDi
  have HD1 := Lib.hid hD1
  have HDD := Lib.hid hDD
  clear hDD hDs hDi hD1
  have hof : decide (e.off < 0) = true := by rw [hoff]; rfl
  have hS := Lib.hid (show frS e = (frM e).length by unfold frS; rw [if_pos (by omega)]; omega)
  have hmin : decide ((52 : Int) < (frM e).length) = false := by simp; omega
  have hSl : (frM e).length ≤ (frM e).length := by omega
  have hP := Lib.hid (show frP e = fixB (frM e).length 4 ++ (frM e).take ((frM e).length) by unfold frP; rw [if_pos (by omega), show (frM e).take 52 = (frM e).take ((frM e).length) by first | rfl | (rw [List.take_eq_take_iff]; omega)])
  have hPl := Lib.hid (show (frP e).length = 4 + (frM e).length by rw [hP.out, List.length_append, fixB_len, List.length_take]; omega)
  have o0 : e.off < 0 := by omega
  clear hv hg0 hx hfx hf0 hs
  have hnE : nxEnd e = true := by unfold nxEnd; rw [hS.out]; exact beq_self_eq_true _
  have HGe := Lib.hid (show nxG e = { e with s := e.s + 1, told := e.rc, q := e.q.tail, off := -1 } by unfold nxG; rw [hnE, hS.out]; rfl)
  clear hnE
  obtain ⟨r1, r2, r3, hB1⟩ := three_born W 69 69 40 (LEV e A c B d) ZE ZL
  go_enter Try.func50, Try.ntmps50
  go_upto_region 1 with (fail)
  change Code.wp _ _ _ _ (((W.alloc (.cells (LEV e A c B d) 69)).alloc (.cells ZE 69)).alloc (.cells ZL 40))
  generalize (((W.alloc (.cells (LEV e A c B d) 69)).alloc (.cells ZE 69)).alloc (.cells ZL 40)) = w1 at *
  have hH1 := hH.below hB1
  go_upto_region 3 with (first | ((with_reducible refine wp_load_g ?_ r1.range Try.underlying69 rfl (lev_info _ _ _ _ _) ?_ ?_); rfl; rfl) | (go_at_call 106; (with_reducible refine (end_is HV.out ht hH1).mono ?_); rintro en w2 ⟨rfl, hb2⟩; have r1 := r1.below hb2 r1.lt; have r2 := r2.below hb2 r2.lt; have r3 := r3.below hb2 r3.lt; have hB2 := hB1.trans (hb2.mono hB1.size)))
  have hH2 := hH.below hB2
  have hl1 := r1.lt
  have hl2 := r2.lt
  have hl3 := r3.lt
  go_upto_region 4 with (first | ((with_reducible refine wp_load_g ?_ r1.range Try.underlying69 rfl (lev_info _ _ _ _ _) ?_ ?_); rfl; rfl) | (go_at_call 47; (with_reducible refine (copyL e A B c d _ ht hH2).mono ?_); rintro en w4 ⟨A4, c4x, B4, d4x, rfl, ho, hb4⟩) | ((with_reducible refine wp_row_store (L := LEV e A4 c4x B4 d4x) (Row.bornAt (g := w4.heap.size) rfl 69 _) ?_ (lev_info _ _ _ _ _) (lev_one _ _ _ _ _) ?_ ?_ ?_); rfl; rfl; rfl; intro w5 v5 r5))
  have hal := Upd.below ((Below.refl w4.heap.size w4).alloc (Nat.le_refl _) (.cells ZE 69)) v5 (Nat.le_refl _)
  have hbl := hb4.trans (hal.mono hb4.size)
  have r1 := r1.below hbl hl1
  have r2 := r2.below hbl hl2
  have r3 := r3.below hbl hl3
  have hB5 := hB2.trans (hbl.mono hB2.size)
  have ho := (ho.below hal).lower hB2.size
  have hg : W.heap.size + 2 < w4.heap.size := Nat.lt_of_lt_of_le hl3 hb4.size
  clear hal hbl hb4 v5 hl1 hl2 hl3 hH2 hH1 hB2 hb2 hB1
  generalize w4.heap.size = g at *
  obtain ⟨⟨c0, c1, c2, c3, c4⟩, ⟨c5, c6, c7, c8, c9⟩, fz⟩ := end_cells r1
  have hl1 := r1.lt
  have hl2 := r2.lt
  have hl3 := r3.lt
  have hl5 := r5.lt
  go_upto_region 5 with (go_at_call 39; (with_reducible refine (ack_ref _ _ _).mono ?_); rintro en w6 ⟨rfl, hb6⟩)
  have r1 := r1.below hb6 hl1
  have r2 := r2.below hb6 hl2
  have r3 := r3.below hb6 hl3
  have r5 := r5.below hb6 hl5
  have hB6 := hB5.trans (hb6.mono hB5.size)
  have ho := ho.below hb6
  clear hb6 hB5 c0 c1 c2 c3 c4 c5 c6 c7 c8 c9 fz hl1 hl2 hl3 hl5
  obtain ⟨⟨c0, c1, c2, c3, c4⟩, ⟨c5, c6, c7, c8, c9⟩, fz⟩ := end_cells r1
  have hl1 := r1.lt
  have hl2 := r2.lt
  have hl3 := r3.lt
  have hl5 := r5.lt
  go_upto_region 6 with (first | (go_at_call 37; (with_reducible refine (free_isR HX.out ht.s0 ht.s1 ht.a0 _).mono ?_); rintro en w7 ⟨rfl, hb7⟩; have r1 := r1.below hb7 hl1; have r2 := r2.below hb7 hl2; have r3 := r3.below hb7 hl3; have r5 := r5.below hb7 hl5; have hB6 := hB6.trans (hb7.mono hB6.size); have ho := ho.below hb7; have hl1 := r1.lt; have hl2 := r2.lt; have hl3 := r3.lt; have hl5 := r5.lt; obtain ⟨⟨c0, c1, c2, c3, c4⟩, ⟨c5, c6, c7, c8, c9⟩, fz⟩ := end_cells r1))
  have hM := hH.q.below hB6
  obtain ⟨b, o, hA, hrow⟩ := hM.2 hq0
  subst hA
  obtain ⟨Ar, Cr, xm, hCr, -, hIm⟩ := hrow 0 hq0
  rw [← frM_eq hq0] at xm hCr hIm
  have xm : w7.cell? ⟨b, o, none⟩ = some (.slice Ar (frM e).length Cr) := xm
  clear hrow hM
  go_upto_region 10 with (fail)
  clear c0 c1 c2 c3 c4 c5 c6 c7 c8 c9 fz
  have hml : (frM e).length < 18446744073709551616 := by omega
  have hw : IntKind.u64.wrap ((frM e).length : Int) = ((frM e).length : Int) := by rw [IntKind.wrap_u64]; omega
  go_upto_region 11 with (go_at_call 107; refine (append_refO none 0 0 [] (frM e).length 4 _ (IsB.nil _ _) (by omega) hml (by omega)).mono ?_; rintro en w9 ⟨A9, n9, c9, rfl, ho9, hb9⟩)
  have hn9 : n9 = 4 := by have h9 := ho9.len; rw [List.nil_append, fixB_len] at h9; exact h9
  subst hn9
  go_upto_region 12 with (fail)
  have hIm9 : IsB w9 Ar ((frM e).length) ((frM e).take ((frM e).length)) := (hIm.pre ((frM e).length) hSl).below hb9
  have hsz9 : w7.heap.size ≤ w9.heap.size := hb9.size
  have hlC : ((frM e).length : Int) ≤ (Cr : Int) := by omega
  have hS0 : (0 : Int) ≤ ((frM e).length : Int) := by omega
  have hlCn : (frM e).length ≤ Cr := by omega
  go_upto_region 13 with (at_builtin; (refine wp_append_b (P := Try.prog) (m := (frM e).length) (c' := Cr) rfl _ _ 44 rfl Try.underlying44 info_b ho9 hIm9 (by omega) hsz9 rfl (by simp [Act.eval]; done) ?_); intro A2 n2 c2 w10 hn2 ho2 hb10 hg10 hat10)
  have hb79 := hb9.trans hb10
  have r1 := r1.below hb79 hl1
  have r2 := r2.below hb79 hl2
  have r3 := r3.below hb79 hl3
  have r5 := r5.below hb79 hl5
  have ho := ho.below hb79
  have hB10 := hB6.trans (hb79.mono hB6.size)
  have hq2 := hn2.out
  have hnn : n2 = (frP e).length := by rw [hPl.out]; omega
  subst hnn
  have hIq : IsB w10 A2 (frP e).length (frP e) := by
    have h9 := ho2.isB
    rw [List.nil_append, ← hP.out] at h9
    exact h9
  have hcall := Lib.hid (hcon.out w10 A2 c2 hIq)
  clear hq2 hn2 hg10 hat10 ho9 hb9 hb10 hb79 hIm9 ho2 hIm hl1 hl2 hl3 hl5 hIq hcon hB6
  obtain ⟨⟨c0, c1, c2', c3, c4⟩, ⟨c5, c6, c7, c8, c9'⟩, fz⟩ := end_cells r1
  have hl2 := r2.lt
  have hl3 := r3.lt
  have hl5 := r5.lt
  have hl1 := r1.lt
  go_upto_region 14 with (first | (go_at_call 34; refine (hof ▸ hcall.out).mono ?_; rintro en wb ⟨rfl, hbb⟩; have r1 := r1.below hbb hl1; have r2 := r2.below hbb hl2; have r3 := r3.below hbb hl3; have r5 := r5.below hbb hl5; have ho := ho.below hbb) | ((with_reducible refine wp_row_store (L := DD) (Row.bornAt (g := wb.heap.size + 1) (by simp) 40 _) ?_ HDi.out HD1.out ?_ ?_ ?_); exact zl_61.trans HDs.out; rfl; rfl; intro wc vc rc))
  have hal := ((Below.refl wb.heap.size wb).alloc (Nat.le_refl _) (.cells #[.int .i64 e.n, .int .u64 (e.s + 1), .int .u64 e.a] 27)).alloc (by simp) (.cells ZL 40)
  have r40 : Row ((wb.alloc (.cells #[.int .i64 e.n, .int .u64 (e.s + 1), .int .u64 e.a] 27)).alloc (.cells ZL 40)) (wb.heap.size + 1) 40 ZL := Row.bornAt (by simp) 40 _
  have r9 := ((Row.born wb 27 #[.int .i64 e.n, .int .u64 (e.s + 1), .int .u64 e.a]).alloc (.cells ZL 40)).upd vc (by omega)
  have hB := Upd.below (hB10.trans (hbb.mono hB10.size) |>.trans (hal.mono (hB10.trans (hbb.mono hB10.size)).size)) vc (by have := (hB10.trans (hbb.mono hB10.size)).size; omega)
  have hgw : g < wb.heap.size := r5.lt
  have ho := (ho.below hal).keeps (Keeps.upd (ts := [40]) vc r40 (by simp)) (by decide) (by decide)
  have r1 := (r1.below hal r1.lt).upd vc (by omega)
  have r2 := (r2.below hal r2.lt).upd vc (by omega)
  have r3 := (r3.below hal r3.lt).upd vc (by omega)
  have r5 := (r5.below hal r5.lt).upd vc (by omega)
  clear hal hbb hB10 vc r40 hcall c0 c1 c2' c3 c4 c5 c6 c7 c8 c9' fz hl1 hl2 hl3 hl5
  generalize wb.heap.size = gw at *
  have q0 : wc.cell? ⟨gw, 0, none⟩ = some (.int .i64 e.n) := r9.cell 0
  have q1 : wc.cell? ⟨gw, 1, none⟩ = some (.int .u64 (e.s + 1)) := r9.cell 1
  have q2 : wc.cell? ⟨gw, 2, none⟩ = some (.int .u64 e.a) := r9.cell 2
  go_upto_region 17 with ((refine wp_put_mid (pre := []) (cs := [.int .i64 e.n, .int .u64 e.s, .int .u64 e.a]) (post := [.int .i64 e.rn, .int .u64 e.rc, .slice A4 e.q.length c4x, .int .i64 e.off, .int .i64 e.want, .slice B4 e.pt.length d4x, .int .u64 e.told]) (L := #[.int .i64 e.n, .int .u64 (e.s + 1), .int .u64 e.a]) r5 rfl rfl info27 (sender_one _ _ _) ?_ ?_ ?_; rfl; rfl; intro w8 u8 r8))
  clear q0 q1 q2
  have r5' : Row w8 g 69 (LEV { e with s := e.s + 1 } A4 c4x B4 d4x) := r8
  have r1 := r1.upd u8 (by omega)
  have r2 := r2.upd u8 (by omega)
  have r3 := r3.upd u8 (by omega)
  have rc := rc.upd u8 (by omega)
  have ho := ho.keeps (Keeps.upd (ts := [69]) u8 r5 (by simp)) (by decide) (by decide)
  have hB := Upd.below hB u8 (by omega)
  clear r5 u8 r8 r9
  have r5 := r5'
  clear r5'
  have k5 : w8.cell? ⟨g, 6, none⟩ = some (.int .i64 e.off) := r5.cell 6
  have f5 := r5.frozen 6
  go_upto_region 18 with (fail)
  have uwd := Upd.setCell w8 g 6 (.int .i64 ((frM e).length : Int))
  have r5' : Row (w8.setCell ⟨g, 6, none⟩ (.int .i64 ((frM e).length : Int))) g 69 (LEV { e with s := e.s + 1, off := ((frM e).length : Int) } A4 c4x B4 d4x) := r5.set 6 (.int .i64 ((frM e).length : Int))
  have r1 := r1.upd uwd (by omega)
  have r2 := r2.upd uwd (by omega)
  have r3 := r3.upd uwd (by omega)
  have rc := rc.upd uwd (by omega)
  have ho := ho.keeps (Keeps.upd (ts := [69]) uwd r5 (by simp)) (by decide) (by decide)
  have hB := Upd.below hB uwd (by omega)
  clear r5 uwd k5 f5
  generalize w8.setCell ⟨g, 6, none⟩ (.int .i64 ((frM e).length : Int)) = wd at *
  have r5 := r5'
  clear r5'
  obtain ⟨⟨c0, c1, c2', c3, c4⟩, ⟨c5, c6, c7, c8, c9'⟩, fz⟩ := end_cells r1
  have k5 : wd.cell? ⟨g, 9, none⟩ = some (.int .u64 e.told) := r5.cell 9
  have f5 := r5.frozen 9
  go_upto_region 19 with (fail)
  clear c0 c1 c2' c3 c4 c5 c6 c7 c8 c9' fz
  have uwz := Upd.setCell wd g 9 (.int .u64 e.rc)
  have r5' : Row (wd.setCell ⟨g, 9, none⟩ (.int .u64 e.rc)) g 69 (LEV { e with s := e.s + 1, off := ((frM e).length : Int), told := e.rc } A4 c4x B4 d4x) := r5.set 9 (.int .u64 e.rc)
  have r1 := r1.upd uwz (by omega)
  have r2 := r2.upd uwz (by omega)
  have r3 := r3.upd uwz (by omega)
  have rc := rc.upd uwz (by omega)
  have ho := ho.keeps (Keeps.upd (ts := [69]) uwz r5 (by simp)) (by decide) (by decide)
  have hB := Upd.below hB uwz (by omega)
  clear r5 uwz k5 f5
  generalize wd.setCell ⟨g, 9, none⟩ (.int .u64 e.rc) = wz at *
  have r5 := r5'
  clear r5'
  have hqm0 : ∀ m ∈ e.q, m.length ≤ 9223372036854775807 := fun m hm => by have := ht.qm m hm; omega
  obtain ⟨b4, o4, hA4, -⟩ := (ho.held hqm0).q.2 hq0
  subst hA4
  have hcap := (ho.held hqm0).qc
  rcases Nat.lt_or_ge 1 c4x with hc1 | hc1
  · have hci : (1 : Int) ≤ e.q.length := by omega
    have hcj : (1 : Int) ≤ c4x := by omega
    have hck : 1 ≤ e.q.length := by omega
    have hcn : (c4x - 1 = 0) = False := by simp; omega
    have k5 : wz.cell? ⟨g, 5, none⟩ = some (.slice (some ⟨b4, o4, none⟩) e.q.length c4x) := r5.cell 5
    have f5 := r5.frozen 5
    obtain ⟨⟨c0, c1, c2', c3, c4⟩, ⟨c5, c6, c7, c8, c9'⟩, fz⟩ := end_cells r1
    go_upto_region 21 with (fail)
    clear hci hcj hck hcn
    clear c0 c1 c2' c3 c4 c5 c6 c7 c8 c9' fz
    have uwy := Upd.setCell wz g 5 (.slice (some ⟨b4, o4 + 1, none⟩) (e.q.length - 1) (c4x - 1))
    have r5' : Row (wz.setCell ⟨g, 5, none⟩ (.slice (some ⟨b4, o4 + 1, none⟩) (e.q.length - 1) (c4x - 1))) g 69 (EV { e with s := e.s + 1, off := ((frM e).length : Int), told := e.rc } (.slice (some ⟨b4, o4 + 1, none⟩) (e.q.length - 1) (c4x - 1)) (.slice B4 e.pt.length d4x)) := r5.set 5 (.slice (some ⟨b4, o4 + 1, none⟩) (e.q.length - 1) (c4x - 1))
    have r1 := r1.upd uwy (by omega)
    have r2 := r2.upd uwy (by omega)
    have r3 := r3.upd uwy (by omega)
    have rc := rc.upd uwy (by omega)
    have ho := ho.keeps (Keeps.upd (ts := [69]) uwy r5 (by simp)) (by decide) (by decide)
    have hB := Upd.below hB uwy (by omega)
    clear r5 uwy k5 f5
    generalize wz.setCell ⟨g, 5, none⟩ (.slice (some ⟨b4, o4 + 1, none⟩) (e.q.length - 1) (c4x - 1)) = wy at *
    have r5 := r5'
    clear r5'
    have k5 : wy.cell? ⟨g, 6, none⟩ = some (.int .i64 ((frM e).length : Int)) := r5.cell 6
    have f5 := r5.frozen 6
    go_upto_region 22 with (fail)
    have uwx := Upd.setCell wy g 6 (.int .i64 (-1))
    have r5' : Row (wy.setCell ⟨g, 6, none⟩ (.int .i64 (-1))) g 69 (EV { e with s := e.s + 1, off := -1, told := e.rc } (.slice (some ⟨b4, o4 + 1, none⟩) (e.q.length - 1) (c4x - 1)) (.slice B4 e.pt.length d4x)) := r5.set 6 (.int .i64 (-1))
    have r1 := r1.upd uwx (by omega)
    have r2 := r2.upd uwx (by omega)
    have r3 := r3.upd uwx (by omega)
    have rc := rc.upd uwx (by omega)
    have ho := ho.keeps (Keeps.upd (ts := [69]) uwx r5 (by simp)) (by decide) (by decide)
    have hB := Upd.below hB uwx (by omega)
    clear r5 uwx k5 f5
    generalize wy.setCell ⟨g, 6, none⟩ (.int .i64 (-1)) = wx at *
    have r5 := r5'
    clear r5'
    have r5 : Row wx g 69 (LEV (nxG e) (some ⟨b4, o4 + 1, none⟩) (c4x - 1) B4 d4x) := by
      rw [HGe.out]
      unfold LEV
      simp only [List.length_tail]
      exact r5
    obtain ⟨⟨c0, c1, c2', c3, c4⟩, ⟨c5, c6, c7, c8, c9'⟩, fz⟩ := end_cells r1
    obtain ⟨e', he'⟩ : ∃ e', nxG e = e' := ⟨_, rfl⟩
    rw [he'] at r5
    have HP := Lib.hid he'
    clear he' c0 c1 c2' c3 c4 c5 c6 c7 c8 c9' fz
    refine wp_region_late (n := 119) [2, 3] (NxU W wx.drew g (gw + 1) (W.heap.size + 2) (W.heap.size + 1) DD (LEV e' (some ⟨b4, o4 + 1, none⟩) (c4x - 1) B4 d4x)) (fun _ _ => True) (by kernel_rfl) (by kernel_rfl) (by rfl) (fun _ _ _ _ _ h => h) ⟨hB.drew, Keeps.refl _ _, r5, rc, fun _ => r2, fun h => by omega, fun _ => r3, fun h => by omega⟩ ?_
    refine late_pure (by simp) (fun w => trivial) (v := .agg (LEV e' (some ⟨b4, o4 + 1, none⟩) (c4x - 1) B4 d4x)) (fun _ => rfl) ?_ ?_; (focus (intro c9 us w9 hm9 hS9 hF; exact exec_load_g hS9.2.2.1.range Try.underlying69 rfl (lev_info _ _ _ _ _) rfl)); simp only [Act.put, List.setIfInBounds_toArray, List.set_cons_zero, List.set_cons_succ, Nat.reduceAdd]
    refine late_pure (by simp) (fun w => trivial) (v := .agg DD) (fun _ => rfl) ?_ ?_; (focus (intro c9 us w9 hm9 hS9 hF; exact exec_load_g hS9.2.2.2.1.range Try.underlying40 rfl HDi.out rfl)); simp only [Act.put, List.setIfInBounds_toArray, List.set_cons_zero, List.set_cons_succ, Nat.reduceAdd]
    refine late_store rfl ?_ ?_; (focus (intro us w9 hS9 hF K hK; clear hF; rw [if_pos (by rfl)]; exact step_put (L := LEV e' (some ⟨b4, o4 + 1, none⟩) (c4x - 1) B4 d4x) (hS9.2.2.2.2.1 rfl) rfl (lev_info _ _ _ _ _) (lev_one _ _ _ _ _) rfl rfl (fun w' u' r' => hK w' (hS9.one u' r' (by omega) (by omega) (by omega) (by omega)) trivial))); simp only [Nat.reduceAdd]
    refine late_store rfl ?_ ?_; (focus (intro us w9 hS9 hF K hK; clear hF; rw [if_pos (by rfl)]; exact step_put (L := DD) (hS9.2.2.2.2.2.2.1 (by omega)) (zl_61.trans HDs.out) HDi.out HD1.out rfl rfl (fun w' u' r' => hK w' (hS9.two u' r' (by omega) (by omega) (by omega) (by omega)) trivial))); simp only [Nat.reduceAdd]
    refine late_pure (by simp) (fun w => trivial) (v := ?_) (fun _ => rfl) ?_ ?_; rotate_left; (focus (intro c9 us w9 hm9 hS9 hF; clear hF hm9; go_simp; (try with_reducible rfl); done)); simp only [Act.put, List.setIfInBounds_toArray, List.set_cons_zero, List.set_cons_succ, Nat.reduceAdd]
    refine late_done fun us8 w8 hS8 hF => ?_
    have rr2 := hS8.2.2.2.2.2.1 (by omega)
    have rr3 := hS8.2.2.2.2.2.2.2 (by omega)
    have hB8 := hS8.1
    have hk := hS8.2.1
    clear hF hS8
    go_wp2
    refine bodyPost_ret (results_cct rfl rfl rfl rr2 rr3 Try.underlying69 Try.underlying40 rfl rfl (lev_info _ _ _ _ _) HDi.out) rfl ?_
    have ho : HeldO wx.drew W.heap.size e (some ⟨b4, o4, none⟩) c4x B4 d4x := ⟨ho.ex, ho.p⟩
    have h' := HP.out
    subst h'
    have hI : HeldI w8 W.heap.size w8.heap.size (nxG e) (some ⟨b4, o4 + 1, none⟩) (c4x - 1) B4 d4x := ⟨Nat.le_refl _, fun w' hw' => by
      have hx := ((ho.keeps hk (by decide) (by decide)).heldI ht.qm).2 w' hw'
      rw [HGe.out]
      exact ⟨by simpa using hx.q.tail hq0, by simp; omega, hx.p, hx.pc⟩⟩
    have hf := nx_go HE.out HG.out hI hB8
    rw [HDD.out] at hf
    exact hf
  · obtain rfl : c4x = 1 := by omega
    have hql1 : e.q.length = 1 := by omega
    have k5 : wz.cell? ⟨g, 5, none⟩ = some (.slice (some ⟨b4, o4, none⟩) e.q.length 1) := r5.cell 5
    have f5 := r5.frozen 5
    rw [hql1] at k5
    obtain ⟨⟨c0, c1, c2', c3, c4⟩, ⟨c5, c6, c7, c8, c9'⟩, fz⟩ := end_cells r1
    go_upto_region 21 with (fail)
    have HQ1 := Lib.hid hql1
    clear hql1
    clear c0 c1 c2' c3 c4 c5 c6 c7 c8 c9' fz
    have uwy := Upd.setCell wz g 5 (.slice (some ⟨b4, o4, none⟩) 0 0)
    have r5' : Row (wz.setCell ⟨g, 5, none⟩ (.slice (some ⟨b4, o4, none⟩) 0 0)) g 69 (EV { e with s := e.s + 1, off := ((frM e).length : Int), told := e.rc } (.slice (some ⟨b4, o4, none⟩) 0 0) (.slice B4 e.pt.length d4x)) := r5.set 5 (.slice (some ⟨b4, o4, none⟩) 0 0)
    have r1 := r1.upd uwy (by omega)
    have r2 := r2.upd uwy (by omega)
    have r3 := r3.upd uwy (by omega)
    have rc := rc.upd uwy (by omega)
    have ho := ho.keeps (Keeps.upd (ts := [69]) uwy r5 (by simp)) (by decide) (by decide)
    have hB := Upd.below hB uwy (by omega)
    clear r5 uwy k5 f5
    generalize wz.setCell ⟨g, 5, none⟩ (.slice (some ⟨b4, o4, none⟩) 0 0) = wy at *
    have r5 := r5'
    clear r5'
    have k5 : wy.cell? ⟨g, 6, none⟩ = some (.int .i64 ((frM e).length : Int)) := r5.cell 6
    have f5 := r5.frozen 6
    go_upto_region 22 with (fail)
    have uwx := Upd.setCell wy g 6 (.int .i64 (-1))
    have r5' : Row (wy.setCell ⟨g, 6, none⟩ (.int .i64 (-1))) g 69 (EV { e with s := e.s + 1, off := -1, told := e.rc } (.slice (some ⟨b4, o4, none⟩) 0 0) (.slice B4 e.pt.length d4x)) := r5.set 6 (.int .i64 (-1))
    have r1 := r1.upd uwx (by omega)
    have r2 := r2.upd uwx (by omega)
    have r3 := r3.upd uwx (by omega)
    have rc := rc.upd uwx (by omega)
    have ho := ho.keeps (Keeps.upd (ts := [69]) uwx r5 (by simp)) (by decide) (by decide)
    have hB := Upd.below hB uwx (by omega)
    clear r5 uwx k5 f5
    generalize wy.setCell ⟨g, 6, none⟩ (.int .i64 (-1)) = wx at *
    have r5 := r5'
    clear r5'
    have r5 : Row wx g 69 (LEV (nxG e) (some ⟨b4, o4, none⟩) 0 B4 d4x) := by
      rw [HGe.out]
      unfold LEV
      simp only [List.length_tail, HQ1.out]
      exact r5
    obtain ⟨⟨c0, c1, c2', c3, c4⟩, ⟨c5, c6, c7, c8, c9'⟩, fz⟩ := end_cells r1
    obtain ⟨e', he'⟩ : ∃ e', nxG e = e' := ⟨_, rfl⟩
    rw [he'] at r5
    have HP := Lib.hid he'
    clear he' c0 c1 c2' c3 c4 c5 c6 c7 c8 c9' fz
    refine wp_region_late (n := 119) [2, 3] (NxU W wx.drew g (gw + 1) (W.heap.size + 2) (W.heap.size + 1) DD (LEV e' (some ⟨b4, o4, none⟩) 0 B4 d4x)) (fun _ _ => True) (by kernel_rfl) (by kernel_rfl) (by rfl) (fun _ _ _ _ _ h => h) ⟨hB.drew, Keeps.refl _ _, r5, rc, fun _ => r2, fun h => by omega, fun _ => r3, fun h => by omega⟩ ?_
    refine late_pure (by simp) (fun w => trivial) (v := .agg (LEV e' (some ⟨b4, o4, none⟩) 0 B4 d4x)) (fun _ => rfl) ?_ ?_; (focus (intro c9 us w9 hm9 hS9 hF; exact exec_load_g hS9.2.2.1.range Try.underlying69 rfl (lev_info _ _ _ _ _) rfl)); simp only [Act.put, List.setIfInBounds_toArray, List.set_cons_zero, List.set_cons_succ, Nat.reduceAdd]
    refine late_pure (by simp) (fun w => trivial) (v := .agg DD) (fun _ => rfl) ?_ ?_; (focus (intro c9 us w9 hm9 hS9 hF; exact exec_load_g hS9.2.2.2.1.range Try.underlying40 rfl HDi.out rfl)); simp only [Act.put, List.setIfInBounds_toArray, List.set_cons_zero, List.set_cons_succ, Nat.reduceAdd]
    refine late_store rfl ?_ ?_; (focus (intro us w9 hS9 hF K hK; clear hF; rw [if_pos (by rfl)]; exact step_put (L := LEV e' (some ⟨b4, o4, none⟩) 0 B4 d4x) (hS9.2.2.2.2.1 rfl) rfl (lev_info _ _ _ _ _) (lev_one _ _ _ _ _) rfl rfl (fun w' u' r' => hK w' (hS9.one u' r' (by omega) (by omega) (by omega) (by omega)) trivial))); simp only [Nat.reduceAdd]
    refine late_store rfl ?_ ?_; (focus (intro us w9 hS9 hF K hK; clear hF; rw [if_pos (by rfl)]; exact step_put (L := DD) (hS9.2.2.2.2.2.2.1 (by omega)) (zl_61.trans HDs.out) HDi.out HD1.out rfl rfl (fun w' u' r' => hK w' (hS9.two u' r' (by omega) (by omega) (by omega) (by omega)) trivial))); simp only [Nat.reduceAdd]
    refine late_pure (by simp) (fun w => trivial) (v := ?_) (fun _ => rfl) ?_ ?_; rotate_left; (focus (intro c9 us w9 hm9 hS9 hF; clear hF hm9; go_simp; (try with_reducible rfl); done)); simp only [Act.put, List.setIfInBounds_toArray, List.set_cons_zero, List.set_cons_succ, Nat.reduceAdd]
    refine late_done fun us8 w8 hS8 hF => ?_
    have rr2 := hS8.2.2.2.2.2.1 (by omega)
    have rr3 := hS8.2.2.2.2.2.2.2 (by omega)
    have hB8 := hS8.1
    have hk := hS8.2.1
    clear hF hS8
    go_wp2
    refine bodyPost_ret (results_cct rfl rfl rfl rr2 rr3 Try.underlying69 Try.underlying40 rfl rfl (lev_info _ _ _ _ _) HDi.out) rfl ?_
    have ho : HeldO wx.drew W.heap.size e (some ⟨b4, o4, none⟩) 1 B4 d4x := ⟨ho.ex, ho.p⟩
    have h' := HP.out
    subst h'
    have hI : HeldI w8 W.heap.size w8.heap.size (nxG e) (some ⟨b4, o4, none⟩) 0 B4 d4x := ⟨Nat.le_refl _, fun w' hw' => by
      have hx := ((ho.keeps hk (by decide) (by decide)).heldI ht.qm).2 w' hw'
      rw [HGe.out]
      have htl : e.q.tail = [] := List.eq_nil_of_length_eq_zero (by rw [List.length_tail, HQ1.out])
      exact ⟨by simp only [htl]; exact ⟨rfl, fun h => by simp at h⟩, by simp [htl], hx.p, hx.pc⟩⟩
    have hf := nx_go HE.out HG.out hI hB8
    rw [HDD.out] at hf
    exact hf
set_option maxRecDepth 100000 in
set_option maxHeartbeats 8000000 in
theorem nxr_endb1 (e : LE) (A B : Option Addr) (c d : Nat) (W : World) (ht : e.ty) (hH : Held W e A c B d) (hv : vE e = true) (hq0 : 0 < e.q.length) (hf0 : 0 < fr e.n e.s e.a) (hs : e.s ≠ 4611686018427387904) (j : Nat) (hj : e.off = (j : Int)) (hjl : j < (frM e).length) (h52 : (frM e).length ≤ j + 56) : Calls Try.prog 50 #[.agg (LEV e A c B d)] W (NxP e W) := by
  have hg0 : nxGo e = true := by simp [nxGo, hq0, hf0]
  have d0 : decide (0 < e.q.length) = true := decide_eq_true hq0
  have d0i : decide ((0 : Int) < (e.q.length : Int)) = true := decide_eq_true (by omega)
  have h0i : (0 : Int) < (e.q.length : Int) := by omega
  obtain ⟨x, hx⟩ : ∃ x, fr e.n e.s e.a = x := ⟨_, rfl⟩
  have hfx := hf0
  rw [hx] at hfx
  have dx : decide (0 < x) = true := decide_eq_true hfx
  have HX := Lib.hid hx
  have HV := Lib.hid hv
  have hve := vE_yes hv
  have hfm := hve.qm _ (frM_mem hq0)
  have hcon := Lib.hid (send_goR ht hve hq0 hf0 hs)
  have HE := Lib.hid (show nxE e = 0 by unfold nxE; rw [hv, hg0, if_pos rfl, if_pos rfl, if_neg hs])
  have HG := Lib.hid hg0
  obtain ⟨hDs, hDi, hD1⟩ := nxD_form (frP_len hve hq0)
  obtain ⟨DD, hDD⟩ : ∃ DD, nxD e = DD := ⟨_, rfl⟩
  rw [hDD] at hcon hDs hDi hD1
  have HDs := Lib.hid hDs
  have HDi := Lib.hid hDi
  have HD1 := Lib.hid hD1
  have HDD := Lib.hid hDD
  clear hDD hDs hDi hD1
  have hof : decide (e.off < 0) = false := by rw [hj]; simp
  have hofj : decide ((j : Int) < 0) = false := by simp
  have hS := Lib.hid (show frS e = (frM e).length by unfold frS; rw [if_neg (by omega), hj]; show min _ (j + 56) = _; omega)
  have hmin : decide ((j : Int) + 56 < (frM e).length) = false := by simp; omega
  have hSl : (frM e).length ≤ (frM e).length := by omega
  have hjS : j ≤ (frM e).length := by omega
  have hjSi : (j : Int) ≤ ((frM e).length : Int) := by omega
  have hP := Lib.hid (show frP e = ((frM e).drop j).take ((frM e).length - j) by unfold frP; rw [if_neg (by omega), hj]; show ((frM e).drop j).take 56 = _; rw [List.take_eq_take_iff, List.length_drop]; omega)
  have hPl := Lib.hid (show (frP e).length = (frM e).length - j by rw [hP.out, List.length_take, List.length_drop]; omega)
  have hj5 : (j : Int) + 56 < 9223372036854775808 := by omega
  have HJ := Lib.hid hj
  clear hj
  clear hv hg0 hx hfx hf0 hs
  have hnE : nxEnd e = true := by unfold nxEnd; rw [hS.out]; exact beq_self_eq_true _
  have HGe := Lib.hid (show nxG e = { e with s := e.s + 1, told := e.rc, q := e.q.tail, off := -1 } by unfold nxG; rw [hnE, hS.out]; rfl)
  clear hnE
  obtain ⟨r1, r2, r3, hB1⟩ := three_born W 69 69 40 (LEV e A c B d) ZE ZL
  go_enter Try.func50, Try.ntmps50
  go_upto_region 1 with (fail)
  change Code.wp _ _ _ _ (((W.alloc (.cells (LEV e A c B d) 69)).alloc (.cells ZE 69)).alloc (.cells ZL 40))
  generalize (((W.alloc (.cells (LEV e A c B d) 69)).alloc (.cells ZE 69)).alloc (.cells ZL 40)) = w1 at *
  have hH1 := hH.below hB1
  go_upto_region 3 with (first | ((with_reducible refine wp_load_g ?_ r1.range Try.underlying69 rfl (lev_info _ _ _ _ _) ?_ ?_); rfl; rfl) | (go_at_call 106; (with_reducible refine (end_is HV.out ht hH1).mono ?_); rintro en w2 ⟨rfl, hb2⟩; have r1 := r1.below hb2 r1.lt; have r2 := r2.below hb2 r2.lt; have r3 := r3.below hb2 r3.lt; have hB2 := hB1.trans (hb2.mono hB1.size)))
  have hH2 := hH.below hB2
  have hl1 := r1.lt
  have hl2 := r2.lt
  have hl3 := r3.lt
  go_upto_region 4 with (first | ((with_reducible refine wp_load_g ?_ r1.range Try.underlying69 rfl (lev_info _ _ _ _ _) ?_ ?_); rfl; rfl) | (go_at_call 47; (with_reducible refine (copyL e A B c d _ ht hH2).mono ?_); rintro en w4 ⟨A4, c4x, B4, d4x, rfl, ho, hb4⟩) | ((with_reducible refine wp_row_store (L := LEV e A4 c4x B4 d4x) (Row.bornAt (g := w4.heap.size) rfl 69 _) ?_ (lev_info _ _ _ _ _) (lev_one _ _ _ _ _) ?_ ?_ ?_); rfl; rfl; rfl; intro w5 v5 r5))
  have hal := Upd.below ((Below.refl w4.heap.size w4).alloc (Nat.le_refl _) (.cells ZE 69)) v5 (Nat.le_refl _)
  have hbl := hb4.trans (hal.mono hb4.size)
  have r1 := r1.below hbl hl1
  have r2 := r2.below hbl hl2
  have r3 := r3.below hbl hl3
  have hB5 := hB2.trans (hbl.mono hB2.size)
  have ho := (ho.below hal).lower hB2.size
  have hg : W.heap.size + 2 < w4.heap.size := Nat.lt_of_lt_of_le hl3 hb4.size
  clear hal hbl hb4 v5 hl1 hl2 hl3 hH2 hH1 hB2 hb2 hB1
  generalize w4.heap.size = g at *
  obtain ⟨⟨c0, c1, c2, c3, c4⟩, ⟨c5, c6, c7, c8, c9⟩, fz⟩ := end_cells r1; rw [HJ.out] at c6
  have hl1 := r1.lt
  have hl2 := r2.lt
  have hl3 := r3.lt
  have hl5 := r5.lt
  go_upto_region 5 with (go_at_call 39; (with_reducible refine (ack_ref _ _ _).mono ?_); rintro en w6 ⟨rfl, hb6⟩)
  have r1 := r1.below hb6 hl1
  have r2 := r2.below hb6 hl2
  have r3 := r3.below hb6 hl3
  have r5 := r5.below hb6 hl5
  have hB6 := hB5.trans (hb6.mono hB5.size)
  have ho := ho.below hb6
  clear hb6 hB5 c0 c1 c2 c3 c4 c5 c6 c7 c8 c9 fz hl1 hl2 hl3 hl5
  obtain ⟨⟨c0, c1, c2, c3, c4⟩, ⟨c5, c6, c7, c8, c9⟩, fz⟩ := end_cells r1; rw [HJ.out] at c6
  have hl1 := r1.lt
  have hl2 := r2.lt
  have hl3 := r3.lt
  have hl5 := r5.lt
  go_upto_region 6 with (first | (go_at_call 37; (with_reducible refine (free_isR HX.out ht.s0 ht.s1 ht.a0 _).mono ?_); rintro en w7 ⟨rfl, hb7⟩; have r1 := r1.below hb7 hl1; have r2 := r2.below hb7 hl2; have r3 := r3.below hb7 hl3; have r5 := r5.below hb7 hl5; have hB6 := hB6.trans (hb7.mono hB6.size); have ho := ho.below hb7; have hl1 := r1.lt; have hl2 := r2.lt; have hl3 := r3.lt; have hl5 := r5.lt; obtain ⟨⟨c0, c1, c2, c3, c4⟩, ⟨c5, c6, c7, c8, c9⟩, fz⟩ := end_cells r1; rw [HJ.out] at c6))
  have hM := hH.q.below hB6
  obtain ⟨b, o, hA, hrow⟩ := hM.2 hq0
  subst hA
  obtain ⟨Ar, Cr, xm, hCr, -, hIm⟩ := hrow 0 hq0
  rw [← frM_eq hq0] at xm hCr hIm
  have xm : w7.cell? ⟨b, o, none⟩ = some (.slice Ar (frM e).length Cr) := xm
  clear hrow hM
  have hj2 : ((frM e).length : Int) ≤ (Cr : Int) := by omega
  have hj4 : (frM e).length ≤ Cr := by omega
  obtain ⟨bm, om, em, -⟩ := hIm.2 (by omega)
  subst em
  go_upto_region 12 with (fail)
  clear c0 c1 c2 c3 c4 c5 c6 c7 c8 c9 fz
  have hIm9 : IsB w7 (some ⟨bm, om + j, none⟩) ((frM e).length - j) (((frM e).drop j).take ((frM e).length - j)) := (hIm.sufB j (by omega)).pre ((frM e).length - j) (by omega)
  go_upto_region 13 with (at_builtin; (refine wp_append_b (P := Try.prog) (m := (frM e).length - j) (c' := Cr - j) rfl _ _ 44 rfl Try.underlying44 info_b (OwnB.nil w7 w7.heap.size 5) hIm9 (by omega) (Nat.le_refl _) rfl (by simp [Act.eval]; done) ?_); intro A2 n2 c2 w10 hn2 ho2 hb10 hg10 hat10)
  have hb79 := hb10
  have r1 := r1.below hb79 hl1
  have r2 := r2.below hb79 hl2
  have r3 := r3.below hb79 hl3
  have r5 := r5.below hb79 hl5
  have ho := ho.below hb79
  have hB10 := hB6.trans (hb79.mono hB6.size)
  have hq2 := hn2.out
  have hnn : n2 = (frP e).length := by rw [hPl.out]; omega
  subst hnn
  have hIq : IsB w10 A2 (frP e).length (frP e) := by
    have h9 := ho2.isB
    rw [List.nil_append, ← hP.out] at h9
    exact h9
  have hcall := Lib.hid (hcon.out w10 A2 c2 hIq)
  clear hq2 hn2 hg10 hat10 hb10 hb79 hIm9 ho2 hIm hl1 hl2 hl3 hl5 hIq hcon hB6
  obtain ⟨⟨c0, c1, c2', c3, c4⟩, ⟨c5, c6, c7, c8, c9'⟩, fz⟩ := end_cells r1
  rw [HJ.out] at c6
  have hl2 := r2.lt
  have hl3 := r3.lt
  have hl5 := r5.lt
  have hl1 := r1.lt
  go_upto_region 14 with (first | (go_at_call 34; refine (hof ▸ hcall.out).mono ?_; rintro en wb ⟨rfl, hbb⟩; have r1 := r1.below hbb hl1; have r2 := r2.below hbb hl2; have r3 := r3.below hbb hl3; have r5 := r5.below hbb hl5; have ho := ho.below hbb) | ((with_reducible refine wp_row_store (L := DD) (Row.bornAt (g := wb.heap.size + 1) (by simp) 40 _) ?_ HDi.out HD1.out ?_ ?_ ?_); exact zl_61.trans HDs.out; rfl; rfl; intro wc vc rc))
  have hal := ((Below.refl wb.heap.size wb).alloc (Nat.le_refl _) (.cells #[.int .i64 e.n, .int .u64 (e.s + 1), .int .u64 e.a] 27)).alloc (by simp) (.cells ZL 40)
  have r40 : Row ((wb.alloc (.cells #[.int .i64 e.n, .int .u64 (e.s + 1), .int .u64 e.a] 27)).alloc (.cells ZL 40)) (wb.heap.size + 1) 40 ZL := Row.bornAt (by simp) 40 _
  have r9 := ((Row.born wb 27 #[.int .i64 e.n, .int .u64 (e.s + 1), .int .u64 e.a]).alloc (.cells ZL 40)).upd vc (by omega)
  have hB := Upd.below (hB10.trans (hbb.mono hB10.size) |>.trans (hal.mono (hB10.trans (hbb.mono hB10.size)).size)) vc (by have := (hB10.trans (hbb.mono hB10.size)).size; omega)
  have hgw : g < wb.heap.size := r5.lt
  have ho := (ho.below hal).keeps (Keeps.upd (ts := [40]) vc r40 (by simp)) (by decide) (by decide)
  have r1 := (r1.below hal r1.lt).upd vc (by omega)
  have r2 := (r2.below hal r2.lt).upd vc (by omega)
  have r3 := (r3.below hal r3.lt).upd vc (by omega)
  have r5 := (r5.below hal r5.lt).upd vc (by omega)
  clear hal hbb hB10 vc r40 hcall c0 c1 c2' c3 c4 c5 c6 c7 c8 c9' fz hl1 hl2 hl3 hl5
  generalize wb.heap.size = gw at *
  have q0 : wc.cell? ⟨gw, 0, none⟩ = some (.int .i64 e.n) := r9.cell 0
  have q1 : wc.cell? ⟨gw, 1, none⟩ = some (.int .u64 (e.s + 1)) := r9.cell 1
  have q2 : wc.cell? ⟨gw, 2, none⟩ = some (.int .u64 e.a) := r9.cell 2
  go_upto_region 17 with ((refine wp_put_mid (pre := []) (cs := [.int .i64 e.n, .int .u64 e.s, .int .u64 e.a]) (post := [.int .i64 e.rn, .int .u64 e.rc, .slice A4 e.q.length c4x, .int .i64 e.off, .int .i64 e.want, .slice B4 e.pt.length d4x, .int .u64 e.told]) (L := #[.int .i64 e.n, .int .u64 (e.s + 1), .int .u64 e.a]) r5 rfl rfl info27 (sender_one _ _ _) ?_ ?_ ?_; rfl; rfl; intro w8 u8 r8))
  clear q0 q1 q2
  have r5' : Row w8 g 69 (LEV { e with s := e.s + 1 } A4 c4x B4 d4x) := r8
  have r1 := r1.upd u8 (by omega)
  have r2 := r2.upd u8 (by omega)
  have r3 := r3.upd u8 (by omega)
  have rc := rc.upd u8 (by omega)
  have ho := ho.keeps (Keeps.upd (ts := [69]) u8 r5 (by simp)) (by decide) (by decide)
  have hB := Upd.below hB u8 (by omega)
  clear r5 u8 r8 r9
  have r5 := r5'
  clear r5'
  have k5 : w8.cell? ⟨g, 6, none⟩ = some (.int .i64 e.off) := r5.cell 6
  have f5 := r5.frozen 6
  go_upto_region 18 with (fail)
  have uwd := Upd.setCell w8 g 6 (.int .i64 ((frM e).length : Int))
  have r5' : Row (w8.setCell ⟨g, 6, none⟩ (.int .i64 ((frM e).length : Int))) g 69 (LEV { e with s := e.s + 1, off := ((frM e).length : Int) } A4 c4x B4 d4x) := r5.set 6 (.int .i64 ((frM e).length : Int))
  have r1 := r1.upd uwd (by omega)
  have r2 := r2.upd uwd (by omega)
  have r3 := r3.upd uwd (by omega)
  have rc := rc.upd uwd (by omega)
  have ho := ho.keeps (Keeps.upd (ts := [69]) uwd r5 (by simp)) (by decide) (by decide)
  have hB := Upd.below hB uwd (by omega)
  clear r5 uwd k5 f5
  generalize w8.setCell ⟨g, 6, none⟩ (.int .i64 ((frM e).length : Int)) = wd at *
  have r5 := r5'
  clear r5'
  obtain ⟨⟨c0, c1, c2', c3, c4⟩, ⟨c5, c6, c7, c8, c9'⟩, fz⟩ := end_cells r1
  rw [HJ.out] at c6
  have k5 : wd.cell? ⟨g, 9, none⟩ = some (.int .u64 e.told) := r5.cell 9
  have f5 := r5.frozen 9
  go_upto_region 19 with (fail)
  clear c0 c1 c2' c3 c4 c5 c6 c7 c8 c9' fz
  have uwz := Upd.setCell wd g 9 (.int .u64 e.rc)
  have r5' : Row (wd.setCell ⟨g, 9, none⟩ (.int .u64 e.rc)) g 69 (LEV { e with s := e.s + 1, off := ((frM e).length : Int), told := e.rc } A4 c4x B4 d4x) := r5.set 9 (.int .u64 e.rc)
  have r1 := r1.upd uwz (by omega)
  have r2 := r2.upd uwz (by omega)
  have r3 := r3.upd uwz (by omega)
  have rc := rc.upd uwz (by omega)
  have ho := ho.keeps (Keeps.upd (ts := [69]) uwz r5 (by simp)) (by decide) (by decide)
  have hB := Upd.below hB uwz (by omega)
  clear r5 uwz k5 f5
  generalize wd.setCell ⟨g, 9, none⟩ (.int .u64 e.rc) = wz at *
  have r5 := r5'
  clear r5'
  have hqm0 : ∀ m ∈ e.q, m.length ≤ 9223372036854775807 := fun m hm => by have := ht.qm m hm; omega
  obtain ⟨b4, o4, hA4, -⟩ := (ho.held hqm0).q.2 hq0
  subst hA4
  have hcap := (ho.held hqm0).qc
  rcases Nat.lt_or_ge 1 c4x with hc1 | hc1
  · have hci : (1 : Int) ≤ e.q.length := by omega
    have hcj : (1 : Int) ≤ c4x := by omega
    have hck : 1 ≤ e.q.length := by omega
    have hcn : (c4x - 1 = 0) = False := by simp; omega
    have k5 : wz.cell? ⟨g, 5, none⟩ = some (.slice (some ⟨b4, o4, none⟩) e.q.length c4x) := r5.cell 5
    have f5 := r5.frozen 5
    obtain ⟨⟨c0, c1, c2', c3, c4⟩, ⟨c5, c6, c7, c8, c9'⟩, fz⟩ := end_cells r1
    go_upto_region 21 with (fail)
    clear hci hcj hck hcn
    clear c0 c1 c2' c3 c4 c5 c6 c7 c8 c9' fz
    have uwy := Upd.setCell wz g 5 (.slice (some ⟨b4, o4 + 1, none⟩) (e.q.length - 1) (c4x - 1))
    have r5' : Row (wz.setCell ⟨g, 5, none⟩ (.slice (some ⟨b4, o4 + 1, none⟩) (e.q.length - 1) (c4x - 1))) g 69 (EV { e with s := e.s + 1, off := ((frM e).length : Int), told := e.rc } (.slice (some ⟨b4, o4 + 1, none⟩) (e.q.length - 1) (c4x - 1)) (.slice B4 e.pt.length d4x)) := r5.set 5 (.slice (some ⟨b4, o4 + 1, none⟩) (e.q.length - 1) (c4x - 1))
    have r1 := r1.upd uwy (by omega)
    have r2 := r2.upd uwy (by omega)
    have r3 := r3.upd uwy (by omega)
    have rc := rc.upd uwy (by omega)
    have ho := ho.keeps (Keeps.upd (ts := [69]) uwy r5 (by simp)) (by decide) (by decide)
    have hB := Upd.below hB uwy (by omega)
    clear r5 uwy k5 f5
    generalize wz.setCell ⟨g, 5, none⟩ (.slice (some ⟨b4, o4 + 1, none⟩) (e.q.length - 1) (c4x - 1)) = wy at *
    have r5 := r5'
    clear r5'
    have k5 : wy.cell? ⟨g, 6, none⟩ = some (.int .i64 ((frM e).length : Int)) := r5.cell 6
    have f5 := r5.frozen 6
    go_upto_region 22 with (fail)
    have uwx := Upd.setCell wy g 6 (.int .i64 (-1))
    have r5' : Row (wy.setCell ⟨g, 6, none⟩ (.int .i64 (-1))) g 69 (EV { e with s := e.s + 1, off := -1, told := e.rc } (.slice (some ⟨b4, o4 + 1, none⟩) (e.q.length - 1) (c4x - 1)) (.slice B4 e.pt.length d4x)) := r5.set 6 (.int .i64 (-1))
    have r1 := r1.upd uwx (by omega)
    have r2 := r2.upd uwx (by omega)
    have r3 := r3.upd uwx (by omega)
    have rc := rc.upd uwx (by omega)
    have ho := ho.keeps (Keeps.upd (ts := [69]) uwx r5 (by simp)) (by decide) (by decide)
    have hB := Upd.below hB uwx (by omega)
    clear r5 uwx k5 f5
    generalize wy.setCell ⟨g, 6, none⟩ (.int .i64 (-1)) = wx at *
    have r5 := r5'
    clear r5'
    have r5 : Row wx g 69 (LEV (nxG e) (some ⟨b4, o4 + 1, none⟩) (c4x - 1) B4 d4x) := by
      rw [HGe.out]
      unfold LEV
      simp only [List.length_tail]
      exact r5
    obtain ⟨⟨c0, c1, c2', c3, c4⟩, ⟨c5, c6, c7, c8, c9'⟩, fz⟩ := end_cells r1
    obtain ⟨e', he'⟩ : ∃ e', nxG e = e' := ⟨_, rfl⟩
    rw [he'] at r5
    have HP := Lib.hid he'
    clear he' c0 c1 c2' c3 c4 c5 c6 c7 c8 c9' fz
    refine wp_region_late (n := 119) [2, 3] (NxU W wx.drew g (gw + 1) (W.heap.size + 2) (W.heap.size + 1) DD (LEV e' (some ⟨b4, o4 + 1, none⟩) (c4x - 1) B4 d4x)) (fun _ _ => True) (by kernel_rfl) (by kernel_rfl) (by rfl) (fun _ _ _ _ _ h => h) ⟨hB.drew, Keeps.refl _ _, r5, rc, fun _ => r2, fun h => by omega, fun _ => r3, fun h => by omega⟩ ?_
    refine late_pure (by simp) (fun w => trivial) (v := .agg (LEV e' (some ⟨b4, o4 + 1, none⟩) (c4x - 1) B4 d4x)) (fun _ => rfl) ?_ ?_; (focus (intro c9 us w9 hm9 hS9 hF; exact exec_load_g hS9.2.2.1.range Try.underlying69 rfl (lev_info _ _ _ _ _) rfl)); simp only [Act.put, List.setIfInBounds_toArray, List.set_cons_zero, List.set_cons_succ, Nat.reduceAdd]
    refine late_pure (by simp) (fun w => trivial) (v := .agg DD) (fun _ => rfl) ?_ ?_; (focus (intro c9 us w9 hm9 hS9 hF; exact exec_load_g hS9.2.2.2.1.range Try.underlying40 rfl HDi.out rfl)); simp only [Act.put, List.setIfInBounds_toArray, List.set_cons_zero, List.set_cons_succ, Nat.reduceAdd]
    refine late_store rfl ?_ ?_; (focus (intro us w9 hS9 hF K hK; clear hF; rw [if_pos (by rfl)]; exact step_put (L := LEV e' (some ⟨b4, o4 + 1, none⟩) (c4x - 1) B4 d4x) (hS9.2.2.2.2.1 rfl) rfl (lev_info _ _ _ _ _) (lev_one _ _ _ _ _) rfl rfl (fun w' u' r' => hK w' (hS9.one u' r' (by omega) (by omega) (by omega) (by omega)) trivial))); simp only [Nat.reduceAdd]
    refine late_store rfl ?_ ?_; (focus (intro us w9 hS9 hF K hK; clear hF; rw [if_pos (by rfl)]; exact step_put (L := DD) (hS9.2.2.2.2.2.2.1 (by omega)) (zl_61.trans HDs.out) HDi.out HD1.out rfl rfl (fun w' u' r' => hK w' (hS9.two u' r' (by omega) (by omega) (by omega) (by omega)) trivial))); simp only [Nat.reduceAdd]
    refine late_pure (by simp) (fun w => trivial) (v := ?_) (fun _ => rfl) ?_ ?_; rotate_left; (focus (intro c9 us w9 hm9 hS9 hF; clear hF hm9; go_simp; (try with_reducible rfl); done)); simp only [Act.put, List.setIfInBounds_toArray, List.set_cons_zero, List.set_cons_succ, Nat.reduceAdd]
    refine late_done fun us8 w8 hS8 hF => ?_
    have rr2 := hS8.2.2.2.2.2.1 (by omega)
    have rr3 := hS8.2.2.2.2.2.2.2 (by omega)
    have hB8 := hS8.1
    have hk := hS8.2.1
    clear hF hS8
    go_wp2
    refine bodyPost_ret (results_cct rfl rfl rfl rr2 rr3 Try.underlying69 Try.underlying40 rfl rfl (lev_info _ _ _ _ _) HDi.out) rfl ?_
    have ho : HeldO wx.drew W.heap.size e (some ⟨b4, o4, none⟩) c4x B4 d4x := ⟨ho.ex, ho.p⟩
    have h' := HP.out
    subst h'
    have hI : HeldI w8 W.heap.size w8.heap.size (nxG e) (some ⟨b4, o4 + 1, none⟩) (c4x - 1) B4 d4x := ⟨Nat.le_refl _, fun w' hw' => by
      have hx := ((ho.keeps hk (by decide) (by decide)).heldI ht.qm).2 w' hw'
      rw [HGe.out]
      exact ⟨by simpa using hx.q.tail hq0, by simp; omega, hx.p, hx.pc⟩⟩
    have hf := nx_go HE.out HG.out hI hB8
    rw [HDD.out] at hf
    exact hf
  · obtain rfl : c4x = 1 := by omega
    have hql1 : e.q.length = 1 := by omega
    have k5 : wz.cell? ⟨g, 5, none⟩ = some (.slice (some ⟨b4, o4, none⟩) e.q.length 1) := r5.cell 5
    have f5 := r5.frozen 5
    rw [hql1] at k5
    obtain ⟨⟨c0, c1, c2', c3, c4⟩, ⟨c5, c6, c7, c8, c9'⟩, fz⟩ := end_cells r1
    go_upto_region 21 with (fail)
    have HQ1 := Lib.hid hql1
    clear hql1
    clear c0 c1 c2' c3 c4 c5 c6 c7 c8 c9' fz
    have uwy := Upd.setCell wz g 5 (.slice (some ⟨b4, o4, none⟩) 0 0)
    have r5' : Row (wz.setCell ⟨g, 5, none⟩ (.slice (some ⟨b4, o4, none⟩) 0 0)) g 69 (EV { e with s := e.s + 1, off := ((frM e).length : Int), told := e.rc } (.slice (some ⟨b4, o4, none⟩) 0 0) (.slice B4 e.pt.length d4x)) := r5.set 5 (.slice (some ⟨b4, o4, none⟩) 0 0)
    have r1 := r1.upd uwy (by omega)
    have r2 := r2.upd uwy (by omega)
    have r3 := r3.upd uwy (by omega)
    have rc := rc.upd uwy (by omega)
    have ho := ho.keeps (Keeps.upd (ts := [69]) uwy r5 (by simp)) (by decide) (by decide)
    have hB := Upd.below hB uwy (by omega)
    clear r5 uwy k5 f5
    generalize wz.setCell ⟨g, 5, none⟩ (.slice (some ⟨b4, o4, none⟩) 0 0) = wy at *
    have r5 := r5'
    clear r5'
    have k5 : wy.cell? ⟨g, 6, none⟩ = some (.int .i64 ((frM e).length : Int)) := r5.cell 6
    have f5 := r5.frozen 6
    go_upto_region 22 with (fail)
    have uwx := Upd.setCell wy g 6 (.int .i64 (-1))
    have r5' : Row (wy.setCell ⟨g, 6, none⟩ (.int .i64 (-1))) g 69 (EV { e with s := e.s + 1, off := -1, told := e.rc } (.slice (some ⟨b4, o4, none⟩) 0 0) (.slice B4 e.pt.length d4x)) := r5.set 6 (.int .i64 (-1))
    have r1 := r1.upd uwx (by omega)
    have r2 := r2.upd uwx (by omega)
    have r3 := r3.upd uwx (by omega)
    have rc := rc.upd uwx (by omega)
    have ho := ho.keeps (Keeps.upd (ts := [69]) uwx r5 (by simp)) (by decide) (by decide)
    have hB := Upd.below hB uwx (by omega)
    clear r5 uwx k5 f5
    generalize wy.setCell ⟨g, 6, none⟩ (.int .i64 (-1)) = wx at *
    have r5 := r5'
    clear r5'
    have r5 : Row wx g 69 (LEV (nxG e) (some ⟨b4, o4, none⟩) 0 B4 d4x) := by
      rw [HGe.out]
      unfold LEV
      simp only [List.length_tail, HQ1.out]
      exact r5
    obtain ⟨⟨c0, c1, c2', c3, c4⟩, ⟨c5, c6, c7, c8, c9'⟩, fz⟩ := end_cells r1
    obtain ⟨e', he'⟩ : ∃ e', nxG e = e' := ⟨_, rfl⟩
    rw [he'] at r5
    have HP := Lib.hid he'
    clear he' c0 c1 c2' c3 c4 c5 c6 c7 c8 c9' fz
    refine wp_region_late (n := 119) [2, 3] (NxU W wx.drew g (gw + 1) (W.heap.size + 2) (W.heap.size + 1) DD (LEV e' (some ⟨b4, o4, none⟩) 0 B4 d4x)) (fun _ _ => True) (by kernel_rfl) (by kernel_rfl) (by rfl) (fun _ _ _ _ _ h => h) ⟨hB.drew, Keeps.refl _ _, r5, rc, fun _ => r2, fun h => by omega, fun _ => r3, fun h => by omega⟩ ?_
    refine late_pure (by simp) (fun w => trivial) (v := .agg (LEV e' (some ⟨b4, o4, none⟩) 0 B4 d4x)) (fun _ => rfl) ?_ ?_; (focus (intro c9 us w9 hm9 hS9 hF; exact exec_load_g hS9.2.2.1.range Try.underlying69 rfl (lev_info _ _ _ _ _) rfl)); simp only [Act.put, List.setIfInBounds_toArray, List.set_cons_zero, List.set_cons_succ, Nat.reduceAdd]
    refine late_pure (by simp) (fun w => trivial) (v := .agg DD) (fun _ => rfl) ?_ ?_; (focus (intro c9 us w9 hm9 hS9 hF; exact exec_load_g hS9.2.2.2.1.range Try.underlying40 rfl HDi.out rfl)); simp only [Act.put, List.setIfInBounds_toArray, List.set_cons_zero, List.set_cons_succ, Nat.reduceAdd]
    refine late_store rfl ?_ ?_; (focus (intro us w9 hS9 hF K hK; clear hF; rw [if_pos (by rfl)]; exact step_put (L := LEV e' (some ⟨b4, o4, none⟩) 0 B4 d4x) (hS9.2.2.2.2.1 rfl) rfl (lev_info _ _ _ _ _) (lev_one _ _ _ _ _) rfl rfl (fun w' u' r' => hK w' (hS9.one u' r' (by omega) (by omega) (by omega) (by omega)) trivial))); simp only [Nat.reduceAdd]
    refine late_store rfl ?_ ?_; (focus (intro us w9 hS9 hF K hK; clear hF; rw [if_pos (by rfl)]; exact step_put (L := DD) (hS9.2.2.2.2.2.2.1 (by omega)) (zl_61.trans HDs.out) HDi.out HD1.out rfl rfl (fun w' u' r' => hK w' (hS9.two u' r' (by omega) (by omega) (by omega) (by omega)) trivial))); simp only [Nat.reduceAdd]
    refine late_pure (by simp) (fun w => trivial) (v := ?_) (fun _ => rfl) ?_ ?_; rotate_left; (focus (intro c9 us w9 hm9 hS9 hF; clear hF hm9; go_simp; (try with_reducible rfl); done)); simp only [Act.put, List.setIfInBounds_toArray, List.set_cons_zero, List.set_cons_succ, Nat.reduceAdd]
    refine late_done fun us8 w8 hS8 hF => ?_
    have rr2 := hS8.2.2.2.2.2.1 (by omega)
    have rr3 := hS8.2.2.2.2.2.2.2 (by omega)
    have hB8 := hS8.1
    have hk := hS8.2.1
    clear hF hS8
    go_wp2
    refine bodyPost_ret (results_cct rfl rfl rfl rr2 rr3 Try.underlying69 Try.underlying40 rfl rfl (lev_info _ _ _ _ _) HDi.out) rfl ?_
    have ho : HeldO wx.drew W.heap.size e (some ⟨b4, o4, none⟩) 1 B4 d4x := ⟨ho.ex, ho.p⟩
    have h' := HP.out
    subst h'
    have hI : HeldI w8 W.heap.size w8.heap.size (nxG e) (some ⟨b4, o4, none⟩) 0 B4 d4x := ⟨Nat.le_refl _, fun w' hw' => by
      have hx := ((ho.keeps hk (by decide) (by decide)).heldI ht.qm).2 w' hw'
      rw [HGe.out]
      have htl : e.q.tail = [] := List.eq_nil_of_length_eq_zero (by rw [List.length_tail, HQ1.out])
      exact ⟨by simp only [htl]; exact ⟨rfl, fun h => by simp at h⟩, by simp [htl], hx.p, hx.pc⟩⟩
    have hf := nx_go HE.out HG.out hI hB8
    rw [HDD.out] at hf
    exact hf
theorem nextR (e : LE) (A B : Option Addr) (c d : Nat) (W : World) (ht : e.ty) (hH : Held W e A c B d) : Calls Try.prog 50 #[.agg (LEV e A c B d)] W (NxP e W) := by
  by_cases hv : vE e = true
  · have hve := vE_yes hv
    by_cases hq0 : 0 < e.q.length
    · by_cases hf0 : 0 < fr e.n e.s e.a
      · by_cases hs : e.s = 4611686018427387904
        · rcases hve.off with hoff | ⟨-, h1, h2, -⟩
          · by_cases h52 : (frM e).length ≤ 52
            · exact nxr_lima1 e A B c d W ht hH hv hq0 hf0 hs hoff h52
            · exact nxr_lima2 e A B c d W ht hH hv hq0 hf0 hs hoff (by omega)
          · obtain ⟨j, hj⟩ : ∃ j : Nat, e.off = j := ⟨e.off.toNat, by omega⟩
            by_cases h52 : (frM e).length ≤ j + 56
            · exact nxr_limb1 e A B c d W ht hH hv hq0 hf0 hs j hj (by omega) h52
            · exact nxr_limb2 e A B c d W ht hH hv hq0 hf0 hs j hj (by omega) (by omega)
        · rcases hve.off with hoff | ⟨-, h1, h2, -⟩
          · by_cases h52 : (frM e).length ≤ 52
            · exact nxr_enda1 e A B c d W ht hH hv hq0 hf0 hs hoff h52
            · exact nxr_morea2 e A B c d W ht hH hv hq0 hf0 hs hoff (by omega)
          · obtain ⟨j, hj⟩ : ∃ j : Nat, e.off = j := ⟨e.off.toNat, by omega⟩
            by_cases h52 : (frM e).length ≤ j + 56
            · exact nxr_endb1 e A B c d W ht hH hv hq0 hf0 hs j hj (by omega) h52
            · exact nxr_moreb2 e A B c d W ht hH hv hq0 hf0 hs j hj (by omega) (by omega)
      · by_cases hc : e.rn / 2 ≤ e.rc - e.told
        · exact nxr_f0y e A B c d W ht hH hv hq0 (by omega) hc
        · exact nxr_f0n e A B c d W ht hH hv hq0 (by omega) (by omega)
    · by_cases hc : e.rn / 2 ≤ e.rc - e.told
      · exact nxr_q0y e A B c d W ht hH hv (by omega) hc
      · exact nxr_q0n e A B c d W ht hH hv (by omega) (by omega)
  · exact nxr_v e A B c d W ht hH (by simpa using hv)
end
end Go.Proofs.Ythjkhambmgepdaa
