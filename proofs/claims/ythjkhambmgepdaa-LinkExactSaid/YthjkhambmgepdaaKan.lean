/- Texts Fd Ff Rf3 Rf4 Fg, without what this claim does not use. -/
import Derived.Test.YthjkhambmgepdaaKal
import Derived.Test.YthjkhambmgepdaaKam
namespace Go.Proofs.Ythjkhambmgepdaa
section
open Go.RowKit
set_option linter.unusedVariables false
set_option linter.unusedSimpArgs false
theorem HeldO.heldI {w : World} {lo : Nat} {e : LE} {A B : Option Addr} {c d : Nat} (h : HeldO w lo e A c B d) (hm : ∀ m ∈ e.q, m.length ≤ 1000000000) : HeldI w lo w.heap.size e A c B d := by
  obtain ⟨vs, ho, hq⟩ := h.ex
  exact ⟨Nat.le_refl _, fun w' hw' => ⟨isM_of (ho.stay (Nat.le_refl _) hw') (hq.stay (Nat.le_refl _) hw') (fun x hx => by have := hm x hx; omega), ho.cap, (h.p.stay (Nat.le_refl _) hw').isB, h.p.capM⟩⟩
theorem free_isR {n s a x : Int} (hx : fr n s a = x) (hs : 0 ≤ s) (hs1 : s < 18446744073709551616) (ha : 0 ≤ a) (W : World) : Calls Try.prog 37 #[.agg #[.int .i64 n, .int .u64 s, .int .u64 a]] W (fun en W' => en = .returned (.int .i64 x) ∧ Below W.heap.size W W') :=
  (free_ref n s a hs hs1 ha W).mono fun en W' h => by rw [← hx]; exact h
set_option maxRecDepth 100000 in
set_option maxHeartbeats 8000000 in
theorem nxr_v (e : LE) (A B : Option Addr) (c d : Nat) (W : World) (ht : e.ty) (hH : Held W e A c B d) (hv : vE e = false) : Calls Try.prog 50 #[.agg (LEV e A c B d)] W (NxP e W) := by
  have HE := Lib.hid (show nxE e = 74 by unfold nxE; rw [hv]; simp)
  have HV := Lib.hid hv
  clear hv
  obtain ⟨r1, r2, r3, hB1⟩ := three_born W 69 69 40 (LEV e A c B d) ZE ZL
  go_enter Try.func50, Try.ntmps50
  go_upto_region 1 with (fail)
  change Code.wp _ _ _ _ (((W.alloc (.cells (LEV e A c B d) 69)).alloc (.cells ZE 69)).alloc (.cells ZL 40))
  generalize (((W.alloc (.cells (LEV e A c B d) 69)).alloc (.cells ZE 69)).alloc (.cells ZL 40)) = w1 at *
  have hH1 := hH.below hB1
  go_wp2_with (first | ((with_reducible refine wp_load_g ?_ r1.range Try.underlying69 rfl (lev_info _ _ _ _ _) ?_ ?_); rfl; rfl) | (go_at_call 106; (with_reducible refine (end_is HV.out ht hH1).mono ?_); rintro en w2 ⟨rfl, hb2⟩; have r1 := r1.below hb2 r1.lt; have r2 := r2.below hb2 r2.lt; have r3 := r3.below hb2 r3.lt; have hB2 := hB1.trans (hb2.mono hB1.size)) | ((with_reducible refine wp_row_store (L := ZE) r2 rfl ze_info ze_one ?_ ?_ ?_); rfl; rfl; intro wa va ra) | ((with_reducible refine wp_row_store (L := ZL) (r3.upd va (by omega)) rfl zl_info zl_one ?_ ?_ ?_); rfl; rfl; intro wb vb rb))
  refine bodyPost_ret (results_cct rfl rfl rfl (ra.upd vb (by omega)) rb Try.underlying69 Try.underlying40 rfl rfl ze_info zl_info) rfl ?_
  exact nx_no HE.out (by decide) (Upd.below (Upd.below hB2 va (by omega)) vb (by omega))
set_option maxRecDepth 100000 in
set_option maxHeartbeats 8000000 in
theorem nxr_q0n (e : LE) (A B : Option Addr) (c d : Nat) (W : World) (ht : e.ty) (hH : Held W e A c B d) (hv : vE e = true) (hq0 : e.q.length = 0) (hc : e.rc - e.told < e.rn / 2) : Calls Try.prog 50 #[.agg (LEV e A c B d)] W (NxP e W) := by
  have hg0 : nxGo e = false := by simp [nxGo, hq0]
  have d0 : decide (0 < e.q.length) = false := decide_eq_false (by omega)
  have d0i : decide ((0 : Int) < (e.q.length : Int)) = false := decide_eq_false (by omega)
  have HE := Lib.hid (show nxE e = 17 by unfold nxE; rw [hv, hg0]; simp; omega)
  have HG := Lib.hid hg0
  clear hg0
  have hve := vE_yes hv
  have HV := Lib.hid hv
  clear hv
  have t0 := ht.t0
  have t1 := ht.t1
  have rc0 := ht.r0
  have rc1 := ht.r1
  have htold := hve.told
  have hrn := vl_range (vr_vl hve.vr)
  have hsub : IntKind.u64.wrap (e.rc - e.told) = e.rc - e.told := by rw [IntKind.wrap_u64]; omega
  have hquo : e.rn.tdiv 2 = e.rn / 2 := Int.tdiv_eq_ediv_of_nonneg (by omega)
  have hw2 : IntKind.u64.wrap (e.rn / 2) = e.rn / 2 := by rw [IntKind.wrap_u64]; omega
  have hw3 : IntKind.i64.wrap (e.rn / 2) = e.rn / 2 := by rw [IntKind.wrap_i64]; omega
  have dc : decide (e.rn / 2 ≤ e.rc - e.told) = false := by simp; omega
  clear hq0
  obtain ⟨r1, r2, r3, hB1⟩ := three_born W 69 69 40 (LEV e A c B d) ZE ZL
  go_enter Try.func50, Try.ntmps50
  go_upto_region 1 with (fail)
  change Code.wp _ _ _ _ (((W.alloc (.cells (LEV e A c B d) 69)).alloc (.cells ZE 69)).alloc (.cells ZL 40))
  generalize (((W.alloc (.cells (LEV e A c B d) 69)).alloc (.cells ZE 69)).alloc (.cells ZL 40)) = w1 at *
  have hH1 := hH.below hB1
  go_upto_region 3 with (first | ((with_reducible refine wp_load_g ?_ r1.range Try.underlying69 rfl (lev_info _ _ _ _ _) ?_ ?_); rfl; rfl) | (go_at_call 106; (with_reducible refine (end_is HV.out ht hH1).mono ?_); rintro en w2 ⟨rfl, hb2⟩; have r1 := r1.below hb2 r1.lt; have r2 := r2.below hb2 r2.lt; have r3 := r3.below hb2 r3.lt; have hB2 := hB1.trans (hb2.mono hB1.size)))
  have hH2 := hH.below hB2
  have hl1 := r1.lt
  have hl2 := r2.lt
  have hl3 := r3.lt
  go_upto_region 4 with (first | ((with_reducible refine wp_load_g ?_ r1.range Try.underlying69 rfl (lev_info _ _ _ _ _) ?_ ?_); rfl; rfl) | (go_at_call 47; (with_reducible refine (copyL e A B c d _ ht hH2).mono ?_); rintro en w4 ⟨A4, c4x, B4, d4x, rfl, ho, hb4⟩) | ((with_reducible refine wp_row_store (L := LEV e A4 c4x B4 d4x) (Row.bornAt (g := w4.heap.size) rfl 69 _) ?_ (lev_info _ _ _ _ _) (lev_one _ _ _ _ _) ?_ ?_ ?_); rfl; rfl; rfl; intro w5 v5 r5))
  have hal := Upd.below ((Below.refl w4.heap.size w4).alloc (Nat.le_refl _) (.cells ZE 69)) v5 (Nat.le_refl _)
  have hbl := hb4.trans (hal.mono hb4.size)
  have r1 := r1.below hbl hl1
  have r2 := r2.below hbl hl2
  have r3 := r3.below hbl hl3
  have hB5 := hB2.trans (hbl.mono hB2.size)
  have ho := (ho.below hal).lower hB2.size
  have hg : W.heap.size + 2 < w4.heap.size := Nat.lt_of_lt_of_le hl3 hb4.size
  clear hal hbl hb4 v5 hl1 hl2 hl3 hH2 hH1 hB2 hb2 hB1
  generalize w4.heap.size = g at *
  obtain ⟨⟨c0, c1, c2, c3, c4⟩, ⟨c5, c6, c7, c8, c9⟩, fz⟩ := end_cells r1
  have hl1 := r1.lt
  have hl2 := r2.lt
  have hl3 := r3.lt
  have hl5 := r5.lt
  go_upto_region 5 with (go_at_call 39; (with_reducible refine (ack_ref _ _ _).mono ?_); rintro en w6 ⟨rfl, hb6⟩)
  have r1 := r1.below hb6 hl1
  have r2 := r2.below hb6 hl2
  have r3 := r3.below hb6 hl3
  have r5 := r5.below hb6 hl5
  have hB6 := hB5.trans (hb6.mono hB5.size)
  have ho := ho.below hb6
  clear hb6 hB5 c0 c1 c2 c3 c4 c5 c6 c7 c8 c9 fz hl1 hl2 hl3 hl5
  obtain ⟨⟨c0, c1, c2, c3, c4⟩, ⟨c5, c6, c7, c8, c9⟩, fz⟩ := end_cells r1
  have hl1 := r1.lt
  have hl2 := r2.lt
  have hl3 := r3.lt
  have hl5 := r5.lt
  go_wp2_with (first | ((with_reducible refine wp_row_store (L := ZE) r2 rfl ze_info ze_one ?_ ?_ ?_); rfl; rfl; intro wa va ra) | ((with_reducible refine wp_row_store (L := ZL) (r3.upd va (by omega)) rfl zl_info zl_one ?_ ?_ ?_); rfl; rfl; intro wb vb rb))
  refine bodyPost_ret (results_cct rfl rfl rfl (ra.upd vb (by omega)) rb Try.underlying69 Try.underlying40 rfl rfl ze_info zl_info) rfl ?_
  exact nx_no HE.out (by decide) (Upd.below (Upd.below hB6 va (by omega)) vb (by omega))
set_option maxRecDepth 100000 in
set_option maxHeartbeats 8000000 in
theorem nxr_q0y (e : LE) (A B : Option Addr) (c d : Nat) (W : World) (ht : e.ty) (hH : Held W e A c B d) (hv : vE e = true) (hq0 : e.q.length = 0) (hc : e.rn / 2 ≤ e.rc - e.told) : Calls Try.prog 50 #[.agg (LEV e A c B d)] W (NxP e W) := by
  have hg0 : nxGo e = false := by simp [nxGo, hq0]
  have d0 : decide (0 < e.q.length) = false := decide_eq_false (by omega)
  have d0i : decide ((0 : Int) < (e.q.length : Int)) = false := decide_eq_false (by omega)
  have HE := Lib.hid (show nxE e = 0 by unfold nxE; rw [hv, hg0]; simp; omega)
  have HG := Lib.hid hg0
  clear hg0
  have hve := vE_yes hv
  have HV := Lib.hid hv
  clear hv
  have t0 := ht.t0
  have t1 := ht.t1
  have rc0 := ht.r0
  have rc1 := ht.r1
  have htold := hve.told
  have hrn := vl_range (vr_vl hve.vr)
  have hsub : IntKind.u64.wrap (e.rc - e.told) = e.rc - e.told := by rw [IntKind.wrap_u64]; omega
  have hquo : e.rn.tdiv 2 = e.rn / 2 := Int.tdiv_eq_ediv_of_nonneg (by omega)
  have hw2 : IntKind.u64.wrap (e.rn / 2) = e.rn / 2 := by rw [IntKind.wrap_u64]; omega
  have hw3 : IntKind.i64.wrap (e.rn / 2) = e.rn / 2 := by rw [IntKind.wrap_i64]; omega
  have dc : decide (e.rn / 2 ≤ e.rc - e.told) = true := by simp; omega
  clear hq0
  obtain ⟨r1, r2, r3, hB1⟩ := three_born W 69 69 40 (LEV e A c B d) ZE ZL
  go_enter Try.func50, Try.ntmps50
  go_upto_region 1 with (fail)
  change Code.wp _ _ _ _ (((W.alloc (.cells (LEV e A c B d) 69)).alloc (.cells ZE 69)).alloc (.cells ZL 40))
  generalize (((W.alloc (.cells (LEV e A c B d) 69)).alloc (.cells ZE 69)).alloc (.cells ZL 40)) = w1 at *
  have hH1 := hH.below hB1
  go_upto_region 3 with (first | ((with_reducible refine wp_load_g ?_ r1.range Try.underlying69 rfl (lev_info _ _ _ _ _) ?_ ?_); rfl; rfl) | (go_at_call 106; (with_reducible refine (end_is HV.out ht hH1).mono ?_); rintro en w2 ⟨rfl, hb2⟩; have r1 := r1.below hb2 r1.lt; have r2 := r2.below hb2 r2.lt; have r3 := r3.below hb2 r3.lt; have hB2 := hB1.trans (hb2.mono hB1.size)))
  have hH2 := hH.below hB2
  have hl1 := r1.lt
  have hl2 := r2.lt
  have hl3 := r3.lt
  go_upto_region 4 with (first | ((with_reducible refine wp_load_g ?_ r1.range Try.underlying69 rfl (lev_info _ _ _ _ _) ?_ ?_); rfl; rfl) | (go_at_call 47; (with_reducible refine (copyL e A B c d _ ht hH2).mono ?_); rintro en w4 ⟨A4, c4x, B4, d4x, rfl, ho, hb4⟩) | ((with_reducible refine wp_row_store (L := LEV e A4 c4x B4 d4x) (Row.bornAt (g := w4.heap.size) rfl 69 _) ?_ (lev_info _ _ _ _ _) (lev_one _ _ _ _ _) ?_ ?_ ?_); rfl; rfl; rfl; intro w5 v5 r5))
  have hal := Upd.below ((Below.refl w4.heap.size w4).alloc (Nat.le_refl _) (.cells ZE 69)) v5 (Nat.le_refl _)
  have hbl := hb4.trans (hal.mono hb4.size)
  have r1 := r1.below hbl hl1
  have r2 := r2.below hbl hl2
  have r3 := r3.below hbl hl3
  have hB5 := hB2.trans (hbl.mono hB2.size)
  have ho := (ho.below hal).lower hB2.size
  have hg : W.heap.size + 2 < w4.heap.size := Nat.lt_of_lt_of_le hl3 hb4.size
  clear hal hbl hb4 v5 hl1 hl2 hl3 hH2 hH1 hB2 hb2 hB1
  generalize w4.heap.size = g at *
  obtain ⟨⟨c0, c1, c2, c3, c4⟩, ⟨c5, c6, c7, c8, c9⟩, fz⟩ := end_cells r1
  have hl1 := r1.lt
  have hl2 := r2.lt
  have hl3 := r3.lt
  have hl5 := r5.lt
  go_upto_region 5 with (go_at_call 39; (with_reducible refine (ack_ref _ _ _).mono ?_); rintro en w6 ⟨rfl, hb6⟩)
  have r1 := r1.below hb6 hl1
  have r2 := r2.below hb6 hl2
  have r3 := r3.below hb6 hl3
  have r5 := r5.below hb6 hl5
  have hB6 := hB5.trans (hb6.mono hB5.size)
  have ho := ho.below hb6
  clear hb6 hB5 c0 c1 c2 c3 c4 c5 c6 c7 c8 c9 fz hl1 hl2 hl3 hl5
  obtain ⟨⟨c0, c1, c2, c3, c4⟩, ⟨c5, c6, c7, c8, c9⟩, fz⟩ := end_cells r1
  have hl1 := r1.lt
  have hl2 := r2.lt
  have hl3 := r3.lt
  have hl5 := r5.lt
  go_upto_region 24 with (first | (fail))
  have k9 : w6.cell? ⟨g, 9, none⟩ = some (.int .u64 e.told) := r5.cell 9
  have f9 := r5.frozen 9
  go_upto_region 25 with (fail)
  have u9 := Upd.setCell w6 g 9 (.int .u64 e.rc)
  have r9 : Row (w6.setCell ⟨g, 9, none⟩ (.int .u64 e.rc)) g 69 (LEV (nxA e) A4 c4x B4 d4x) := r5.set 9 (.int .u64 e.rc)
  have ho := ho.keeps (Keeps.upd (ts := [69]) u9 r5 (by simp)) (by decide) (by decide)
  have r2 := r2.upd u9 (by omega)
  have r3 := r3.upd u9 (by omega)
  have hB9 := Upd.below hB6 u9 (by omega)
  clear c0 c1 c2 c3 c4 c5 c6 c7 c8 c9 fz k9 f9 r1 r5 hB6 u9
  generalize w6.setCell ⟨g, 9, none⟩ (.int .u64 e.rc) = w9 at *
  have hLi : (Try.prog.info? 40).map (·.size) = some (nxK e).size := line_info _ _ _ _ _ z56_len
  go_wp2_with (first | ((with_reducible refine wp_load_g ?_ r9.range Try.underlying69 rfl (lev_info _ _ _ _ _) ?_ ?_); rfl; rfl) | ((with_reducible refine wp_row_store (L := LEV (nxA e) A4 c4x B4 d4x) r2 rfl (lev_info _ _ _ _ _) (lev_one _ _ _ _ _) ?_ ?_ ?_); rfl; rfl; intro wa va ra) | ((refine wp_row_store (L := nxK e) (r3.upd va (by omega)) rfl hLi (LV_one _ _ _ _ _ _) ?_ ?_ ?_); rfl; rfl; intro wb vb rb))
  refine bodyPost_ret (results_cct rfl rfl rfl (ra.upd vb (by omega)) rb Try.underlying69 Try.underlying40 rfl rfl (lev_info _ _ _ _ _) hLi) rfl ?_
  have ho : HeldO w9 W.heap.size (nxA e) A4 c4x B4 d4x := ⟨ho.ex, ho.p⟩
  exact nx_ack HE.out HG.out (((ho.keeps (Keeps.upd (ts := [69]) va r2 (by simp)) (by decide) (by decide)).keeps (Keeps.upd (ts := [40]) vb (r3.upd va (by omega)) (by simp)) (by decide) (by decide)).heldI ht.qm) (Upd.below (Upd.below hB9 va (by omega)) vb (by omega))
set_option maxRecDepth 100000 in
set_option maxHeartbeats 8000000 in
theorem nxr_f0n (e : LE) (A B : Option Addr) (c d : Nat) (W : World) (ht : e.ty) (hH : Held W e A c B d) (hv : vE e = true) (hq0 : 0 < e.q.length) (hf0 : fr e.n e.s e.a ≤ 0) (hc : e.rc - e.told < e.rn / 2) : Calls Try.prog 50 #[.agg (LEV e A c B d)] W (NxP e W) := by
  have hg0 : nxGo e = false := by unfold nxGo; rw [decide_eq_false (by omega : ¬ 0 < fr e.n e.s e.a)]; simp
  have d0 : decide (0 < e.q.length) = true := decide_eq_true hq0
  have d0i : decide ((0 : Int) < (e.q.length : Int)) = true := decide_eq_true (by omega)
  obtain ⟨x, hx⟩ : ∃ x, fr e.n e.s e.a = x := ⟨_, rfl⟩
  rw [hx] at hf0
  have dx : decide (0 < x) = false := decide_eq_false (by omega)
  have HX := Lib.hid hx
  have HE := Lib.hid (show nxE e = 17 by unfold nxE; rw [hv, hg0]; simp; omega)
  have HG := Lib.hid hg0
  clear hg0 hx hf0
  have hve := vE_yes hv
  have HV := Lib.hid hv
  clear hv
  have t0 := ht.t0
  have t1 := ht.t1
  have rc0 := ht.r0
  have rc1 := ht.r1
  have htold := hve.told
  have hrn := vl_range (vr_vl hve.vr)
  have hsub : IntKind.u64.wrap (e.rc - e.told) = e.rc - e.told := by rw [IntKind.wrap_u64]; omega
  have hquo : e.rn.tdiv 2 = e.rn / 2 := Int.tdiv_eq_ediv_of_nonneg (by omega)
  have hw2 : IntKind.u64.wrap (e.rn / 2) = e.rn / 2 := by rw [IntKind.wrap_u64]; omega
  have hw3 : IntKind.i64.wrap (e.rn / 2) = e.rn / 2 := by rw [IntKind.wrap_i64]; omega
  have dc : decide (e.rn / 2 ≤ e.rc - e.told) = false := by simp; omega
  clear hq0
  obtain ⟨r1, r2, r3, hB1⟩ := three_born W 69 69 40 (LEV e A c B d) ZE ZL
  go_enter Try.func50, Try.ntmps50
  go_upto_region 1 with (fail)
  change Code.wp _ _ _ _ (((W.alloc (.cells (LEV e A c B d) 69)).alloc (.cells ZE 69)).alloc (.cells ZL 40))
  generalize (((W.alloc (.cells (LEV e A c B d) 69)).alloc (.cells ZE 69)).alloc (.cells ZL 40)) = w1 at *
  have hH1 := hH.below hB1
  go_upto_region 3 with (first | ((with_reducible refine wp_load_g ?_ r1.range Try.underlying69 rfl (lev_info _ _ _ _ _) ?_ ?_); rfl; rfl) | (go_at_call 106; (with_reducible refine (end_is HV.out ht hH1).mono ?_); rintro en w2 ⟨rfl, hb2⟩; have r1 := r1.below hb2 r1.lt; have r2 := r2.below hb2 r2.lt; have r3 := r3.below hb2 r3.lt; have hB2 := hB1.trans (hb2.mono hB1.size)))
  have hH2 := hH.below hB2
  have hl1 := r1.lt
  have hl2 := r2.lt
  have hl3 := r3.lt
  go_upto_region 4 with (first | ((with_reducible refine wp_load_g ?_ r1.range Try.underlying69 rfl (lev_info _ _ _ _ _) ?_ ?_); rfl; rfl) | (go_at_call 47; (with_reducible refine (copyL e A B c d _ ht hH2).mono ?_); rintro en w4 ⟨A4, c4x, B4, d4x, rfl, ho, hb4⟩) | ((with_reducible refine wp_row_store (L := LEV e A4 c4x B4 d4x) (Row.bornAt (g := w4.heap.size) rfl 69 _) ?_ (lev_info _ _ _ _ _) (lev_one _ _ _ _ _) ?_ ?_ ?_); rfl; rfl; rfl; intro w5 v5 r5))
  have hal := Upd.below ((Below.refl w4.heap.size w4).alloc (Nat.le_refl _) (.cells ZE 69)) v5 (Nat.le_refl _)
  have hbl := hb4.trans (hal.mono hb4.size)
  have r1 := r1.below hbl hl1
  have r2 := r2.below hbl hl2
  have r3 := r3.below hbl hl3
  have hB5 := hB2.trans (hbl.mono hB2.size)
  have ho := (ho.below hal).lower hB2.size
  have hg : W.heap.size + 2 < w4.heap.size := Nat.lt_of_lt_of_le hl3 hb4.size
  clear hal hbl hb4 v5 hl1 hl2 hl3 hH2 hH1 hB2 hb2 hB1
  generalize w4.heap.size = g at *
  obtain ⟨⟨c0, c1, c2, c3, c4⟩, ⟨c5, c6, c7, c8, c9⟩, fz⟩ := end_cells r1
  have hl1 := r1.lt
  have hl2 := r2.lt
  have hl3 := r3.lt
  have hl5 := r5.lt
  go_upto_region 5 with (go_at_call 39; (with_reducible refine (ack_ref _ _ _).mono ?_); rintro en w6 ⟨rfl, hb6⟩)
  have r1 := r1.below hb6 hl1
  have r2 := r2.below hb6 hl2
  have r3 := r3.below hb6 hl3
  have r5 := r5.below hb6 hl5
  have hB6 := hB5.trans (hb6.mono hB5.size)
  have ho := ho.below hb6
  clear hb6 hB5 c0 c1 c2 c3 c4 c5 c6 c7 c8 c9 fz hl1 hl2 hl3 hl5
  obtain ⟨⟨c0, c1, c2, c3, c4⟩, ⟨c5, c6, c7, c8, c9⟩, fz⟩ := end_cells r1
  have hl1 := r1.lt
  have hl2 := r2.lt
  have hl3 := r3.lt
  have hl5 := r5.lt
  go_wp2_with (first | (go_at_call 37; (with_reducible refine (free_isR HX.out ht.s0 ht.s1 ht.a0 _).mono ?_); rintro en w7 ⟨rfl, hb7⟩; have r1 := r1.below hb7 hl1; have r2 := r2.below hb7 hl2; have r3 := r3.below hb7 hl3; have r5 := r5.below hb7 hl5; have hB6 := hB6.trans (hb7.mono hB6.size); have ho := ho.below hb7; have hl1 := r1.lt; have hl2 := r2.lt; have hl3 := r3.lt; have hl5 := r5.lt; obtain ⟨⟨c0, c1, c2, c3, c4⟩, ⟨c5, c6, c7, c8, c9⟩, fz⟩ := end_cells r1) | ((with_reducible refine wp_row_store (L := ZE) r2 rfl ze_info ze_one ?_ ?_ ?_); rfl; rfl; intro wa va ra) | ((with_reducible refine wp_row_store (L := ZL) (r3.upd va (by omega)) rfl zl_info zl_one ?_ ?_ ?_); rfl; rfl; intro wb vb rb))
  refine bodyPost_ret (results_cct rfl rfl rfl (ra.upd vb (by omega)) rb Try.underlying69 Try.underlying40 rfl rfl ze_info zl_info) rfl ?_
  exact nx_no HE.out (by decide) (Upd.below (Upd.below hB6 va (by omega)) vb (by omega))
set_option maxRecDepth 100000 in
set_option maxHeartbeats 8000000 in
theorem nxr_f0y (e : LE) (A B : Option Addr) (c d : Nat) (W : World) (ht : e.ty) (hH : Held W e A c B d) (hv : vE e = true) (hq0 : 0 < e.q.length) (hf0 : fr e.n e.s e.a ≤ 0) (hc : e.rn / 2 ≤ e.rc - e.told) : Calls Try.prog 50 #[.agg (LEV e A c B d)] W (NxP e W) := by
  have hg0 : nxGo e = false := by unfold nxGo; rw [decide_eq_false (by omega : ¬ 0 < fr e.n e.s e.a)]; simp
  have d0 : decide (0 < e.q.length) = true := decide_eq_true hq0
  have d0i : decide ((0 : Int) < (e.q.length : Int)) = true := decide_eq_true (by omega)
  obtain ⟨x, hx⟩ : ∃ x, fr e.n e.s e.a = x := ⟨_, rfl⟩
  rw [hx] at hf0
  have dx : decide (0 < x) = false := decide_eq_false (by omega)
  have HX := Lib.hid hx
  have HE := Lib.hid (show nxE e = 0 by unfold nxE; rw [hv, hg0]; simp; omega)
  have HG := Lib.hid hg0
  clear hg0 hx hf0
  have hve := vE_yes hv
  have HV := Lib.hid hv
  clear hv
  have t0 := ht.t0
  have t1 := ht.t1
  have rc0 := ht.r0
  have rc1 := ht.r1
  have htold := hve.told
  have hrn := vl_range (vr_vl hve.vr)
  have hsub : IntKind.u64.wrap (e.rc - e.told) = e.rc - e.told := by rw [IntKind.wrap_u64]; omega
  have hquo : e.rn.tdiv 2 = e.rn / 2 := Int.tdiv_eq_ediv_of_nonneg (by omega)
  have hw2 : IntKind.u64.wrap (e.rn / 2) = e.rn / 2 := by rw [IntKind.wrap_u64]; omega
  have hw3 : IntKind.i64.wrap (e.rn / 2) = e.rn / 2 := by rw [IntKind.wrap_i64]; omega
  have dc : decide (e.rn / 2 ≤ e.rc - e.told) = true := by simp; omega
  clear hq0
  obtain ⟨r1, r2, r3, hB1⟩ := three_born W 69 69 40 (LEV e A c B d) ZE ZL
  go_enter Try.func50, Try.ntmps50
  go_upto_region 1 with (fail)
  change Code.wp _ _ _ _ (((W.alloc (.cells (LEV e A c B d) 69)).alloc (.cells ZE 69)).alloc (.cells ZL 40))
  generalize (((W.alloc (.cells (LEV e A c B d) 69)).alloc (.cells ZE 69)).alloc (.cells ZL 40)) = w1 at *
  have hH1 := hH.below hB1
  go_upto_region 3 with (first | ((with_reducible refine wp_load_g ?_ r1.range Try.underlying69 rfl (lev_info _ _ _ _ _) ?_ ?_); rfl; rfl) | (go_at_call 106; (with_reducible refine (end_is HV.out ht hH1).mono ?_); rintro en w2 ⟨rfl, hb2⟩; have r1 := r1.below hb2 r1.lt; have r2 := r2.below hb2 r2.lt; have r3 := r3.below hb2 r3.lt; have hB2 := hB1.trans (hb2.mono hB1.size)))
  have hH2 := hH.below hB2
  have hl1 := r1.lt
  have hl2 := r2.lt
  have hl3 := r3.lt
  go_upto_region 4 with (first | ((with_reducible refine wp_load_g ?_ r1.range Try.underlying69 rfl (lev_info _ _ _ _ _) ?_ ?_); rfl; rfl) | (go_at_call 47; (with_reducible refine (copyL e A B c d _ ht hH2).mono ?_); rintro en w4 ⟨A4, c4x, B4, d4x, rfl, ho, hb4⟩) | ((with_reducible refine wp_row_store (L := LEV e A4 c4x B4 d4x) (Row.bornAt (g := w4.heap.size) rfl 69 _) ?_ (lev_info _ _ _ _ _) (lev_one _ _ _ _ _) ?_ ?_ ?_); rfl; rfl; rfl; intro w5 v5 r5))
  have hal := Upd.below ((Below.refl w4.heap.size w4).alloc (Nat.le_refl _) (.cells ZE 69)) v5 (Nat.le_refl _)
  have hbl := hb4.trans (hal.mono hb4.size)
  have r1 := r1.below hbl hl1
  have r2 := r2.below hbl hl2
  have r3 := r3.below hbl hl3
  have hB5 := hB2.trans (hbl.mono hB2.size)
  have ho := (ho.below hal).lower hB2.size
  have hg : W.heap.size + 2 < w4.heap.size := Nat.lt_of_lt_of_le hl3 hb4.size
  clear hal hbl hb4 v5 hl1 hl2 hl3 hH2 hH1 hB2 hb2 hB1
  generalize w4.heap.size = g at *
  obtain ⟨⟨c0, c1, c2, c3, c4⟩, ⟨c5, c6, c7, c8, c9⟩, fz⟩ := end_cells r1
  have hl1 := r1.lt
  have hl2 := r2.lt
  have hl3 := r3.lt
  have hl5 := r5.lt
  go_upto_region 5 with (go_at_call 39; (with_reducible refine (ack_ref _ _ _).mono ?_); rintro en w6 ⟨rfl, hb6⟩)
  have r1 := r1.below hb6 hl1
  have r2 := r2.below hb6 hl2
  have r3 := r3.below hb6 hl3
  have r5 := r5.below hb6 hl5
  have hB6 := hB5.trans (hb6.mono hB5.size)
  have ho := ho.below hb6
  clear hb6 hB5 c0 c1 c2 c3 c4 c5 c6 c7 c8 c9 fz hl1 hl2 hl3 hl5
  obtain ⟨⟨c0, c1, c2, c3, c4⟩, ⟨c5, c6, c7, c8, c9⟩, fz⟩ := end_cells r1
  have hl1 := r1.lt
  have hl2 := r2.lt
  have hl3 := r3.lt
  have hl5 := r5.lt
  go_upto_region 24 with (first | (go_at_call 37; (with_reducible refine (free_isR HX.out ht.s0 ht.s1 ht.a0 _).mono ?_); rintro en w7 ⟨rfl, hb7⟩; have r1 := r1.below hb7 hl1; have r2 := r2.below hb7 hl2; have r3 := r3.below hb7 hl3; have r5 := r5.below hb7 hl5; have hB6 := hB6.trans (hb7.mono hB6.size); have ho := ho.below hb7; have hl1 := r1.lt; have hl2 := r2.lt; have hl3 := r3.lt; have hl5 := r5.lt; obtain ⟨⟨c0, c1, c2, c3, c4⟩, ⟨c5, c6, c7, c8, c9⟩, fz⟩ := end_cells r1) | (fail))
  have k9 : w7.cell? ⟨g, 9, none⟩ = some (.int .u64 e.told) := r5.cell 9
  have f9 := r5.frozen 9
  go_upto_region 25 with (fail)
  have u9 := Upd.setCell w7 g 9 (.int .u64 e.rc)
  have r9 : Row (w7.setCell ⟨g, 9, none⟩ (.int .u64 e.rc)) g 69 (LEV (nxA e) A4 c4x B4 d4x) := r5.set 9 (.int .u64 e.rc)
  have ho := ho.keeps (Keeps.upd (ts := [69]) u9 r5 (by simp)) (by decide) (by decide)
  have r2 := r2.upd u9 (by omega)
  have r3 := r3.upd u9 (by omega)
  have hB9 := Upd.below hB6 u9 (by omega)
  clear c0 c1 c2 c3 c4 c5 c6 c7 c8 c9 fz k9 f9 r1 r5 hB6 u9
  generalize w7.setCell ⟨g, 9, none⟩ (.int .u64 e.rc) = w9 at *
  have hLi : (Try.prog.info? 40).map (·.size) = some (nxK e).size := line_info _ _ _ _ _ z56_len
  go_wp2_with (first | ((with_reducible refine wp_load_g ?_ r9.range Try.underlying69 rfl (lev_info _ _ _ _ _) ?_ ?_); rfl; rfl) | ((with_reducible refine wp_row_store (L := LEV (nxA e) A4 c4x B4 d4x) r2 rfl (lev_info _ _ _ _ _) (lev_one _ _ _ _ _) ?_ ?_ ?_); rfl; rfl; intro wa va ra) | ((refine wp_row_store (L := nxK e) (r3.upd va (by omega)) rfl hLi (LV_one _ _ _ _ _ _) ?_ ?_ ?_); rfl; rfl; intro wb vb rb))
  refine bodyPost_ret (results_cct rfl rfl rfl (ra.upd vb (by omega)) rb Try.underlying69 Try.underlying40 rfl rfl (lev_info _ _ _ _ _) hLi) rfl ?_
  have ho : HeldO w9 W.heap.size (nxA e) A4 c4x B4 d4x := ⟨ho.ex, ho.p⟩
  exact nx_ack HE.out HG.out (((ho.keeps (Keeps.upd (ts := [69]) va r2 (by simp)) (by decide) (by decide)).keeps (Keeps.upd (ts := [40]) vb (r3.upd va (by omega)) (by simp)) (by decide) (by decide)).heldI ht.qm) (Upd.below (Upd.below hB9 va (by omega)) vb (by omega))
end
section
open Go.RowKit
set_option linter.unusedVariables false
/-- A slice of bytes in new memory. -/
def GivesO (W : World) (bs : List UInt8) (e : Ending) (w' : World) : Prop := ∃ A n c, e = .returned (.slice A n c) ∧ OwnB w' W.heap.size 5 A n c bs ∧ Below W.heap.size W w'
set_option maxRecDepth 100000 in
set_option maxHeartbeats 8000000 in
theorem append_refO (A : Option Addr) (n c : Nat) (bs : List UInt8) (v s : Nat) (w : World) (hA : IsB w A n bs) (hn : n ≤ 1000000) (hv : v < 18446744073709551616) (s8 : s ≤ 8) :
    Calls Try.prog 107 #[.slice A n c, .int .u64 v, .int .i64 s] w (GivesO w (bs ++ fixB v s)) := by
  have hl := Lib.hid hA.1
  have hl1 : 0 + n ≤ 140737488355328 := by omega
  go_enter Try.func107, Try.ntmps107
  go_upto_region 2 with ((at_builtin; (refine wp_append_b (P := Try.prog) rfl _ _ 44 rfl Try.underlying44 info_b (OwnB.nil w w.heap.size 5) hA hl1 (Nat.le_refl _) rfl rfl ?_); intro A1 n1 c1 w1 hn1 ho1 hb1 hg1 hat1))
  have ho2 : OwnB w1 w.heap.size 5 A1 n1 c1 (bs ++ (fixB v s).take 0) := by simpa using ho1
  clear hg1 hat1 ho1
  go_wp2
  go_loopw [7, 8] (fun o i wr => ∃ (k : Nat) (A8 : Option Addr) (n8 c8 : Nat), k ≤ s ∧ i = .int .i64 k ∧ o = .slice A8 n8 c8 ∧ OwnB wr w.heap.size 5 A8 n8 c8 (bs ++ (fixB v s).take k) ∧ Below w.heap.size w wr) (fun _ i _ => s - (intOf i).toNat)
  case atStart => exact ⟨0, A1, n1, c1, by omega, rfl, rfl, ho2, hb1⟩
  case round =>
    obtain ⟨k, A8, n8, c8, hk, rfl, rfl, ho8, hb8⟩ := hrel
    clear ho2 hb1
    by_cases hks : k < s
    · have HW : Value.int .u8 ((v : Int) / 2 ^ (8 * k) % 256) = bv (UInt8.ofNat (v / 256 ^ k % 256)) := by
        rw [show ((2 : Int) ^ (8 * k)) = ((256 ^ k : Nat) : Int) by rw [pow_256r]; simp, ← bv_nat _ (Nat.mod_lt _ (by omega))]
        simp
      have i1 : ∀ w : World, IsB (w.alloc (.cells #[.int .u8 ((v : Int) / 2 ^ (8 * k) % 256)] 5)) (some ⟨w.heap.size, 0, none⟩) 1 [UInt8.ofNat (v / 256 ^ k % 256)] := fun w => by
        rw [HW]
        exact IsB.lit w 5 (0, 0) [UInt8.ofNat (v / 256 ^ k % 256)]
      have HT := Lib.hid (fixB_take v s k hks)
      have l8 : n8 + 1 ≤ 140737488355328 := by have h1 := ho8.len; have h2 := hl.out; simp [fixB_len] at h1; omega
      have HWh := Lib.hid HW
      clear HW
      go_wp2_with ((at_builtin; (refine wp_append_b (P := Try.prog) rfl _ _ 44 rfl Try.underlying44 info_b (OwnB.alloc ho8 _) (i1 _) l8 (by have := hb8.size; simp; omega) rfl rfl ?_); intro A2 n2 c2 w2 hn2 ho2 hb2 hg2 hat2))
      exact ⟨⟨k + 1, A2, n2, c2, by omega, by go_num, rfl, by rw [HT.out, ← List.append_assoc]; exact ho2, (hb8.alloc hb8.size _).trans hb2⟩, by simp [intOf]; omega⟩
    · obtain rfl : k = s := by omega
      rw [List.take_of_length_le (by rw [fixB_len]; omega)] at ho8
      go_wp2
      go_ret
      exact ⟨A8, n8, c8, rfl, ho8, hb8⟩
end
section
open Go.RowKit
set_option linter.unusedVariables false
set_option maxRecDepth 100000 in
set_option maxHeartbeats 4000000 in
theorem rsend_state (n s a k : Int) (A : Option Addr) (m c : Nat) (f : Bool) (hs : 0 ≤ s) (hs1 : s < 18446744073709551616) (ha : 0 ≤ a) (hv : vs n s a = false) (W : World) :
    Calls Try.prog 34 #[.agg #[.int .i64 n, .int .u64 s, .int .u64 a], .slice A m c, .bool f, .int .u16 k] W (SendErr 74 W) := by
  go_enter Try.func34, Try.ntmps34
  go_wp2_with fail
  refine (sender_ref _ _ _ hs hs1 ha _).mono ?_
  rintro e w1 ⟨rfl, hb⟩
  obtain ⟨r1, r2, r3, hz, hB⟩ := three_new hb
  have r3 : Row w1 (W.heap.size + 2) 40 ZL := r3
  have r2 : Row w1 (W.heap.size + 1) 27 ZS := r2
  clear hb
  go_wp2_with (first
    | ((with_reducible refine wp_row_store (L := ZS) r2 rfl zs_info zs_one ?_ ?_ ?_); rfl; rfl; intro w2 u2 r2')
    | ((with_reducible refine wp_row_store (L := ZL) (r3.upd u2 (by omega)) rfl zl_info zl_one ?_ ?_ ?_); rfl; rfl; intro w3 u3 r3'))
  refine bodyPost_ret (results_ctct rfl rfl rfl (r2'.upd u3 (by omega)) r3' Try.underlying27 Try.underlying40 rfl rfl zs_info zl_info) rfl ?_
  exact ⟨rfl, Upd.below (Upd.below hB u2 (by omega)) u3 (by omega)⟩
set_option maxRecDepth 100000 in
set_option maxHeartbeats 4000000 in
theorem rsend_long (n s a k : Int) (A : Option Addr) (m c : Nat) (f : Bool) (hs : 0 ≤ s) (hs1 : s < 18446744073709551616) (ha : 0 ≤ a) (hv : vs n s a = true) (hm : 56 < m) (W : World) :
    Calls Try.prog 34 #[.agg #[.int .i64 n, .int .u64 s, .int .u64 a], .slice A m c, .bool f, .int .u16 k] W (SendErr 67 W) := by
  go_enter Try.func34, Try.ntmps34
  go_wp2_with fail
  refine (sender_ref _ _ _ hs hs1 ha _).mono ?_
  rintro e w1 ⟨rfl, hb⟩
  obtain ⟨r1, r2, r3, hz, hB⟩ := three_new hb
  have r3 : Row w1 (W.heap.size + 2) 40 ZL := r3
  have r2 : Row w1 (W.heap.size + 1) 27 ZS := r2
  clear hb
  go_wp2_with (first
    | ((with_reducible refine wp_row_store (L := ZS) r2 rfl zs_info zs_one ?_ ?_ ?_); rfl; rfl; intro w2 u2 r2')
    | ((with_reducible refine wp_row_store (L := ZL) (r3.upd u2 (by omega)) rfl zl_info zl_one ?_ ?_ ?_); rfl; rfl; intro w3 u3 r3'))
  refine bodyPost_ret (results_ctct rfl rfl rfl (r2'.upd u3 (by omega)) r3' Try.underlying27 Try.underlying40 rfl rfl zs_info zl_info) rfl ?_
  exact ⟨rfl, Upd.below (Upd.below hB u2 (by omega)) u3 (by omega)⟩
set_option maxRecDepth 100000 in
set_option maxHeartbeats 4000000 in
theorem rsend_full (n s a k : Int) (A : Option Addr) (m c : Nat) (f : Bool) (hs : 0 ≤ s) (hs1 : s < 18446744073709551616) (ha : 0 ≤ a) (hv : vs n s a = true) (hm : m ≤ 56) (hf : fr n s a = 0) (W : World) :
    Calls Try.prog 34 #[.agg #[.int .i64 n, .int .u64 s, .int .u64 a], .slice A m c, .bool f, .int .u16 k] W (SendErr 65 W) := by
  go_enter Try.func34, Try.ntmps34
  go_wp2_with fail
  refine (sender_ref _ _ _ hs hs1 ha _).mono ?_
  rintro e w1 ⟨rfl, hb⟩
  obtain ⟨r1, r2, r3, hz, hB⟩ := three_new hb
  have r3 : Row w1 (W.heap.size + 2) 40 ZL := r3
  have r2 : Row w1 (W.heap.size + 1) 27 ZS := r2
  clear hb
  obtain ⟨⟨c0, c1, c2⟩, f1⟩ := three_cells r1
  go_wp2_with fail
  refine (free_ref _ _ _ hs hs1 ha _).mono ?_
  rintro e w1' ⟨rfl, hb⟩
  have r1 := r1.below hb r1.lt
  have r2 := r2.below hb r2.lt
  have r3 := r3.below hb r3.lt
  have hB := hB.trans (hb.mono hB.size)
  clear hb c0 c1 c2 f1 hz
  obtain ⟨⟨c0, c1, c2⟩, f1⟩ := three_cells r1
  go_wp2_with (first
    | ((with_reducible refine wp_row_store (L := ZS) r2 rfl zs_info zs_one ?_ ?_ ?_); rfl; rfl; intro w2 u2 r2')
    | ((with_reducible refine wp_row_store (L := ZL) (r3.upd u2 (by omega)) rfl zl_info zl_one ?_ ?_ ?_); rfl; rfl; intro w3 u3 r3'))
  refine bodyPost_ret (results_ctct rfl rfl rfl (r2'.upd u3 (by omega)) r3' Try.underlying27 Try.underlying40 rfl rfl zs_info zl_info) rfl ?_
  exact ⟨rfl, Upd.below (Upd.below hB u2 (by omega)) u3 (by omega)⟩
set_option maxRecDepth 100000 in
set_option maxHeartbeats 4000000 in
theorem rsend_limit (n a k : Int) (A : Option Addr) (m c : Nat) (f : Bool) (ha : 0 ≤ a) (hv : vs n 4611686018427387904 a = true) (hm : m ≤ 56) (hf : (fr n 4611686018427387904 a == 0) = false) (W : World) :
    Calls Try.prog 34 #[.agg #[.int .i64 n, .int .u64 4611686018427387904, .int .u64 a], .slice A m c, .bool f, .int .u16 k] W (SendErr 15 W) := by
  have hs : (0 : Int) ≤ 4611686018427387904 := by omega
  have hs1 : (4611686018427387904 : Int) < 18446744073709551616 := by omega
  go_enter Try.func34, Try.ntmps34
  go_wp2_with fail
  refine (sender_ref _ _ _ hs hs1 ha _).mono ?_
  rintro e w1 ⟨rfl, hb⟩
  obtain ⟨r1, r2, r3, hz, hB⟩ := three_new hb
  have r3 : Row w1 (W.heap.size + 2) 40 ZL := r3
  have r2 : Row w1 (W.heap.size + 1) 27 ZS := r2
  clear hb
  obtain ⟨⟨c0, c1, c2⟩, f1⟩ := three_cells r1
  go_wp2_with fail
  refine (free_ref _ _ _ hs hs1 ha _).mono ?_
  rintro e w1' ⟨rfl, hb⟩
  have r1 := r1.below hb r1.lt
  have r2 := r2.below hb r2.lt
  have r3 := r3.below hb r3.lt
  have hB := hB.trans (hb.mono hB.size)
  clear hb c0 c1 c2 f1 hz
  obtain ⟨⟨c0, c1, c2⟩, f1⟩ := three_cells r1
  go_wp2_with (first
    | ((with_reducible refine wp_row_store (L := ZS) r2 rfl zs_info zs_one ?_ ?_ ?_); rfl; rfl; intro w2 u2 r2')
    | ((with_reducible refine wp_row_store (L := ZL) (r3.upd u2 (by omega)) rfl zl_info zl_one ?_ ?_ ?_); rfl; rfl; intro w3 u3 r3'))
  refine bodyPost_ret (results_ctct rfl rfl rfl (r2'.upd u3 (by omega)) r3' Try.underlying27 Try.underlying40 rfl rfl zs_info zl_info) rfl ?_
  exact ⟨rfl, Upd.below (Upd.below hB u2 (by omega)) u3 (by omega)⟩
end
section
open Go.RowKit
set_option linter.unusedVariables false
def SendT (B g : Nat) (cs L : Array Value) (w : World) : Prop := Row w B 27 cs ∧ Row w g 40 L
theorem SendT.upd {B g x : Nat} {cs L : Array Value} {w w' : World} (h : SendT B g cs L w) (u : Upd w w' x) (h1 : B ≠ x) (h2 : g ≠ x) : SendT B g cs L w' := ⟨h.1.upd u h1, h.2.upd u h2⟩
def pj (j : Nat) (bs : List UInt8) : List UInt8 := bs.take j ++ z56.drop j
theorem pj_len {j : Nat} {bs : List UInt8} (hj : j ≤ bs.length) (hb : bs.length ≤ 56) : (pj j bs).length = 56 := by simp [pj, z56]; omega
theorem pj_set {j : Nat} {bs : List UInt8} (hj : j < bs.length) (hb : bs.length ≤ 56) (K : Int) (E F : Bool) (n a : Int) : (LV K E F n a (pj j bs)).setIfInBounds (5 + j) (bv bs[j]) = LV K E F n a (pj (j + 1) bs) := by
  have h1 : (pj j bs).set j bs[j] = pj (j + 1) bs := by
    apply List.ext_getElem?
    intro i
    unfold pj
    rw [List.getElem?_set]
    have hl : (bs.take j).length = j := by simp; omega
    have hl1 : (bs.take (j + 1)).length = j + 1 := by simp; omega
    rcases Nat.lt_trichotomy i j with h | h | h
    · rw [if_neg (by omega), List.getElem?_append_left (by omega), List.getElem?_append_left (by omega), List.getElem?_take, List.getElem?_take, if_pos h, if_pos (by omega)]
    · subst h
      rw [if_pos rfl, if_pos (by simp [z56]; omega), List.getElem?_append_left (by omega), List.getElem?_take, if_pos (by omega), List.getElem?_eq_getElem hj]
    · rw [if_neg (by omega), List.getElem?_append_right (by omega), List.getElem?_append_right (by omega), hl, hl1, List.getElem?_drop, List.getElem?_drop]
      congr 1
      omega
  unfold LV
  rw [List.setIfInBounds_toArray, Nat.add_comm 5 j]
  simp only [List.set_cons_succ, ← List.map_set, h1]
set_option maxRecDepth 100000 in
set_option maxHeartbeats 4000000 in
theorem rsend_ok (n s a k : Int) (A : Option Addr) (m c : Nat) (f : Bool) (bs : List UInt8) (hs : 0 ≤ s) (ha : 0 ≤ a) (hv : vs n s a = true) (hm : m ≤ 56) (hf : (fr n s a == 0) = false) (hlim : s < 4611686018427387904) (W : World) (hb0 : IsB W A m bs) :
    Calls Try.prog 34 #[.agg #[.int .i64 n, .int .u64 s, .int .u64 a], .slice A m c, .bool f, .int .u16 k] W (SendOk n s a k f m bs W) := by
  have hs1 : s < 18446744073709551616 := by omega
  have hl : (s == 4611686018427387904) = false := by simp; omega
  obtain ⟨hvl, n0, n1, h1, h2, h3⟩ := vs_yes hv
  have q0 : 0 ≤ s % n := Int.emod_nonneg _ (by omega)
  have q1 : s % n < n := Int.emod_lt_of_pos _ (by omega)
  go_enter Try.func34, Try.ntmps34
  go_wp2_with fail
  refine (sender_ref _ _ _ hs hs1 ha _).mono ?_
  rintro e w1 ⟨rfl, hb⟩
  obtain ⟨r1, r2, r3, hz, hB⟩ := three_new hb
  have r3 : Row w1 (W.heap.size + 2) 40 ZL := r3
  have r2 : Row w1 (W.heap.size + 1) 27 ZS := r2
  clear hb
  obtain ⟨⟨c0, c1, c2⟩, f1⟩ := three_cells r1
  go_wp2_with fail
  refine (free_ref _ _ _ hs hs1 ha _).mono ?_
  rintro e w1' ⟨rfl, hb⟩
  have r1 := r1.below hb r1.lt
  have r2 := r2.below hb r2.lt
  have r3 := r3.below hb r3.lt
  have hB := hB.trans (hb.mono hB.size)
  clear hb c0 c1 c2 f1 hz
  obtain ⟨⟨c0, c1, c2⟩, f1⟩ := three_cells r1
  go_wp2_with fail
  refine (epoch_ref _ _ hs hs1 n0 n1 _).mono ?_
  rintro e w2 ⟨rfl, h9⟩
  rw [← h9]
  clear h9
  have hsz : W.heap.size + 2 < w1'.heap.size := r3.lt
  go_upto_region 13 with ((with_reducible refine wp_row_store (L := LV 1 (ep n s) f m k z56) (Row.bornAt (g := w1'.heap.size) rfl 40 _) ?_ (line_info _ _ _ _ _ z56_len) (LV_one _ _ _ _ _ _) ?_ ?_ ?_); exact (LV_size _ _ _ _ _ z56_len).symm; rfl; rfl; intro w3 u3 r13)
  have hbz := Upd.below ((Below.refl w1'.heap.size w1').alloc (Nat.le_refl _) _) u3 (Nat.le_refl _)
  have r1 := r1.below hbz r1.lt
  have r2 := r2.below hbz r2.lt
  have r3 := r3.below hbz r3.lt
  have hB3 := hB.trans (hbz.mono hB.size)
  generalize w1'.heap.size = g13 at *
  clear hbz u3 hB c0 c1 c2 f1
  have hml := hb0.1
  have HML := Lib.hid hml
  clear hml
  have r13 : Row w3 g13 40 (LV 1 (ep n s) f m k (pj 0 bs)) := r13
  go_upto_region 14 with (fail)
  go_loopw [14] (fun i wr => ∃ j : Nat, j ≤ m ∧ i = .int .i64 j ∧ Row wr g13 40 (LV 1 (ep n s) f m k (pj j bs)) ∧ Row wr W.heap.size 27 #[.int .i64 n, .int .u64 s, .int .u64 a] ∧ Row wr (W.heap.size + 1) 27 ZS ∧ Row wr (W.heap.size + 2) 40 ZL ∧ Below W.heap.size W wr) (fun i _ => m - (intOf i).toNat)
  case atStart => exact ⟨0, by omega, rfl, r13, r1, r2, r3, hB3⟩
  case round =>
    clear r13 r1 r2 r3 hB3
    obtain ⟨j, hj, rfl, r13, r1, r2, r3, hB⟩ := hrel
    rcases Nat.lt_or_ge j m with hjm | hjm
    · have hd : decide (j < m) = true := by simpa using hjm
      have hj56 : decide (j < 56) = true := by simp; omega
      have hji : (j : Int) < 56 := by omega
      have hjm' : (j : Int) < m := by omega
      have hjl : j < bs.length := by have := HML.out; omega
      obtain ⟨b, o, hA, _, hc⟩ := (hb0.below hB).at_ (by omega)
      subst hA
      have x := hc j hjl
      obtain ⟨y, hy⟩ : ∃ y, wr.cell? ⟨g13, 5 + j, none⟩ = some y := by
        rw [r13.cell (5 + j)]
        have : 5 + j < (LV 1 (ep n s) f m k (pj j bs)).size := by rw [LV_size _ _ _ _ _ (pj_len (by omega) (by have := HML.out; omega))]; omega
        exact ⟨_, Array.getElem?_eq_getElem this⟩
      have ff := r13.frozen
      clear hc
      go_wp2
      have q := r13.set (5 + j) (bv bs[j])
      rw [pj_set hjl (by have := HML.out; omega)] at q
      exact ⟨⟨j + 1, by omega, by go_num, q, r1.other (by simp; omega) _, r2.other (by simp; omega) _, r3.other (by simp; omega) _, hB.setCell (by simp; omega) _⟩, by simp [intOf]; omega⟩
    · obtain rfl : j = m := by omega
      have hd : decide (j < j) = false := by simp
      have hPe : pj j bs = bs ++ z56.drop j := by unfold pj; rw [List.take_of_length_le (by have := HML.out; omega)]
      have hpl : (pj j bs).length = 56 := pj_len (by have := HML.out; omega) (by have := HML.out; omega)
      have EP := Lib.hid hPe
      clear hPe
      generalize pj j bs = P at *
      obtain ⟨⟨c0, c1, c2⟩, f1⟩ := three_cells r1
      go_upto_region 19 with (fail)
      have p1 : Row (wr.setCell ⟨W.heap.size, 1, none⟩ (.int .u64 (s + 1))) W.heap.size 27 #[.int .i64 n, .int .u64 (s + 1), .int .u64 a] := r1.set 1 _
      have p2 := r2.other (p := ⟨W.heap.size, 1, none⟩) (by simp) (.int .u64 (s + 1))
      have p3 := r3.other (p := ⟨W.heap.size, 1, none⟩) (by simp) (.int .u64 (s + 1))
      have p13 := r13.other (p := ⟨W.heap.size, 1, none⟩) (by simp; omega) (.int .u64 (s + 1))
      have hB4 := hB.setCell (p := ⟨W.heap.size, 1, none⟩) (Nat.le_refl _) (.int .u64 (s + 1))
      generalize wr.setCell ⟨W.heap.size, 1, none⟩ (.int .u64 (s + 1)) = w4 at *
      clear c0 c1 c2 f1 r1 r2 r3 r13 hB
      have hS : SendT W.heap.size g13 #[.int .i64 n, .int .u64 (s + 1), .int .u64 a] (LV 1 (ep n s) f j k P) w4 := ⟨p1, p13⟩
      have hi4 := line_info 1 (ep n s) f j k hpl
      refine wp_region_held (S := SendT W.heap.size g13 #[.int .i64 n, .int .u64 (s + 1), .int .u64 a] (LV 1 (ep n s) f j k P)) (by kernel_rfl) ?_
      have e5 : ({ w4 with drawn := w4.drawn + 1 } : World) = w4.drew := rfl
      rw [e5]
      have hS : SendT W.heap.size g13 #[.int .i64 n, .int .u64 (s + 1), .int .u64 a] (LV 1 (ep n s) f j k P) w4.drew := hS
      have p2 : Row w4.drew (W.heap.size + 1) 27 ZS := p2
      have p3 : Row w4.drew (W.heap.size + 2) 40 ZL := p3
      have hB4 : Below W.heap.size W w4.drew := hB4.drew
      generalize w4.drew = w5 at *
      clear p1 p13 e5
      refine take_load 0 rfl (by kernel_rfl) (by kernel_rfl) (by kernel_rfl) (fun _ _ _ _ h => h) hS (fun _ h => h.1) Try.underlying27 rfl info27 rfl ?_
      refine take_move 1 rfl (by kernel_rfl) (by kernel_rfl) (by kernel_rfl) (fun _ _ _ _ h => h) hS ?_
      refine take_load 2 rfl (by kernel_rfl) (by kernel_rfl) (by kernel_rfl) (fun _ _ _ _ h => h) hS (fun _ h => h.2) Try.underlying40 rfl hi4 rfl ?_
      refine one_store 3 (L := #[.int .i64 n, .int .u64 (s + 1), .int .u64 a]) rfl (by kernel_rfl) p2 rfl info27 (sender_one _ _ _) rfl rfl (fun w6 u6 r6 => ?_)
      have hS6 := hS.upd u6 (by omega) (by omega)
      have p3 := p3.upd u6 (by omega)
      refine ⟨hS6, ?_⟩
      refine one_assign 4 rfl (by kernel_rfl) hS6 ?_
      refine one_store 5 rfl (by kernel_rfl) p3 (zl_size.trans (LV_size _ _ _ _ _ hpl).symm) hi4 (LV_one _ _ _ _ _ _) rfl rfl (fun w7 u7 r7 => ?_)
      have r6 := r6.upd u7 (by omega)
      have hS7 := hS6.upd u7 (by omega) (by omega)
      refine ⟨hS7, ?_⟩
      refine one_assign 6 rfl (by kernel_rfl) hS7 ?_
      refine wpAnyH_done (by kernel_rfl) ?_ _
      go_wp2
      refine bodyPost_ret (results_ctct rfl rfl rfl r6 r7 Try.underlying27 Try.underlying40 rfl rfl info27 hi4) rfl ?_
      refine ⟨?_, Upd.below (Upd.below hB4 u6 (by omega)) u7 (by omega)⟩
      rw [← EP.out]
      kernel_rfl
theorem rsend_any (n s a k : Int) (A : Option Addr) (m c : Nat) (f : Bool) (bs : List UInt8) (hs : 0 ≤ s) (hs1 : s < 18446744073709551616) (ha : 0 ≤ a) (W : World) (hb0 : IsB W A m bs) :
    Calls Try.prog 34 #[.agg #[.int .i64 n, .int .u64 s, .int .u64 a], .slice A m c, .bool f, .int .u16 k] W (SdPost n s a m f k bs W) := by
  cases hv : vs n s a
  · exact (rsend_state n s a k A m c f hs hs1 ha hv W).mono fun e W' ⟨h1, h2⟩ => by rw [h1]; exact sd_err (by simp [sdE, hv]) (by decide) h2
  · by_cases hm : 56 < m
    · exact (rsend_long n s a k A m c f hs hs1 ha hv hm W).mono fun e W' ⟨h1, h2⟩ => by rw [h1]; exact sd_err (by simp [sdE, hv, hm]) (by decide) h2
    · by_cases hf : fr n s a = 0
      · exact (rsend_full n s a k A m c f hs hs1 ha hv (by omega) hf W).mono fun e W' ⟨h1, h2⟩ => by rw [h1]; exact sd_err (by simp [sdE, hv, hm, hf]) (by decide) h2
      · have hf' : (fr n s a == 0) = false := by simpa using hf
        by_cases hl : s = 4611686018427387904
        · subst hl
          exact (rsend_limit n a k A m c f ha hv (by omega) hf' W).mono fun e W' ⟨h1, h2⟩ => by rw [h1]; exact sd_err (by simp [sdE, hv, hm, hf]) (by decide) h2
        · have h3 := (vs_yes hv).m
          exact (rsend_ok n s a k A m c f bs hs ha hv (by omega) hf' (by omega) W hb0).mono fun e W' ⟨h1, h2⟩ => by rw [h1]; exact sd_ok (by simp [sdE, hv, hm, hf, hl]) h2
end
section
open Go.RowKit
set_option linter.unusedVariables false
def SnR (e : LE) (x1 x2 x3 I : Int) (L : Array Value) (E : Int) : Prop := ∀ (w : World) (A : Option Addr) (c : Nat), IsB w A (frP e).length (frP e) → Calls Try.prog 34 #[.agg #[.int .i64 e.n, .int .u64 e.s, .int .u64 e.a], .slice A (frP e).length c, .bool (decide (e.off < 0)), .int .u16 (acN e.rn e.rc)] w
  (fun en w' => en = .returned (.tuple #[.agg #[.int .i64 x1, .int .u64 x2, .int .u64 x3], .int .i64 I, .agg L, .int .i64 E]) ∧ Below w.heap.size w w')
theorem send_goR {e : LE} (ht : e.ty) (hve : VE e) (h0 : 0 < e.q.length) (hf : 0 < fr e.n e.s e.a) (hs : e.s ≠ 4611686018427387904) : SnR e e.n (e.s + 1) e.a (e.s % e.n) (nxD e) 0 := by
  intro w A c hI
  have h := rsend_any e.n e.s e.a (acN e.rn e.rc) A (frP e).length c (decide (e.off < 0)) (frP e) ht.s0 ht.s1 ht.a0 w hI
  have hE : sdE e.n e.s e.a (frP e).length = 0 := by rw [sd_is hve h0 hf, if_neg hs]
  unfold SdPost sdS sdI sdL at h
  rw [hE] at h
  exact h
theorem send_limR {e : LE} (ht : e.ty) (hve : VE e) (h0 : 0 < e.q.length) (hf : 0 < fr e.n e.s e.a) (hs : e.s = 4611686018427387904) : SnR e 0 0 0 0 ZL 15 := by
  intro w A c hI
  have h := rsend_any e.n e.s e.a (acN e.rn e.rc) A (frP e).length c (decide (e.off < 0)) (frP e) ht.s0 ht.s1 ht.a0 w hI
  have hE : sdE e.n e.s e.a (frP e).length = 15 := by rw [sd_is hve h0 hf, if_pos hs]
  unfold SdPost sdS sdI sdL at h
  rw [hE] at h
  exact h
end
end Go.Proofs.Ythjkhambmgepdaa
