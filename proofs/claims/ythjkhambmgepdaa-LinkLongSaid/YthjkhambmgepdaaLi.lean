/- Links: Next. -/
import Derived.Test.YthjkhambmgepdaaLh
namespace Go.Proofs.Ythjkhambmgepdaa
open Go.RowKit
set_option linter.unusedVariables false
set_option maxRecDepth 100000 in
set_option maxHeartbeats 8000000 in
theorem next_v (e : LE) (A B : Option Addr) (c d : Nat) (W : World) (ht : e.ty) (hH : Held W e A c B d) (hv : vE e = false) : Calls Try.prog 45 #[.agg (LEV e A c B d)] W (NxP e W) := by
  have HE := Lib.hid (show nxE e = 74 by simp [nxE, hv])
  have HV := Lib.hid hv
  clear hv
  obtain ⟨r1, r2, r3, hB1⟩ := three_born W 69 69 40 (LEV e A c B d) ZE ZL
  go_enter Try.func45, Try.ntmps45
  go_upto_region 1 with (fail)
  change Code.wp _ _ _ _ (((W.alloc (.cells (LEV e A c B d) 69)).alloc (.cells ZE 69)).alloc (.cells ZL 40))
  generalize ((W.alloc (.cells (LEV e A c B d) 69)).alloc (.cells ZE 69)).alloc (.cells ZL 40) = w1 at *
  have hH1 := hH.below hB1
  go_upto_region 2 with (first | ((with_reducible refine wp_load_g ?_ r1.range Try.underlying69 rfl (lev_info _ _ _ _ _) ?_ ?_); rfl; rfl) | (go_at_call 101; (with_reducible refine (valid_is HV.out ht hH1).mono ?_); rintro en w2 ⟨rfl, hb⟩))
  have r1 := r1.below hb r1.lt
  have r2 := r2.below hb r2.lt
  have r3 := r3.below hb r3.lt
  have hB2 := hB1.trans (hb.mono hB1.size)
  clear hb hB1 hH1
  go_wp2_with (first | ((with_reducible refine wp_row_store (L := ZE) r2 rfl ze_info ze_one ?_ ?_ ?_); rfl; rfl; intro w4 u4 r4) | ((with_reducible refine wp_row_store (L := ZL) (r3.upd u4 (by omega)) rfl zl_info zl_one ?_ ?_ ?_); rfl; rfl; intro w5 u5 r5))
  refine bodyPost_ret (results_cct rfl rfl rfl (r4.upd u5 (by omega)) r5 Try.underlying69 Try.underlying40 rfl rfl ze_info zl_info) rfl ?_
  exact nx_no HE.out (by decide) (Upd.below (Upd.below hB2 u4 (by omega)) u5 (by omega))
theorem vr_vl {n x : Int} (h : vr n x = true) : vl n = true := by simp [vr] at h; exact h.1
theorem bv_cells {w : World} {g : Nat} {e : LE} {Q R : Value} (h : Row w g 155 (BV e Q R)) :
    (w.cell? ⟨g, 0, none⟩ = some (.int .i64 e.n) ∧ w.cell? ⟨g, 1, none⟩ = some (.int .u64 e.s) ∧ w.cell? ⟨g, 2, none⟩ = some (.int .u64 e.a) ∧ w.cell? ⟨g, 3, none⟩ = some Q ∧ w.cell? ⟨g, 4, none⟩ = some (.int .i64 e.off)) ∧
    (w.cell? ⟨g, 5, none⟩ = some (.int .i64 e.rn) ∧ w.cell? ⟨g, 6, none⟩ = some (.int .u64 e.rc) ∧ w.cell? ⟨g, 7, none⟩ = some (.int .i64 e.want) ∧ w.cell? ⟨g, 8, none⟩ = some R ∧ w.cell? ⟨g, 9, none⟩ = some (.int .u64 e.told)) ∧ ∀ i, w.frozen? ⟨g, i, none⟩ = false :=
  ⟨⟨h.cell 0, h.cell 1, h.cell 2, h.cell 3, h.cell 4⟩, ⟨h.cell 5, h.cell 6, h.cell 7, h.cell 8, h.cell 9⟩, h.frozen⟩
set_option maxRecDepth 100000 in
set_option maxHeartbeats 8000000 in
theorem next_q0n (e : LE) (A B : Option Addr) (c d : Nat) (W : World) (ht : e.ty) (hH : Held W e A c B d) (hv : vE e = true) (hq0 : e.q.length = 0) (hc : e.rc - e.told < e.rn / 2) : Calls Try.prog 45 #[.agg (LEV e A c B d)] W (NxP e W) := by
  have hg0 : nxGo e = false := by simp [nxGo, hq0]
  have d0 : decide (0 < e.q.length) = false := decide_eq_false (by omega)
  have HE := Lib.hid (show nxE e = 17 by unfold nxE; rw [hv, hg0]; simp; omega)
  have HG := Lib.hid hg0
  clear hg0
  have hve := vE_yes hv
  have HV := Lib.hid hv
  clear hv
  have hql := hve.ql
  obtain ⟨r1, r2, r3, hB1⟩ := three_born W 69 69 40 (LEV e A c B d) ZE ZL
  go_enter Try.func45, Try.ntmps45
  go_upto_region 1 with (fail)
  change Code.wp _ _ _ _ (((W.alloc (.cells (LEV e A c B d) 69)).alloc (.cells ZE 69)).alloc (.cells ZL 40))
  generalize ((W.alloc (.cells (LEV e A c B d) 69)).alloc (.cells ZE 69)).alloc (.cells ZL 40) = w1 at *
  have hH1 := hH.below hB1
  go_upto_region 3 with (first | ((with_reducible refine wp_load_g ?_ r1.range Try.underlying69 rfl (lev_info _ _ _ _ _) ?_ ?_); rfl; rfl) | (go_at_call 101; (with_reducible refine (valid_is HV.out ht hH1).mono ?_); rintro en w2 ⟨rfl, hb⟩))
  have r1 := r1.below hb r1.lt
  have r2 := r2.below hb r2.lt
  have r3 := r3.below hb r3.lt
  have hB2 := hB1.trans (hb.mono hB1.size)
  clear hb hB1 hH1
  have r3lt := r3.lt
  have hH2 := hH.below hB2
  go_upto_region 4 with (first | ((with_reducible refine wp_load_g ?_ r1.range Try.underlying69 rfl (lev_info _ _ _ _ _) ?_ ?_); rfl; rfl) | (go_at_call 102; (with_reducible refine (open_any e _ _ _ _ _ ht hH2).mono ?_); rintro en w3 ⟨g, A1, c1, B1, dd1, vs, rfl, hWg, hr, hown, hq, hoB, hb⟩))
  have r2 := r2.below hb r2.lt
  have r3 := r3.below hb r3.lt
  have hB3 := hB2.trans (hb.mono hB2.size)
  have hWg' : W.heap.size + 2 < g := by have := r1.lt; have := hB2.size; have h3 : W.heap.size + 2 < w2.heap.size := r3lt; omega
  clear hb hH2 hB2 r1
  generalize w2.heap.size = base at *
  obtain ⟨-, ⟨c5, c6, -, -, -⟩, fz⟩ := bv_cells hr
  go_upto_region 6 with (go_at_call 38; refine (ack_any _ _ _).mono ?_; rintro en w6 ⟨rfl, hb⟩)
  have r2 := r2.below hb r2.lt
  have r3 := r3.below hb r3.lt
  have hr := hr.below hb hr.lt
  have hB6 := hB3.trans (hb.mono hB3.size)
  have hown := hown.below hb
  have hq := hq.keeps (ts := []) (Keeps.below hb) (by simp)
  have hoB := hoB.below hb
  clear hb hB3 c5 c6 fz
  have hlg := hr.lt
  obtain ⟨⟨c0, c1', c2, c3, c4⟩, ⟨c5, c6, c7, c8, c9⟩, fz⟩ := bv_cells hr
  go_upto_region 14 with (fail)
  clear c0 c1' c2 c3 c4 c5 c6 c7 c8 c9 fz
  have t0 := ht.t0
  have t1 := ht.t1
  have rc0 := ht.r0
  have rc1 := ht.r1
  have htold := hve.told
  have hrn := vl_range (vr_vl hve.vr)
  have hsub : IntKind.u64.wrap (e.rc - e.told) = e.rc - e.told := by rw [IntKind.wrap_u64]; omega
  have hquo : e.rn.tdiv 2 = e.rn / 2 := Int.tdiv_eq_ediv_of_nonneg (by omega)
  have hw2 : IntKind.u64.wrap (e.rn / 2) = e.rn / 2 := by rw [IntKind.wrap_u64]; omega
  have hw3 : IntKind.i64.wrap (e.rn / 2) = e.rn / 2 := by rw [IntKind.wrap_i64]; omega
  have dc : decide (e.rn / 2 ≤ e.rc - e.told) = false := by simp; omega
  have hr : Row w6.drew g 155 (BV e (.slice A1 e.q.length c1) (.slice B1 e.pt.length dd1)) := hr
  have r2 : Row w6.drew (W.heap.size + 1) 69 ZE := r2
  have r3 : Row w6.drew (W.heap.size + 2) 40 ZL := r3
  have hB6 : Below W.heap.size W w6.drew := hB6.drew
  have hown : OwnV w6.drew base 44 1 A1 e.q.length c1 vs := hown
  have hq : QV w6.drew base vs e.q := hq
  have hoB : OwnB w6.drew base 5 B1 e.pt.length dd1 e.pt := hoB
  obtain ⟨⟨c0, c1', c2, c3, c4⟩, ⟨c5, c6, c7, c8, c9⟩, fz⟩ := bv_cells hr
  refine wp_region_told (n := 148) (fun w' => w' = w6.drew) (fun _ _ => True) (by kernel_rfl) (by kernel_rfl) (by rfl) rfl ?_
  repeat (refine walk_pure (v := ?_) (fun _ => trivial) (fun _ => rfl) ?_ ?_; rotate_left; (focus (intro us w9 hS9 hF; subst hS9; clear hF; go_simp; (try with_reducible rfl); done)); simp only [Act.put, List.setIfInBounds_toArray, List.set_cons_zero, List.set_cons_succ, Nat.reduceAdd])
  refine walk_done fun us w9 hS9 hF => ?_
  subst hS9
  clear hF
  go_wp2_with (first | ((with_reducible refine wp_row_store (L := ZE) r2 rfl ze_info ze_one ?_ ?_ ?_); rfl; rfl; intro w4 u4 r4) | ((with_reducible refine wp_row_store (L := ZL) (r3.upd u4 (by omega)) rfl zl_info zl_one ?_ ?_ ?_); rfl; rfl; intro w5 u5 r5))
  refine bodyPost_ret (results_cct rfl rfl rfl (r4.upd u5 (by omega)) r5 Try.underlying69 Try.underlying40 rfl rfl ze_info zl_info) rfl ?_
  exact nx_no HE.out (by decide) (Upd.below (Upd.below hB6 u4 (by omega)) u5 (by omega))
set_option maxRecDepth 100000 in
set_option maxHeartbeats 8000000 in
theorem next_q0y (e : LE) (A B : Option Addr) (c d : Nat) (W : World) (ht : e.ty) (hH : Held W e A c B d) (hv : vE e = true) (hq0 : e.q.length = 0) (hc : e.rn / 2 ≤ e.rc - e.told) : Calls Try.prog 45 #[.agg (LEV e A c B d)] W (NxP e W) := by
  have hg0 : nxGo e = false := by simp [nxGo, hq0]
  have d0 : decide (0 < e.q.length) = false := decide_eq_false (by omega)
  have HE := Lib.hid (show nxE e = 0 by unfold nxE; rw [hv, hg0]; simp; omega)
  have HG := Lib.hid hg0
  clear hg0
  have hve := vE_yes hv
  have HV := Lib.hid hv
  clear hv
  have hql := hve.ql
  obtain ⟨r1, r2, r3, hB1⟩ := three_born W 69 69 40 (LEV e A c B d) ZE ZL
  go_enter Try.func45, Try.ntmps45
  go_upto_region 1 with (fail)
  change Code.wp _ _ _ _ (((W.alloc (.cells (LEV e A c B d) 69)).alloc (.cells ZE 69)).alloc (.cells ZL 40))
  generalize ((W.alloc (.cells (LEV e A c B d) 69)).alloc (.cells ZE 69)).alloc (.cells ZL 40) = w1 at *
  have hH1 := hH.below hB1
  go_upto_region 3 with (first | ((with_reducible refine wp_load_g ?_ r1.range Try.underlying69 rfl (lev_info _ _ _ _ _) ?_ ?_); rfl; rfl) | (go_at_call 101; (with_reducible refine (valid_is HV.out ht hH1).mono ?_); rintro en w2 ⟨rfl, hb⟩))
  have r1 := r1.below hb r1.lt
  have r2 := r2.below hb r2.lt
  have r3 := r3.below hb r3.lt
  have hB2 := hB1.trans (hb.mono hB1.size)
  clear hb hB1 hH1
  have r3lt := r3.lt
  have hH2 := hH.below hB2
  go_upto_region 4 with (first | ((with_reducible refine wp_load_g ?_ r1.range Try.underlying69 rfl (lev_info _ _ _ _ _) ?_ ?_); rfl; rfl) | (go_at_call 102; (with_reducible refine (open_any e _ _ _ _ _ ht hH2).mono ?_); rintro en w3 ⟨g, A1, c1, B1, dd1, vs, rfl, hWg, hr, hown, hq, hoB, hb⟩))
  have r2 := r2.below hb r2.lt
  have r3 := r3.below hb r3.lt
  have hB3 := hB2.trans (hb.mono hB2.size)
  have hWg' : W.heap.size + 2 < g := by have := r1.lt; have := hB2.size; have h3 : W.heap.size + 2 < w2.heap.size := r3lt; omega
  clear hb hH2 hB2 r1
  generalize w2.heap.size = base at *
  obtain ⟨-, ⟨c5, c6, -, -, -⟩, fz⟩ := bv_cells hr
  go_upto_region 6 with (go_at_call 38; refine (ack_any _ _ _).mono ?_; rintro en w6 ⟨rfl, hb⟩)
  have r2 := r2.below hb r2.lt
  have r3 := r3.below hb r3.lt
  have hr := hr.below hb hr.lt
  have hB6 := hB3.trans (hb.mono hB3.size)
  have hown := hown.below hb
  have hq := hq.keeps (ts := []) (Keeps.below hb) (by simp)
  have hoB := hoB.below hb
  clear hb hB3 c5 c6 fz
  have hlg := hr.lt
  obtain ⟨⟨c0, c1', c2, c3, c4⟩, ⟨c5, c6, c7, c8, c9⟩, fz⟩ := bv_cells hr
  go_upto_region 14 with (fail)
  clear c0 c1' c2 c3 c4 c5 c6 c7 c8 c9 fz
  have t0 := ht.t0
  have t1 := ht.t1
  have rc0 := ht.r0
  have rc1 := ht.r1
  have htold := hve.told
  have hrn := vl_range (vr_vl hve.vr)
  have hsub : IntKind.u64.wrap (e.rc - e.told) = e.rc - e.told := by rw [IntKind.wrap_u64]; omega
  have hquo : e.rn.tdiv 2 = e.rn / 2 := Int.tdiv_eq_ediv_of_nonneg (by omega)
  have hw2 : IntKind.u64.wrap (e.rn / 2) = e.rn / 2 := by rw [IntKind.wrap_u64]; omega
  have hw3 : IntKind.i64.wrap (e.rn / 2) = e.rn / 2 := by rw [IntKind.wrap_i64]; omega
  have dc : decide (e.rn / 2 ≤ e.rc - e.told) = true := by simp; omega
  have hr : Row w6.drew g 155 (BV e (.slice A1 e.q.length c1) (.slice B1 e.pt.length dd1)) := hr
  have r2 : Row w6.drew (W.heap.size + 1) 69 ZE := r2
  have r3 : Row w6.drew (W.heap.size + 2) 40 ZL := r3
  have hB6 : Below W.heap.size W w6.drew := hB6.drew
  have hown : OwnV w6.drew base 44 1 A1 e.q.length c1 vs := hown
  have hq : QV w6.drew base vs e.q := hq
  have hoB : OwnB w6.drew base 5 B1 e.pt.length dd1 e.pt := hoB
  obtain ⟨⟨c0, c1', c2, c3, c4⟩, ⟨c5, c6, c7, c8, c9⟩, fz⟩ := bv_cells hr
  refine wp_region_told (n := 148) (fun w' => w' = w6.drew) (fun _ _ => True) (by kernel_rfl) (by kernel_rfl) (by rfl) rfl ?_
  repeat (refine walk_pure (v := ?_) (fun _ => trivial) (fun _ => rfl) ?_ ?_; rotate_left; (focus (intro us w9 hS9 hF; subst hS9; clear hF; go_simp; (try with_reducible rfl); done)); simp only [Act.put, List.setIfInBounds_toArray, List.set_cons_zero, List.set_cons_succ, Nat.reduceAdd])
  refine walk_done fun us w9 hS9 hF => ?_
  subst hS9
  clear hF
  clear c0 c1' c2 c3 c4 c7 c8 hsub hquo hw2 hw3 dc t0 t1 rc0 rc1 hrn
  obtain ⟨ack, hack⟩ : ∃ ack, acN e.rn e.rc = ack := ⟨_, rfl⟩
  have hKe := Lib.hid (show nxK e = LV 2 false false 0 ack z56 by unfold nxK; rw [hack])
  rw [hack]
  clear hack
  go_upto_region 16 with ((with_reducible refine wp_row_store (L := LV 2 false false 0 ack z56) r3 rfl (line_info _ _ _ _ _ z56_len) (LV_one _ _ _ _ _ _) ?_ ?_ ?_); rfl; rfl; intro wa ua r3')
  clear c5 c6 c9
  have hka : Keeps [40] w6.drew wa := Keeps.upd ua r3 (by simp)
  have hr := hka.row hr (by decide)
  have r2 := hka.row r2 (by decide)
  have hBa := Upd.below hB6 ua (by omega)
  have hown := hown.keeps hka (by decide)
  have hq := hq.keeps hka (by decide)
  have hoB := hoB.keeps hka (by decide)
  clear r3 ua hka hB6
  obtain ⟨⟨c0, c1', c2, c3, c4⟩, ⟨c5, c6, c7, c8, c9⟩, fz⟩ := bv_cells hr
  go_upto_region 17 with (fail)
  have hkb : Keeps [155] wa (wa.setCell ⟨g, 9, none⟩ (.int .u64 e.rc)) := Keeps.upd (Upd.setCell wa g 9 (.int .u64 e.rc)) hr (by simp)
  have hr9 := hr.set 9 (.int .u64 e.rc)
  have r2 := hkb.row r2 (by decide)
  have r3 := hkb.row r3' (by decide)
  have hBb := Upd.below hBa (Upd.setCell wa g 9 (.int .u64 e.rc)) (by omega)
  have hown := hown.keeps hkb (by decide)
  have hq := hq.keeps hkb (by decide)
  have hoB := hoB.keeps hkb (by decide)
  generalize wa.setCell ⟨g, 9, none⟩ (.int .u64 e.rc) = wb at *
  clear c0 c1' c2 c3 c4 c5 c6 c7 c8 c9 fz hr r3' hkb hBa
  obtain ⟨e', he'⟩ : ∃ e', nxA e = e' := ⟨_, rfl⟩
  have hr : Row wb g 155 (LBV e' A1 c1 B1 dd1) := by
    rw [← he']
    exact hr9
  have HP := Lib.hid he'
  clear he' hr9
  have hLi := line_info 2 false false 0 ack z56_len
  have hL1 := LV_one 2 false false 0 ack z56
  obtain ⟨w0, hw0⟩ : ∃ w0, wb.drew = w0 := ⟨_, rfl⟩
  have hr : Row wb.drew g 155 (LBV e' A1 c1 B1 dd1) := hr
  have r2 : Row wb.drew (W.heap.size + 1) 69 ZE := r2
  have r3 : Row wb.drew (W.heap.size + 2) 40 (LV 2 false false 0 ack z56) := r3
  have hBb : Below W.heap.size W wb.drew := hBb.drew
  have hown : OwnV wb.drew base 44 1 A1 e.q.length c1 vs := hown
  have hq : QV wb.drew base vs e.q := hq
  have hoB : OwnB wb.drew base 5 B1 e.pt.length dd1 e.pt := hoB
  refine wp_region_late (n := 148) [3, 4] (NxS W wb.drew (W.heap.size + 2) (W.heap.size + 1) (LV 2 false false 0 ack z56) (LEV e' A1 c1 B1 dd1)) (fun _ _ => True) (by kernel_rfl) (by kernel_rfl) (by rfl) (fun _ _ _ _ _ h => h) ⟨hBb, Keeps.refl _ _, r3, fun _ => r2, fun h => by omega⟩ ?_
  refine late_pure (by simp) (fun _ => trivial) (v := ?_) (fun _ => rfl) ?_ ?_; rotate_left; (focus (intro c9 us w9 hm9 hS9 hF; clear hF hm9; go_simp; (try with_reducible rfl); done)); simp only [Act.put, List.setIfInBounds_toArray, List.set_cons_zero, List.set_cons_succ, Nat.reduceAdd]
  refine late_fix (by simp) (v := .agg (LEV e' A1 c1 B1 dd1)) ?_ ?_; (focus (intro c9 us w9 hm9 hS9 hF K hK; clear hF; go_simp; refine (end_any g e' _ _ _ _ _ (hS9.2.1.row hr (by decide))).mono ?_; rintro en w' ⟨rfl, hb⟩; exact hK w' (hS9.below hb) trivial)); simp only [Act.put, List.setIfInBounds_toArray, List.set_cons_zero, List.set_cons_succ, Nat.reduceAdd]
  refine late_pure (by simp) (fun _ => trivial) (v := .agg (LV 2 false false 0 ack z56)) (fun _ => rfl) ?_ ?_; (focus (intro c9 us w9 hm9 hS9 hF; exact exec_load_g hS9.2.2.1.range Try.underlying40 rfl hLi rfl)); simp only [Act.put, List.setIfInBounds_toArray, List.set_cons_zero, List.set_cons_succ, Nat.reduceAdd]
  refine late_store rfl ?_ ?_; (focus (intro us w9 hS9 hF K hK; clear hF; rw [if_pos (by rfl)]; exact step_put (L := LEV e' A1 c1 B1 dd1) (hS9.2.2.2.1 rfl) rfl (lev_info _ _ _ _ _) (lev_one _ _ _ _ _) rfl rfl (fun w' u' r' => hK w' (hS9.one u' r' (by omega) (by omega)) trivial))); simp only [Nat.reduceAdd]
  refine late_store rfl ?_ ?_; (focus (intro us w9 hS9 hF K hK; clear hF; rw [if_pos (by rfl)]; exact step_put (L := LV 2 false false 0 ack z56) hS9.2.2.1 rfl hLi hL1 rfl rfl (fun w' u' r' => hK w' (hS9.two u' r' (by omega) (by omega)) trivial))); simp only [Nat.reduceAdd]
  refine late_pure (by simp) (fun _ => trivial) (v := ?_) (fun _ => rfl) ?_ ?_; rotate_left; (focus (intro c9 us w9 hm9 hS9 hF; clear hF hm9; go_simp; (try with_reducible rfl); done)); simp only [Act.put, List.setIfInBounds_toArray, List.set_cons_zero, List.set_cons_succ, Nat.reduceAdd]
  refine late_done fun us8 w8 hS8 hF => ?_
  have rr3 := hS8.2.2.1
  have rr2 := hS8.2.2.2.2 (by omega)
  have hB8 := hS8.1
  have hk := hS8.2.1
  clear hF hS8
  go_wp2
  refine bodyPost_ret (results_cct rfl rfl rfl rr2 rr3 Try.underlying69 Try.underlying40 rfl rfl (lev_info _ _ _ _ _) hLi) rfl ?_
  have hWb : W.heap.size ≤ base := by omega
  have h' := HP.out
  subst h'
  have hf := nx_ack HE.out HG.out (A := A1) (B := B1) (c := c1) (d := dd1) ⟨Nat.le_refl _, fun w' hw' => ⟨isM_of ((hown.keeps hk (by decide)).stay hWb hw') ((hq.keeps hk (by decide)).stay hWb hw') (fun x hx => by have := hve.qm x hx; omega), hown.cap, ((hoB.keeps hk (by decide)).stay hWb hw').isB, hoB.capM⟩⟩ hB8
  rw [hKe.out] at hf
  exact hf
set_option maxRecDepth 100000 in
set_option maxHeartbeats 8000000 in
theorem next_f0n (e : LE) (A B : Option Addr) (c d : Nat) (W : World) (ht : e.ty) (hH : Held W e A c B d) (hv : vE e = true) (hq0 : 0 < e.q.length) (hf0 : fr e.n e.s e.a ≤ 0) (hc : e.rc - e.told < e.rn / 2) : Calls Try.prog 45 #[.agg (LEV e A c B d)] W (NxP e W) := by
  have hg0 : nxGo e = false := by unfold nxGo; rw [decide_eq_false (by omega : ¬ 0 < fr e.n e.s e.a)]; simp
  have d0 : decide (0 < e.q.length) = true := decide_eq_true hq0
  have d1 : decide (0 < fr e.n e.s e.a) = false := decide_eq_false (by omega)
  have HE := Lib.hid (show nxE e = 17 by unfold nxE; rw [hv, hg0]; simp; omega)
  have HG := Lib.hid hg0
  clear hg0
  have hve := vE_yes hv
  have HV := Lib.hid hv
  clear hv
  have hql := hve.ql
  obtain ⟨r1, r2, r3, hB1⟩ := three_born W 69 69 40 (LEV e A c B d) ZE ZL
  go_enter Try.func45, Try.ntmps45
  go_upto_region 1 with (fail)
  change Code.wp _ _ _ _ (((W.alloc (.cells (LEV e A c B d) 69)).alloc (.cells ZE 69)).alloc (.cells ZL 40))
  generalize ((W.alloc (.cells (LEV e A c B d) 69)).alloc (.cells ZE 69)).alloc (.cells ZL 40) = w1 at *
  have hH1 := hH.below hB1
  go_upto_region 3 with (first | ((with_reducible refine wp_load_g ?_ r1.range Try.underlying69 rfl (lev_info _ _ _ _ _) ?_ ?_); rfl; rfl) | (go_at_call 101; (with_reducible refine (valid_is HV.out ht hH1).mono ?_); rintro en w2 ⟨rfl, hb⟩))
  have r1 := r1.below hb r1.lt
  have r2 := r2.below hb r2.lt
  have r3 := r3.below hb r3.lt
  have hB2 := hB1.trans (hb.mono hB1.size)
  clear hb hB1 hH1
  have r3lt := r3.lt
  have hH2 := hH.below hB2
  go_upto_region 4 with (first | ((with_reducible refine wp_load_g ?_ r1.range Try.underlying69 rfl (lev_info _ _ _ _ _) ?_ ?_); rfl; rfl) | (go_at_call 102; (with_reducible refine (open_any e _ _ _ _ _ ht hH2).mono ?_); rintro en w3 ⟨g, A1, c1, B1, dd1, vs, rfl, hWg, hr, hown, hq, hoB, hb⟩))
  have r2 := r2.below hb r2.lt
  have r3 := r3.below hb r3.lt
  have hB3 := hB2.trans (hb.mono hB2.size)
  have hWg' : W.heap.size + 2 < g := by have := r1.lt; have := hB2.size; have h3 : W.heap.size + 2 < w2.heap.size := r3lt; omega
  clear hb hH2 hB2 r1
  generalize w2.heap.size = base at *
  obtain ⟨-, ⟨c5, c6, -, -, -⟩, fz⟩ := bv_cells hr
  go_upto_region 6 with (go_at_call 38; refine (ack_any _ _ _).mono ?_; rintro en w6 ⟨rfl, hb⟩)
  have r2 := r2.below hb r2.lt
  have r3 := r3.below hb r3.lt
  have hr := hr.below hb hr.lt
  have hB6 := hB3.trans (hb.mono hB3.size)
  have hown := hown.below hb
  have hq := hq.keeps (ts := []) (Keeps.below hb) (by simp)
  have hoB := hoB.below hb
  clear hb hB3 c5 c6 fz
  have hlg := hr.lt
  obtain ⟨⟨c0, c1', c2, c3, c4⟩, ⟨c5, c6, c7, c8, c9⟩, fz⟩ := bv_cells hr
  go_upto_region 14 with (go_at_call 22; refine (free _ _ _ ht.s0 ht.s1 ht.a0 _).mono ?_; rintro en w7 ⟨rfl, hb⟩)
  clear c0 c1' c2 c3 c4 c5 c6 c7 c8 c9 fz
  have r2 := r2.below hb r2.lt
  have r3 := r3.below hb r3.lt
  have hr := hr.below hb hr.lt
  have hB6 := hB6.trans (hb.mono hB6.size)
  have hown := hown.below hb
  have hq := hq.keeps (ts := []) (Keeps.below hb) (by simp)
  have hoB := hoB.below hb
  clear hb
  have t0 := ht.t0
  have t1 := ht.t1
  have rc0 := ht.r0
  have rc1 := ht.r1
  have htold := hve.told
  have hrn := vl_range (vr_vl hve.vr)
  have hsub : IntKind.u64.wrap (e.rc - e.told) = e.rc - e.told := by rw [IntKind.wrap_u64]; omega
  have hquo : e.rn.tdiv 2 = e.rn / 2 := Int.tdiv_eq_ediv_of_nonneg (by omega)
  have hw2 : IntKind.u64.wrap (e.rn / 2) = e.rn / 2 := by rw [IntKind.wrap_u64]; omega
  have hw3 : IntKind.i64.wrap (e.rn / 2) = e.rn / 2 := by rw [IntKind.wrap_i64]; omega
  have dc : decide (e.rn / 2 ≤ e.rc - e.told) = false := by simp; omega
  have hr : Row w7.drew g 155 (BV e (.slice A1 e.q.length c1) (.slice B1 e.pt.length dd1)) := hr
  have r2 : Row w7.drew (W.heap.size + 1) 69 ZE := r2
  have r3 : Row w7.drew (W.heap.size + 2) 40 ZL := r3
  have hB6 : Below W.heap.size W w7.drew := hB6.drew
  have hown : OwnV w7.drew base 44 1 A1 e.q.length c1 vs := hown
  have hq : QV w7.drew base vs e.q := hq
  have hoB : OwnB w7.drew base 5 B1 e.pt.length dd1 e.pt := hoB
  obtain ⟨⟨c0, c1', c2, c3, c4⟩, ⟨c5, c6, c7, c8, c9⟩, fz⟩ := bv_cells hr
  refine wp_region_told (n := 148) (fun w' => w' = w7.drew) (fun _ _ => True) (by kernel_rfl) (by kernel_rfl) (by rfl) rfl ?_
  repeat (refine walk_pure (v := ?_) (fun _ => trivial) (fun _ => rfl) ?_ ?_; rotate_left; (focus (intro us w9 hS9 hF; subst hS9; clear hF; go_simp; (try with_reducible rfl); done)); simp only [Act.put, List.setIfInBounds_toArray, List.set_cons_zero, List.set_cons_succ, Nat.reduceAdd])
  refine walk_done fun us w9 hS9 hF => ?_
  subst hS9
  clear hF
  go_wp2_with (first | ((with_reducible refine wp_row_store (L := ZE) r2 rfl ze_info ze_one ?_ ?_ ?_); rfl; rfl; intro w4 u4 r4) | ((with_reducible refine wp_row_store (L := ZL) (r3.upd u4 (by omega)) rfl zl_info zl_one ?_ ?_ ?_); rfl; rfl; intro w5 u5 r5))
  refine bodyPost_ret (results_cct rfl rfl rfl (r4.upd u5 (by omega)) r5 Try.underlying69 Try.underlying40 rfl rfl ze_info zl_info) rfl ?_
  exact nx_no HE.out (by decide) (Upd.below (Upd.below hB6 u4 (by omega)) u5 (by omega))
set_option maxRecDepth 100000 in
set_option maxHeartbeats 8000000 in
theorem next_f0y (e : LE) (A B : Option Addr) (c d : Nat) (W : World) (ht : e.ty) (hH : Held W e A c B d) (hv : vE e = true) (hq0 : 0 < e.q.length) (hf0 : fr e.n e.s e.a ≤ 0) (hc : e.rn / 2 ≤ e.rc - e.told) : Calls Try.prog 45 #[.agg (LEV e A c B d)] W (NxP e W) := by
  have hg0 : nxGo e = false := by unfold nxGo; rw [decide_eq_false (by omega : ¬ 0 < fr e.n e.s e.a)]; simp
  have d0 : decide (0 < e.q.length) = true := decide_eq_true hq0
  have d1 : decide (0 < fr e.n e.s e.a) = false := decide_eq_false (by omega)
  have HE := Lib.hid (show nxE e = 0 by unfold nxE; rw [hv, hg0]; simp; omega)
  have HG := Lib.hid hg0
  clear hg0
  have hve := vE_yes hv
  have HV := Lib.hid hv
  clear hv
  have hql := hve.ql
  obtain ⟨r1, r2, r3, hB1⟩ := three_born W 69 69 40 (LEV e A c B d) ZE ZL
  go_enter Try.func45, Try.ntmps45
  go_upto_region 1 with (fail)
  change Code.wp _ _ _ _ (((W.alloc (.cells (LEV e A c B d) 69)).alloc (.cells ZE 69)).alloc (.cells ZL 40))
  generalize ((W.alloc (.cells (LEV e A c B d) 69)).alloc (.cells ZE 69)).alloc (.cells ZL 40) = w1 at *
  have hH1 := hH.below hB1
  go_upto_region 3 with (first | ((with_reducible refine wp_load_g ?_ r1.range Try.underlying69 rfl (lev_info _ _ _ _ _) ?_ ?_); rfl; rfl) | (go_at_call 101; (with_reducible refine (valid_is HV.out ht hH1).mono ?_); rintro en w2 ⟨rfl, hb⟩))
  have r1 := r1.below hb r1.lt
  have r2 := r2.below hb r2.lt
  have r3 := r3.below hb r3.lt
  have hB2 := hB1.trans (hb.mono hB1.size)
  clear hb hB1 hH1
  have r3lt := r3.lt
  have hH2 := hH.below hB2
  go_upto_region 4 with (first | ((with_reducible refine wp_load_g ?_ r1.range Try.underlying69 rfl (lev_info _ _ _ _ _) ?_ ?_); rfl; rfl) | (go_at_call 102; (with_reducible refine (open_any e _ _ _ _ _ ht hH2).mono ?_); rintro en w3 ⟨g, A1, c1, B1, dd1, vs, rfl, hWg, hr, hown, hq, hoB, hb⟩))
  have r2 := r2.below hb r2.lt
  have r3 := r3.below hb r3.lt
  have hB3 := hB2.trans (hb.mono hB2.size)
  have hWg' : W.heap.size + 2 < g := by have := r1.lt; have := hB2.size; have h3 : W.heap.size + 2 < w2.heap.size := r3lt; omega
  clear hb hH2 hB2 r1
  generalize w2.heap.size = base at *
  obtain ⟨-, ⟨c5, c6, -, -, -⟩, fz⟩ := bv_cells hr
  go_upto_region 6 with (go_at_call 38; refine (ack_any _ _ _).mono ?_; rintro en w6 ⟨rfl, hb⟩)
  have r2 := r2.below hb r2.lt
  have r3 := r3.below hb r3.lt
  have hr := hr.below hb hr.lt
  have hB6 := hB3.trans (hb.mono hB3.size)
  have hown := hown.below hb
  have hq := hq.keeps (ts := []) (Keeps.below hb) (by simp)
  have hoB := hoB.below hb
  clear hb hB3 c5 c6 fz
  have hlg := hr.lt
  obtain ⟨⟨c0, c1', c2, c3, c4⟩, ⟨c5, c6, c7, c8, c9⟩, fz⟩ := bv_cells hr
  go_upto_region 14 with (go_at_call 22; refine (free _ _ _ ht.s0 ht.s1 ht.a0 _).mono ?_; rintro en w7 ⟨rfl, hb⟩)
  clear c0 c1' c2 c3 c4 c5 c6 c7 c8 c9 fz
  have r2 := r2.below hb r2.lt
  have r3 := r3.below hb r3.lt
  have hr := hr.below hb hr.lt
  have hB6 := hB6.trans (hb.mono hB6.size)
  have hown := hown.below hb
  have hq := hq.keeps (ts := []) (Keeps.below hb) (by simp)
  have hoB := hoB.below hb
  clear hb
  have t0 := ht.t0
  have t1 := ht.t1
  have rc0 := ht.r0
  have rc1 := ht.r1
  have htold := hve.told
  have hrn := vl_range (vr_vl hve.vr)
  have hsub : IntKind.u64.wrap (e.rc - e.told) = e.rc - e.told := by rw [IntKind.wrap_u64]; omega
  have hquo : e.rn.tdiv 2 = e.rn / 2 := Int.tdiv_eq_ediv_of_nonneg (by omega)
  have hw2 : IntKind.u64.wrap (e.rn / 2) = e.rn / 2 := by rw [IntKind.wrap_u64]; omega
  have hw3 : IntKind.i64.wrap (e.rn / 2) = e.rn / 2 := by rw [IntKind.wrap_i64]; omega
  have dc : decide (e.rn / 2 ≤ e.rc - e.told) = true := by simp; omega
  have hr : Row w7.drew g 155 (BV e (.slice A1 e.q.length c1) (.slice B1 e.pt.length dd1)) := hr
  have r2 : Row w7.drew (W.heap.size + 1) 69 ZE := r2
  have r3 : Row w7.drew (W.heap.size + 2) 40 ZL := r3
  have hB6 : Below W.heap.size W w7.drew := hB6.drew
  have hown : OwnV w7.drew base 44 1 A1 e.q.length c1 vs := hown
  have hq : QV w7.drew base vs e.q := hq
  have hoB : OwnB w7.drew base 5 B1 e.pt.length dd1 e.pt := hoB
  obtain ⟨⟨c0, c1', c2, c3, c4⟩, ⟨c5, c6, c7, c8, c9⟩, fz⟩ := bv_cells hr
  refine wp_region_told (n := 148) (fun w' => w' = w7.drew) (fun _ _ => True) (by kernel_rfl) (by kernel_rfl) (by rfl) rfl ?_
  repeat (refine walk_pure (v := ?_) (fun _ => trivial) (fun _ => rfl) ?_ ?_; rotate_left; (focus (intro us w9 hS9 hF; subst hS9; clear hF; go_simp; (try with_reducible rfl); done)); simp only [Act.put, List.setIfInBounds_toArray, List.set_cons_zero, List.set_cons_succ, Nat.reduceAdd])
  refine walk_done fun us w9 hS9 hF => ?_
  subst hS9
  clear hF
  clear c0 c1' c2 c3 c4 c7 c8 hsub hquo hw2 hw3 dc t0 t1 rc0 rc1 hrn
  obtain ⟨ack, hack⟩ : ∃ ack, acN e.rn e.rc = ack := ⟨_, rfl⟩
  have hKe := Lib.hid (show nxK e = LV 2 false false 0 ack z56 by unfold nxK; rw [hack])
  rw [hack]
  clear hack
  go_upto_region 16 with ((with_reducible refine wp_row_store (L := LV 2 false false 0 ack z56) r3 rfl (line_info _ _ _ _ _ z56_len) (LV_one _ _ _ _ _ _) ?_ ?_ ?_); rfl; rfl; intro wa ua r3')
  clear c5 c6 c9
  have hka : Keeps [40] w7.drew wa := Keeps.upd ua r3 (by simp)
  have hr := hka.row hr (by decide)
  have r2 := hka.row r2 (by decide)
  have hBa := Upd.below hB6 ua (by omega)
  have hown := hown.keeps hka (by decide)
  have hq := hq.keeps hka (by decide)
  have hoB := hoB.keeps hka (by decide)
  clear r3 ua hka hB6
  obtain ⟨⟨c0, c1', c2, c3, c4⟩, ⟨c5, c6, c7, c8, c9⟩, fz⟩ := bv_cells hr
  go_upto_region 17 with (fail)
  have hkb : Keeps [155] wa (wa.setCell ⟨g, 9, none⟩ (.int .u64 e.rc)) := Keeps.upd (Upd.setCell wa g 9 (.int .u64 e.rc)) hr (by simp)
  have hr9 := hr.set 9 (.int .u64 e.rc)
  have r2 := hkb.row r2 (by decide)
  have r3 := hkb.row r3' (by decide)
  have hBb := Upd.below hBa (Upd.setCell wa g 9 (.int .u64 e.rc)) (by omega)
  have hown := hown.keeps hkb (by decide)
  have hq := hq.keeps hkb (by decide)
  have hoB := hoB.keeps hkb (by decide)
  generalize wa.setCell ⟨g, 9, none⟩ (.int .u64 e.rc) = wb at *
  clear c0 c1' c2 c3 c4 c5 c6 c7 c8 c9 fz hr r3' hkb hBa
  obtain ⟨e', he'⟩ : ∃ e', nxA e = e' := ⟨_, rfl⟩
  have hr : Row wb g 155 (LBV e' A1 c1 B1 dd1) := by
    rw [← he']
    exact hr9
  have HP := Lib.hid he'
  clear he' hr9
  have hLi := line_info 2 false false 0 ack z56_len
  have hL1 := LV_one 2 false false 0 ack z56
  obtain ⟨w0, hw0⟩ : ∃ w0, wb.drew = w0 := ⟨_, rfl⟩
  have hr : Row wb.drew g 155 (LBV e' A1 c1 B1 dd1) := hr
  have r2 : Row wb.drew (W.heap.size + 1) 69 ZE := r2
  have r3 : Row wb.drew (W.heap.size + 2) 40 (LV 2 false false 0 ack z56) := r3
  have hBb : Below W.heap.size W wb.drew := hBb.drew
  have hown : OwnV wb.drew base 44 1 A1 e.q.length c1 vs := hown
  have hq : QV wb.drew base vs e.q := hq
  have hoB : OwnB wb.drew base 5 B1 e.pt.length dd1 e.pt := hoB
  refine wp_region_late (n := 148) [3, 4] (NxS W wb.drew (W.heap.size + 2) (W.heap.size + 1) (LV 2 false false 0 ack z56) (LEV e' A1 c1 B1 dd1)) (fun _ _ => True) (by kernel_rfl) (by kernel_rfl) (by rfl) (fun _ _ _ _ _ h => h) ⟨hBb, Keeps.refl _ _, r3, fun _ => r2, fun h => by omega⟩ ?_
  refine late_pure (by simp) (fun _ => trivial) (v := ?_) (fun _ => rfl) ?_ ?_; rotate_left; (focus (intro c9 us w9 hm9 hS9 hF; clear hF hm9; go_simp; (try with_reducible rfl); done)); simp only [Act.put, List.setIfInBounds_toArray, List.set_cons_zero, List.set_cons_succ, Nat.reduceAdd]
  refine late_fix (by simp) (v := .agg (LEV e' A1 c1 B1 dd1)) ?_ ?_; (focus (intro c9 us w9 hm9 hS9 hF K hK; clear hF; go_simp; refine (end_any g e' _ _ _ _ _ (hS9.2.1.row hr (by decide))).mono ?_; rintro en w' ⟨rfl, hb⟩; exact hK w' (hS9.below hb) trivial)); simp only [Act.put, List.setIfInBounds_toArray, List.set_cons_zero, List.set_cons_succ, Nat.reduceAdd]
  refine late_pure (by simp) (fun _ => trivial) (v := .agg (LV 2 false false 0 ack z56)) (fun _ => rfl) ?_ ?_; (focus (intro c9 us w9 hm9 hS9 hF; exact exec_load_g hS9.2.2.1.range Try.underlying40 rfl hLi rfl)); simp only [Act.put, List.setIfInBounds_toArray, List.set_cons_zero, List.set_cons_succ, Nat.reduceAdd]
  refine late_store rfl ?_ ?_; (focus (intro us w9 hS9 hF K hK; clear hF; rw [if_pos (by rfl)]; exact step_put (L := LEV e' A1 c1 B1 dd1) (hS9.2.2.2.1 rfl) rfl (lev_info _ _ _ _ _) (lev_one _ _ _ _ _) rfl rfl (fun w' u' r' => hK w' (hS9.one u' r' (by omega) (by omega)) trivial))); simp only [Nat.reduceAdd]
  refine late_store rfl ?_ ?_; (focus (intro us w9 hS9 hF K hK; clear hF; rw [if_pos (by rfl)]; exact step_put (L := LV 2 false false 0 ack z56) hS9.2.2.1 rfl hLi hL1 rfl rfl (fun w' u' r' => hK w' (hS9.two u' r' (by omega) (by omega)) trivial))); simp only [Nat.reduceAdd]
  refine late_pure (by simp) (fun _ => trivial) (v := ?_) (fun _ => rfl) ?_ ?_; rotate_left; (focus (intro c9 us w9 hm9 hS9 hF; clear hF hm9; go_simp; (try with_reducible rfl); done)); simp only [Act.put, List.setIfInBounds_toArray, List.set_cons_zero, List.set_cons_succ, Nat.reduceAdd]
  refine late_done fun us8 w8 hS8 hF => ?_
  have rr3 := hS8.2.2.1
  have rr2 := hS8.2.2.2.2 (by omega)
  have hB8 := hS8.1
  have hk := hS8.2.1
  clear hF hS8
  go_wp2
  refine bodyPost_ret (results_cct rfl rfl rfl rr2 rr3 Try.underlying69 Try.underlying40 rfl rfl (lev_info _ _ _ _ _) hLi) rfl ?_
  have hWb : W.heap.size ≤ base := by omega
  have h' := HP.out
  subst h'
  have hf := nx_ack HE.out HG.out (A := A1) (B := B1) (c := c1) (d := dd1) ⟨Nat.le_refl _, fun w' hw' => ⟨isM_of ((hown.keeps hk (by decide)).stay hWb hw') ((hq.keeps hk (by decide)).stay hWb hw') (fun x hx => by have := hve.qm x hx; omega), hown.cap, ((hoB.keeps hk (by decide)).stay hWb hw').isB, hoB.capM⟩⟩ hB8
  rw [hKe.out] at hf
  exact hf
end Go.Proofs.Ythjkhambmgepdaa
