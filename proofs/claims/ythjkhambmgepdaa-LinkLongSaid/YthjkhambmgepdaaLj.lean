/- Links: Next, where a message goes on. -/
import Derived.Test.YthjkhambmgepdaaLi
namespace Go.Proofs.Ythjkhambmgepdaa
open Go.RowKit
set_option linter.unusedVariables false
def BW (n s a : Int) (Q : Value) (off rn rc want : Int) (R : Value) (told : Int) : Array Value := #[.int .i64 n, .int .u64 s, .int .u64 a, Q, .int .i64 off, .int .i64 rn, .int .u64 rc, .int .i64 want, R, .int .u64 told]
theorem bw_cells {w : World} {g : Nat} {n s a off rn rc want told : Int} {Q R : Value} (h : Row w g 155 (BW n s a Q off rn rc want R told)) :
    (w.cell? ⟨g, 0, none⟩ = some (.int .i64 n) ∧ w.cell? ⟨g, 1, none⟩ = some (.int .u64 s) ∧ w.cell? ⟨g, 2, none⟩ = some (.int .u64 a) ∧ w.cell? ⟨g, 3, none⟩ = some Q ∧ w.cell? ⟨g, 4, none⟩ = some (.int .i64 off)) ∧
    (w.cell? ⟨g, 5, none⟩ = some (.int .i64 rn) ∧ w.cell? ⟨g, 6, none⟩ = some (.int .u64 rc) ∧ w.cell? ⟨g, 7, none⟩ = some (.int .i64 want) ∧ w.cell? ⟨g, 8, none⟩ = some R ∧ w.cell? ⟨g, 9, none⟩ = some (.int .u64 told)) ∧ ∀ i, w.frozen? ⟨g, i, none⟩ = false :=
  ⟨⟨h.cell 0, h.cell 1, h.cell 2, h.cell 3, h.cell 4⟩, ⟨h.cell 5, h.cell 6, h.cell 7, h.cell 8, h.cell 9⟩, h.frozen⟩
theorem sd_is {e : LE} (hve : VE e) (h0 : 0 < e.q.length) (hf : 0 < fr e.n e.s e.a) : sdE e.n e.s e.a (frP e).length = if e.s = 4611686018427387904 then 15 else 0 := by
  have h1 := frP_len hve h0
  unfold sdE
  rw [if_pos hve.vs, if_neg (by omega), if_neg (by omega)]
def SnC (e : LE) (x1 x2 x3 I : Int) (L : Array Value) (E : Int) : Prop := ∀ (w : World) (A : Option Addr) (c : Nat), IsB w A (frP e).length (frP e) → Calls Try.prog 25 #[.agg #[.int .i64 e.n, .int .u64 e.s, .int .u64 e.a], .slice A (frP e).length c, .bool (decide (e.off < 0)), .int .u16 (acN e.rn e.rc)] w
  (fun en w' => en = .returned (.tuple #[.agg #[.int .i64 x1, .int .u64 x2, .int .u64 x3], .int .i64 I, .agg L, .int .i64 E]) ∧ Below w.heap.size w w')
theorem send_go {e : LE} (ht : e.ty) (hve : VE e) (h0 : 0 < e.q.length) (hf : 0 < fr e.n e.s e.a) (hs : e.s ≠ 4611686018427387904) : SnC e e.n (e.s + 1) e.a (e.s % e.n) (nxD e) 0 := by
  intro w A c hI
  have h := send_any e.n e.s e.a (acN e.rn e.rc) A (frP e).length c (decide (e.off < 0)) (frP e) ht.s0 ht.s1 ht.a0 w hI
  have hE : sdE e.n e.s e.a (frP e).length = 0 := by rw [sd_is hve h0 hf, if_neg hs]
  unfold SdPost sdS sdI sdL at h
  rw [hE] at h
  exact h
theorem send_lim {e : LE} (ht : e.ty) (hve : VE e) (h0 : 0 < e.q.length) (hf : 0 < fr e.n e.s e.a) (hs : e.s = 4611686018427387904) : SnC e 0 0 0 0 ZL 15 := by
  intro w A c hI
  have h := send_any e.n e.s e.a (acN e.rn e.rc) A (frP e).length c (decide (e.off < 0)) (frP e) ht.s0 ht.s1 ht.a0 w hI
  have hE : sdE e.n e.s e.a (frP e).length = 15 := by rw [sd_is hve h0 hf, if_pos hs]
  unfold SdPost sdS sdI sdL at h
  rw [hE] at h
  exact h
theorem nxD_form {e : LE} (h : (frP e).length ≤ 56) : (61 = (nxD e).size) ∧ (Try.prog.info? 40).map (·.size) = some (nxD e).size ∧ (nxD e).all (·.oneCell') = true := by
  have hp : (frP e ++ z56.drop (frP e).length).length = 56 := by simp [z56]; omega
  exact ⟨(LV_size _ _ _ _ _ hp).symm, line_info _ _ _ _ _ hp, LV_one _ _ _ _ _ _⟩
set_option maxRecDepth 100000 in
set_option maxHeartbeats 8000000 in
theorem next_lim (e : LE) (A B : Option Addr) (c d : Nat) (W : World) (ht : e.ty) (hH : Held W e A c B d) (hv : vE e = true) (hq0 : 0 < e.q.length) (hf0 : 0 < fr e.n e.s e.a) (hs : e.s = 4611686018427387904) : Calls Try.prog 45 #[.agg (LEV e A c B d)] W (NxP e W) := by
  have hg0 : nxGo e = true := by simp [nxGo, hq0, hf0]
  have HE := Lib.hid (show nxE e = 15 by unfold nxE; rw [hv, hg0, if_pos rfl, if_pos rfl, if_pos hs])
  have hcon := Lib.hid (send_lim ht (vE_yes hv) hq0 hf0 hs)
  clear hg0 hs
  have hve := vE_yes hv
  have HV := Lib.hid hv
  clear hv
  have hql := hve.ql
  obtain ⟨r1, r2, r3, hB1⟩ := three_born W 69 69 40 (LEV e A c B d) ZE ZL
  go_enter Try.func45, Try.ntmps45
  go_upto_region 1 with (fail)
  change Code.wp _ _ _ _ (((W.alloc (.cells (LEV e A c B d) 69)).alloc (.cells ZE 69)).alloc (.cells ZL 40))
  generalize ((W.alloc (.cells (LEV e A c B d) 69)).alloc (.cells ZE 69)).alloc (.cells ZL 40) = w1 at *
  have hH1 := hH.below hB1
  go_upto_region 3 with (first | ((with_reducible refine wp_load_g ?_ r1.range Try.underlying69 rfl (lev_info _ _ _ _ _) ?_ ?_); rfl; rfl) | (go_at_call 101; (with_reducible refine (valid_is HV.out ht hH1).mono ?_); rintro en w2 ⟨rfl, hb⟩))
  have r1 := r1.below hb r1.lt
  have r2 := r2.below hb r2.lt
  have r3 := r3.below hb r3.lt
  have hB2 := hB1.trans (hb.mono hB1.size)
  clear hb hB1 hH1
  have r3lt := r3.lt
  have hH2 := hH.below hB2
  go_upto_region 4 with (first | ((with_reducible refine wp_load_g ?_ r1.range Try.underlying69 rfl (lev_info _ _ _ _ _) ?_ ?_); rfl; rfl) | (go_at_call 102; (with_reducible refine (open_any e _ _ _ _ _ ht hH2).mono ?_); rintro en w3 ⟨g, A1, c1, B1, dd1, vs, rfl, hWg, hr, hown, hq, hoB, hb⟩))
  have r2 := r2.below hb r2.lt
  have r3 := r3.below hb r3.lt
  have hB3 := hB2.trans (hb.mono hB2.size)
  have hWg' : W.heap.size + 2 < g := by have := r1.lt; have := hB2.size; have h3 : W.heap.size + 2 < w2.heap.size := r3lt; omega
  clear hb hH2 hB2 r1
  generalize w2.heap.size = base at *
  obtain ⟨-, ⟨c5, c6, -, -, -⟩, fz⟩ := bv_cells hr
  go_upto_region 6 with (go_at_call 38; refine (ack_any _ _ _).mono ?_; rintro en w6 ⟨rfl, hb⟩)
  have r2 := r2.below hb r2.lt
  have r3 := r3.below hb r3.lt
  have hr := hr.below hb hr.lt
  have hB6 := hB3.trans (hb.mono hB3.size)
  have hown := hown.below hb
  have hq := hq.keeps (ts := []) (Keeps.below hb) (by simp)
  have hoB := hoB.below hb
  clear hb hB3 c5 c6 fz
  have hlg := hr.lt
  have hr : Row w6 g 155 (BW e.n e.s e.a (.slice A1 e.q.length c1) e.off e.rn e.rc e.want (.slice B1 e.pt.length dd1) e.told) := hr
  obtain ⟨⟨c0, c1', c2, c3, c4⟩, ⟨c5, c6, c7, c8, c9⟩, fz⟩ := bw_cells hr
  have d0 : decide (0 < e.q.length) = true := decide_eq_true hq0
  have d1 : decide (0 < fr e.n e.s e.a) = true := decide_eq_true hf0
  go_upto_region 7 with (go_at_call 22; refine (free _ _ _ ht.s0 ht.s1 ht.a0 _).mono ?_; rintro en w7 ⟨rfl, hb⟩)
  clear c0 c1' c2 c3 c4 c5 c6 c7 c8 c9 fz
  have r2 := r2.below hb r2.lt
  have r3 := r3.below hb r3.lt
  have hr := hr.below hb hr.lt
  have hB6 := hB6.trans (hb.mono hB6.size)
  have hown := hown.below hb
  have hq := hq.keeps (ts := []) (Keeps.below hb) (by simp)
  have hoB := hoB.below hb
  clear hb
  have hM := isM_of hown hq (fun x hx => by have := hve.qm x hx; omega)
  have hfm := hve.qm _ (frM_mem hq0)
  have hoff : e.off = -1 ∨ (52 ≤ e.off ∧ e.off < (frM e).length) := by rcases hve.off with h | h; exact .inl h; exact .inr ⟨h.2.1, h.2.2.1⟩
  have hHF := Lib.hid hoff
  clear hoff
  go_upto_region 8 with (go_at_call 105; refine (frag_any g e A1 c1 _ _ hr hM hq0 hfm hHF.out).mono ?_; rintro en w8 ⟨A5, c5', rfl, hI5, hb⟩)
  clear hM
  have r2 := r2.below hb r2.lt
  have r3 := r3.below hb r3.lt
  have hr := hr.below hb hr.lt
  have hB6 := hB6.trans (hb.mono hB6.size)
  have hown := hown.below hb
  have hq := hq.keeps (ts := []) (Keeps.below hb) (by simp)
  have hoB := hoB.below hb
  clear hb
  have hlg := hr.lt
  have h3lt := r3.lt
  obtain ⟨⟨c0, c1', c2, c3, c4⟩, -, fz⟩ := bw_cells hr
  refine wp_region_late (n := 148) [21, 23] (CalS w8 21 (NoC) 1 19 27 #[.int .i64 0, .int .u64 0, .int .u64 0] 2 20 40 ZL) (Shp w8.heap.size) (by kernel_rfl) (by kernel_rfl) (by rfl) (CalS.loc (by decide) (fun c hc => mayAt_no (d := 0) (by kernel_rfl) (by omega) (by decide)) (fun c hc => mayAt_no (d := 1) (by kernel_rfl) (by omega) (by decide))) (CalS.start (by decide) (by decide)) ?_
  refine late_pure (by simp) (Shp.refl _) (v := ?_) (fun _ => rfl) ?_ ?_; rotate_left; (focus (intro c9 us w9 hm9 hS9 hF; clear hF hm9; go_simp; (try with_reducible rfl); done)); simp only [Act.put, List.setIfInBounds_toArray, List.set_cons_zero, List.set_cons_succ, Nat.reduceAdd]
  refine late_pure (by simp) (Shp.refl _) (v := ?_) (fun _ => rfl) ?_ ?_; rotate_left; (focus (intro c9 us w9 hm9 hS9 hF; clear hF hm9; go_simp; (try with_reducible rfl); done)); simp only [Act.put, List.setIfInBounds_toArray, List.set_cons_zero, List.set_cons_succ, Nat.reduceAdd]
  refine late_pure (by simp) (Shp.refl _) (v := ?_) (fun _ => rfl) ?_ ?_; rotate_left; (focus (intro c9 us w9 hm9 hS9 hF; clear hF hm9; go_simp; (try with_reducible rfl); done)); simp only [Act.put, List.setIfInBounds_toArray, List.set_cons_zero, List.set_cons_succ, Nat.reduceAdd]
  refine late_pure (by simp) (Shp.refl _) (v := ?_) (fun _ => rfl) ?_ ?_; rotate_left; (focus (intro c9 us w9 hm9 hS9 hF; clear hF hm9; go_simp; (try with_reducible rfl); done)); simp only [Act.put, List.setIfInBounds_toArray, List.set_cons_zero, List.set_cons_succ, Nat.reduceAdd]
  refine late_pure (by simp) (Shp.refl _) (v := .agg #[.int .i64 e.n, .int .u64 e.s, .int .u64 e.a]) (fun _ => rfl) ?_ ?_; (focus (intro c9 us w9 hm9 hS9 hF; have b0 := (hS9.1.cell (p := ⟨g, 0, none⟩) hlg).trans c0; have b1 := (hS9.1.cell (p := ⟨g, 1, none⟩) hlg).trans c1'; have b2 := (hS9.1.cell (p := ⟨g, 2, none⟩) hlg).trans c2; have b4 := (hS9.1.cell (p := ⟨g, 4, none⟩) hlg).trans c4; clear hF hm9; go_simp; (try with_reducible rfl); done)); simp only [Act.put, List.setIfInBounds_toArray, List.set_cons_zero, List.set_cons_succ, Nat.reduceAdd]
  refine late_pure (by simp) (Shp.refl _) (v := ?_) (fun _ => rfl) ?_ ?_; rotate_left; (focus (intro c9 us w9 hm9 hS9 hF; clear hF hm9; go_simp; (try with_reducible rfl); done)); simp only [Act.put, List.setIfInBounds_toArray, List.set_cons_zero, List.set_cons_succ, Nat.reduceAdd]
  refine late_pure (by simp) (Shp.refl _) (v := ?_) (fun _ => rfl) ?_ ?_; rotate_left; (focus (intro c9 us w9 hm9 hS9 hF; clear hF hm9; go_simp; (try with_reducible rfl); done)); simp only [Act.put, List.setIfInBounds_toArray, List.set_cons_zero, List.set_cons_succ, Nat.reduceAdd]
  refine late_pure (by simp) (Shp.refl _) (v := ?_) (fun _ => rfl) ?_ ?_; rotate_left; (focus (intro c9 us w9 hm9 hS9 hF; clear hF hm9; go_simp; (try with_reducible rfl); done)); simp only [Act.put, List.setIfInBounds_toArray, List.set_cons_zero, List.set_cons_succ, Nat.reduceAdd]
  refine late_pure (by simp) (Shp.refl _) (v := ?_) (fun _ => rfl) ?_ ?_; rotate_left; (focus (intro c9 us w9 hm9 hS9 hF; clear hF hm9; go_simp; (try with_reducible rfl); done)); simp only [Act.put, List.setIfInBounds_toArray, List.set_cons_zero, List.set_cons_succ, Nat.reduceAdd]
  refine late_pure (by simp) (Shp.refl _) (v := ?_) (fun _ => rfl) ?_ ?_; rotate_left; (focus (intro c9 us w9 hm9 hS9 hF; clear hF hm9; go_simp; (try with_reducible rfl); done)); simp only [Act.put, List.setIfInBounds_toArray, List.set_cons_zero, List.set_cons_succ, Nat.reduceAdd]
  refine late_pure (by simp) (Shp.refl _) (v := .int .i64 e.off) (fun _ => rfl) ?_ ?_; (focus (intro c9 us w9 hm9 hS9 hF; have b0 := (hS9.1.cell (p := ⟨g, 0, none⟩) hlg).trans c0; have b1 := (hS9.1.cell (p := ⟨g, 1, none⟩) hlg).trans c1'; have b2 := (hS9.1.cell (p := ⟨g, 2, none⟩) hlg).trans c2; have b4 := (hS9.1.cell (p := ⟨g, 4, none⟩) hlg).trans c4; clear hF hm9; go_simp; (try with_reducible rfl); done)); simp only [Act.put, List.setIfInBounds_toArray, List.set_cons_zero, List.set_cons_succ, Nat.reduceAdd]
  refine late_pure (by simp) (Shp.refl _) (v := .bool (decide (e.off < 0))) (fun _ => rfl) ?_ ?_; (focus (intro c9 us w9 hm9 hS9 hF; clear hF hm9; go_simp; (try with_reducible rfl); done)); simp only [Act.put, List.setIfInBounds_toArray, List.set_cons_zero, List.set_cons_succ, Nat.reduceAdd]
  refine late_pure (by simp) (Shp.refl _) (v := ?_) (fun _ => rfl) ?_ ?_; rotate_left; (focus (intro c9 us w9 hm9 hS9 hF; clear hF hm9; go_simp; (try with_reducible rfl); done)); simp only [Act.put, List.setIfInBounds_toArray, List.set_cons_zero, List.set_cons_succ, Nat.reduceAdd]
  refine late_fix (by simp) (v := .tuple #[.agg #[.int .i64 0, .int .u64 0, .int .u64 0], .int .i64 0, .agg (ZL), .int .i64 15]) ?_ ?_; (focus (intro c9 us w9 hm9 hS9 hF K hK; clear hF; go_simp; refine (hcon.out w9 _ _ (hI5.below hS9.1)).mono ?_; rintro e w' ⟨rfl, hb⟩; exact hK w' (hS9.below hb NoC.mono) (Shp.below hb))); simp only [Act.put, List.setIfInBounds_toArray, List.set_cons_zero, List.set_cons_succ, Nat.reduceAdd]
  refine late_pure (by simp) (Shp.refl _) (v := ?_) (fun _ => rfl) ?_ ?_; rotate_left; (focus (intro c9 us w9 hm9 hS9 hF; clear hF hm9; go_simp; (try with_reducible rfl); done)); simp only [Act.put, List.setIfInBounds_toArray, List.set_cons_zero, List.set_cons_succ, Nat.reduceAdd]
  refine late_pure (by simp) (Shp.refl _) (v := ?_) (fun _ => rfl) ?_ ?_; rotate_left; (focus (intro c9 us w9 hm9 hS9 hF; clear hF hm9; go_simp; (try with_reducible rfl); done)); simp only [Act.put, List.setIfInBounds_toArray, List.set_cons_zero, List.set_cons_succ, Nat.reduceAdd]
  refine late_pure (by simp) (Shp.refl _) (v := ?_) (fun _ => rfl) ?_ ?_; rotate_left; (focus (intro c9 us w9 hm9 hS9 hF; clear hF hm9; go_simp; (try with_reducible rfl); done)); simp only [Act.put, List.setIfInBounds_toArray, List.set_cons_zero, List.set_cons_succ, Nat.reduceAdd]
  refine late_pure (by simp) (Shp.refl _) (v := ?_) (fun _ => rfl) ?_ ?_; rotate_left; (focus (intro c9 us w9 hm9 hS9 hF; clear hF hm9; go_simp; (try with_reducible rfl); done)); simp only [Act.put, List.setIfInBounds_toArray, List.set_cons_zero, List.set_cons_succ, Nat.reduceAdd]
  refine late_pure (by simp) (Shp.refl _) (v := ?_) (fun _ => rfl) ?_ ?_; rotate_left; (focus (intro c9 us w9 hm9 hS9 hF; clear hF hm9; go_simp; (try with_reducible rfl); done)); simp only [Act.put, List.setIfInBounds_toArray, List.set_cons_zero, List.set_cons_succ, Nat.reduceAdd]
  refine late_free (by simp) (PtrN w8.heap.size 27 3) PtrN.mono ?_ ?_; (focus (intro c9 us w9 hm9 hS9 hF K hK; go_simp; exact hK _ _ (hS9.alloc NoC.mono (.cells ZS 27)) (Shp.alloc _ _ _) ⟨w9.heap.size, ZS, rfl, hS9.1.size, Row.born w9 27 ZS, rfl⟩)); simp only [Act.put, List.setIfInBounds_toArray, List.set_cons_zero, List.set_cons_succ, Nat.reduceAdd]
  refine late_free (by simp) (PtrN w8.heap.size 40 61) PtrN.mono ?_ ?_; (focus (intro c9 us w9 hm9 hS9 hF K hK; go_simp; exact hK _ _ (hS9.alloc NoC.mono (.cells ZL 40)) (Shp.alloc _ _ _) ⟨w9.heap.size, ZL, rfl, hS9.1.size, Row.born w9 40 ZL, rfl⟩)); simp only [Act.put, List.setIfInBounds_toArray, List.set_cons_zero, List.set_cons_succ, Nat.reduceAdd]
  refine late_store rfl ?_ ?_; (focus (intro us w9 hS9 hF K hK; obtain ⟨b3, cs, hu, hb3, hr, hn⟩ := hF (19, PtrN w8.heap.size 27 3) (by simp) (by kernel_rfl); simp only [hu] at hK ⊢; rw [if_pos (by rfl)]; exact step_put (L := #[.int .i64 0, .int .u64 0, .int .u64 0]) hr hn info27 (sender_one _ _ _) rfl rfl (fun w' u' r' => hK w' (hS9.st1 u' r' hu hb3 (by omega) (by omega) (fun h => trivial)) (Shp.upd u' hr r' hn)))); simp only [Nat.reduceAdd]
  refine late_pure (by simp) (Shp.refl _) (v := ?_) (fun _ => rfl) ?_ ?_; rotate_left; (focus (intro c9 us w9 hm9 hS9 hF; clear hF hm9; go_simp; (try with_reducible rfl); done)); simp only [Act.put, List.setIfInBounds_toArray, List.set_cons_zero, List.set_cons_succ, Nat.reduceAdd]
  refine late_store rfl ?_ ?_; (focus (intro us w9 hS9 hF K hK; obtain ⟨b3, cs, hu, hb3, hr, hn⟩ := hF (20, PtrN w8.heap.size 40 61) (by simp) (by kernel_rfl); simp only [hu] at hK ⊢; rw [if_pos (by rfl)]; exact step_put (L := ZL) hr (by rw [hn]; exact zl_61.symm) zl_info (zl_one) rfl rfl (fun w' u' r' => hK w' (hS9.st2 u' hr r' hu hb3 (by omega) (by omega) (by omega) (by decide)) (Shp.upd u' hr r' (by rw [hn]; exact zl_61.symm))))); simp only [Nat.reduceAdd]
  refine late_pure (by simp) (Shp.refl _) (v := ?_) (fun _ => rfl) ?_ ?_; rotate_left; (focus (intro c9 us w9 hm9 hS9 hF; clear hF hm9; go_simp; (try with_reducible rfl); done)); simp only [Act.put, List.setIfInBounds_toArray, List.set_cons_zero, List.set_cons_succ, Nat.reduceAdd]
  refine late_done fun us w10 hS8 hF => ?_
  obtain ⟨g9, hu1, hg9, r9⟩ := hS8.2.2.1 (by omega)
  obtain ⟨g11, hu2, hg11, r11⟩ := hS8.2.2.2 (by omega)
  have hBa := hS8.1
  clear hF hS8
  simp only [hu1, hu2]
  clear c0 c1' c2 c3 c4 fz hu1 hu2
  have r2 := r2.below hBa r2.lt
  have r3 := r3.below hBa r3.lt
  have hr := hr.below hBa hr.lt
  have hB6 := hB6.trans (hBa.mono hB6.size)
  have hown := hown.below hBa
  have hq := hq.keeps (ts := []) (Keeps.below hBa) (by simp)
  have hoB := hoB.below hBa
  clear hBa
  clear hr r9 r11
  go_wp2_with (first | ((with_reducible refine wp_row_store (L := ZE) r2 rfl ze_info ze_one ?_ ?_ ?_); rfl; rfl; intro w4 u4 r4) | ((with_reducible refine wp_row_store (L := ZL) (r3.upd u4 (by omega)) rfl zl_info zl_one ?_ ?_ ?_); rfl; rfl; intro w5 u5 r5))
  refine bodyPost_ret (results_cct rfl rfl rfl (r4.upd u5 (by omega)) r5 Try.underlying69 Try.underlying40 rfl rfl ze_info zl_info) rfl ?_
  exact nx_no HE.out (by decide) (Upd.below (Upd.below hB6 u4 (by omega)) u5 (by omega))
set_option maxRecDepth 100000 in
set_option maxHeartbeats 8000000 in
theorem next_more (e : LE) (A B : Option Addr) (c d : Nat) (W : World) (ht : e.ty) (hH : Held W e A c B d) (hv : vE e = true) (hq0 : 0 < e.q.length) (hf0 : 0 < fr e.n e.s e.a) (hs : e.s ≠ 4611686018427387904) (hend : nxEnd e = false) : Calls Try.prog 45 #[.agg (LEV e A c B d)] W (NxP e W) := by
  have hg0 : nxGo e = true := by simp [nxGo, hq0, hf0]
  have HE := Lib.hid (show nxE e = 0 by unfold nxE; rw [hv, hg0, if_pos rfl, if_pos rfl, if_neg hs])
  have HG := Lib.hid hg0
  have hcon := Lib.hid (send_go ht (vE_yes hv) hq0 hf0 hs)
  obtain ⟨hDs, hDi, hD1⟩ := nxD_form (frP_len (vE_yes hv) hq0)
  obtain ⟨DD, hDD⟩ : ∃ DD, nxD e = DD := ⟨_, rfl⟩
  rw [hDD] at hcon hDs hDi hD1
  have HDs := Lib.hid hDs
  have HDi := Lib.hid hDi
  have HDD := Lib.hid hDD
  clear hg0 hs hDD hDs hDi
  have hve := vE_yes hv
  have HV := Lib.hid hv
  clear hv
  have hql := hve.ql
  obtain ⟨r1, r2, r3, hB1⟩ := three_born W 69 69 40 (LEV e A c B d) ZE ZL
  go_enter Try.func45, Try.ntmps45
  go_upto_region 1 with (fail)
  change Code.wp _ _ _ _ (((W.alloc (.cells (LEV e A c B d) 69)).alloc (.cells ZE 69)).alloc (.cells ZL 40))
  generalize ((W.alloc (.cells (LEV e A c B d) 69)).alloc (.cells ZE 69)).alloc (.cells ZL 40) = w1 at *
  have hH1 := hH.below hB1
  go_upto_region 3 with (first | ((with_reducible refine wp_load_g ?_ r1.range Try.underlying69 rfl (lev_info _ _ _ _ _) ?_ ?_); rfl; rfl) | (go_at_call 101; (with_reducible refine (valid_is HV.out ht hH1).mono ?_); rintro en w2 ⟨rfl, hb⟩))
  have r1 := r1.below hb r1.lt
  have r2 := r2.below hb r2.lt
  have r3 := r3.below hb r3.lt
  have hB2 := hB1.trans (hb.mono hB1.size)
  clear hb hB1 hH1
  have r3lt := r3.lt
  have hH2 := hH.below hB2
  go_upto_region 4 with (first | ((with_reducible refine wp_load_g ?_ r1.range Try.underlying69 rfl (lev_info _ _ _ _ _) ?_ ?_); rfl; rfl) | (go_at_call 102; (with_reducible refine (open_any e _ _ _ _ _ ht hH2).mono ?_); rintro en w3 ⟨g, A1, c1, B1, dd1, vs, rfl, hWg, hr, hown, hq, hoB, hb⟩))
  have r2 := r2.below hb r2.lt
  have r3 := r3.below hb r3.lt
  have hB3 := hB2.trans (hb.mono hB2.size)
  have hWg' : W.heap.size + 2 < g := by have := r1.lt; have := hB2.size; have h3 : W.heap.size + 2 < w2.heap.size := r3lt; omega
  clear hb hH2 hB2 r1
  generalize w2.heap.size = base at *
  obtain ⟨-, ⟨c5, c6, -, -, -⟩, fz⟩ := bv_cells hr
  go_upto_region 6 with (go_at_call 38; refine (ack_any _ _ _).mono ?_; rintro en w6 ⟨rfl, hb⟩)
  have r2 := r2.below hb r2.lt
  have r3 := r3.below hb r3.lt
  have hr := hr.below hb hr.lt
  have hB6 := hB3.trans (hb.mono hB3.size)
  have hown := hown.below hb
  have hq := hq.keeps (ts := []) (Keeps.below hb) (by simp)
  have hoB := hoB.below hb
  clear hb hB3 c5 c6 fz
  have hlg := hr.lt
  have hr : Row w6 g 155 (BW e.n e.s e.a (.slice A1 e.q.length c1) e.off e.rn e.rc e.want (.slice B1 e.pt.length dd1) e.told) := hr
  obtain ⟨⟨c0, c1', c2, c3, c4⟩, ⟨c5, c6, c7, c8, c9⟩, fz⟩ := bw_cells hr
  have d0 : decide (0 < e.q.length) = true := decide_eq_true hq0
  have d1 : decide (0 < fr e.n e.s e.a) = true := decide_eq_true hf0
  go_upto_region 7 with (go_at_call 22; refine (free _ _ _ ht.s0 ht.s1 ht.a0 _).mono ?_; rintro en w7 ⟨rfl, hb⟩)
  clear c0 c1' c2 c3 c4 c5 c6 c7 c8 c9 fz
  have r2 := r2.below hb r2.lt
  have r3 := r3.below hb r3.lt
  have hr := hr.below hb hr.lt
  have hB6 := hB6.trans (hb.mono hB6.size)
  have hown := hown.below hb
  have hq := hq.keeps (ts := []) (Keeps.below hb) (by simp)
  have hoB := hoB.below hb
  clear hb
  have hM := isM_of hown hq (fun x hx => by have := hve.qm x hx; omega)
  have hfm := hve.qm _ (frM_mem hq0)
  have hoff : e.off = -1 ∨ (52 ≤ e.off ∧ e.off < (frM e).length) := by rcases hve.off with h | h; exact .inl h; exact .inr ⟨h.2.1, h.2.2.1⟩
  have hHF := Lib.hid hoff
  clear hoff
  go_upto_region 8 with (go_at_call 105; refine (frag_any g e A1 c1 _ _ hr hM hq0 hfm hHF.out).mono ?_; rintro en w8 ⟨A5, c5', rfl, hI5, hb⟩)
  clear hM
  have r2 := r2.below hb r2.lt
  have r3 := r3.below hb r3.lt
  have hr := hr.below hb hr.lt
  have hB6 := hB6.trans (hb.mono hB6.size)
  have hown := hown.below hb
  have hq := hq.keeps (ts := []) (Keeps.below hb) (by simp)
  have hoB := hoB.below hb
  clear hb
  have hlg := hr.lt
  have h3lt := r3.lt
  obtain ⟨⟨c0, c1', c2, c3, c4⟩, -, fz⟩ := bw_cells hr
  refine wp_region_late (n := 148) [21, 23] (CalS w8 21 (NoC) 1 19 27 #[.int .i64 e.n, .int .u64 (e.s + 1), .int .u64 e.a] 2 20 40 DD) (Shp w8.heap.size) (by kernel_rfl) (by kernel_rfl) (by rfl) (CalS.loc (by decide) (fun c hc => mayAt_no (d := 0) (by kernel_rfl) (by omega) (by decide)) (fun c hc => mayAt_no (d := 1) (by kernel_rfl) (by omega) (by decide))) (CalS.start (by decide) (by decide)) ?_
  refine late_pure (by simp) (Shp.refl _) (v := ?_) (fun _ => rfl) ?_ ?_; rotate_left; (focus (intro c9 us w9 hm9 hS9 hF; clear hF hm9; go_simp; (try with_reducible rfl); done)); simp only [Act.put, List.setIfInBounds_toArray, List.set_cons_zero, List.set_cons_succ, Nat.reduceAdd]
  refine late_pure (by simp) (Shp.refl _) (v := ?_) (fun _ => rfl) ?_ ?_; rotate_left; (focus (intro c9 us w9 hm9 hS9 hF; clear hF hm9; go_simp; (try with_reducible rfl); done)); simp only [Act.put, List.setIfInBounds_toArray, List.set_cons_zero, List.set_cons_succ, Nat.reduceAdd]
  refine late_pure (by simp) (Shp.refl _) (v := ?_) (fun _ => rfl) ?_ ?_; rotate_left; (focus (intro c9 us w9 hm9 hS9 hF; clear hF hm9; go_simp; (try with_reducible rfl); done)); simp only [Act.put, List.setIfInBounds_toArray, List.set_cons_zero, List.set_cons_succ, Nat.reduceAdd]
  refine late_pure (by simp) (Shp.refl _) (v := ?_) (fun _ => rfl) ?_ ?_; rotate_left; (focus (intro c9 us w9 hm9 hS9 hF; clear hF hm9; go_simp; (try with_reducible rfl); done)); simp only [Act.put, List.setIfInBounds_toArray, List.set_cons_zero, List.set_cons_succ, Nat.reduceAdd]
  refine late_pure (by simp) (Shp.refl _) (v := .agg #[.int .i64 e.n, .int .u64 e.s, .int .u64 e.a]) (fun _ => rfl) ?_ ?_; (focus (intro c9 us w9 hm9 hS9 hF; have b0 := (hS9.1.cell (p := ⟨g, 0, none⟩) hlg).trans c0; have b1 := (hS9.1.cell (p := ⟨g, 1, none⟩) hlg).trans c1'; have b2 := (hS9.1.cell (p := ⟨g, 2, none⟩) hlg).trans c2; have b4 := (hS9.1.cell (p := ⟨g, 4, none⟩) hlg).trans c4; clear hF hm9; go_simp; (try with_reducible rfl); done)); simp only [Act.put, List.setIfInBounds_toArray, List.set_cons_zero, List.set_cons_succ, Nat.reduceAdd]
  refine late_pure (by simp) (Shp.refl _) (v := ?_) (fun _ => rfl) ?_ ?_; rotate_left; (focus (intro c9 us w9 hm9 hS9 hF; clear hF hm9; go_simp; (try with_reducible rfl); done)); simp only [Act.put, List.setIfInBounds_toArray, List.set_cons_zero, List.set_cons_succ, Nat.reduceAdd]
  refine late_pure (by simp) (Shp.refl _) (v := ?_) (fun _ => rfl) ?_ ?_; rotate_left; (focus (intro c9 us w9 hm9 hS9 hF; clear hF hm9; go_simp; (try with_reducible rfl); done)); simp only [Act.put, List.setIfInBounds_toArray, List.set_cons_zero, List.set_cons_succ, Nat.reduceAdd]
  refine late_pure (by simp) (Shp.refl _) (v := ?_) (fun _ => rfl) ?_ ?_; rotate_left; (focus (intro c9 us w9 hm9 hS9 hF; clear hF hm9; go_simp; (try with_reducible rfl); done)); simp only [Act.put, List.setIfInBounds_toArray, List.set_cons_zero, List.set_cons_succ, Nat.reduceAdd]
  refine late_pure (by simp) (Shp.refl _) (v := ?_) (fun _ => rfl) ?_ ?_; rotate_left; (focus (intro c9 us w9 hm9 hS9 hF; clear hF hm9; go_simp; (try with_reducible rfl); done)); simp only [Act.put, List.setIfInBounds_toArray, List.set_cons_zero, List.set_cons_succ, Nat.reduceAdd]
  refine late_pure (by simp) (Shp.refl _) (v := ?_) (fun _ => rfl) ?_ ?_; rotate_left; (focus (intro c9 us w9 hm9 hS9 hF; clear hF hm9; go_simp; (try with_reducible rfl); done)); simp only [Act.put, List.setIfInBounds_toArray, List.set_cons_zero, List.set_cons_succ, Nat.reduceAdd]
  refine late_pure (by simp) (Shp.refl _) (v := .int .i64 e.off) (fun _ => rfl) ?_ ?_; (focus (intro c9 us w9 hm9 hS9 hF; have b0 := (hS9.1.cell (p := ⟨g, 0, none⟩) hlg).trans c0; have b1 := (hS9.1.cell (p := ⟨g, 1, none⟩) hlg).trans c1'; have b2 := (hS9.1.cell (p := ⟨g, 2, none⟩) hlg).trans c2; have b4 := (hS9.1.cell (p := ⟨g, 4, none⟩) hlg).trans c4; clear hF hm9; go_simp; (try with_reducible rfl); done)); simp only [Act.put, List.setIfInBounds_toArray, List.set_cons_zero, List.set_cons_succ, Nat.reduceAdd]
  refine late_pure (by simp) (Shp.refl _) (v := .bool (decide (e.off < 0))) (fun _ => rfl) ?_ ?_; (focus (intro c9 us w9 hm9 hS9 hF; clear hF hm9; go_simp; (try with_reducible rfl); done)); simp only [Act.put, List.setIfInBounds_toArray, List.set_cons_zero, List.set_cons_succ, Nat.reduceAdd]
  refine late_pure (by simp) (Shp.refl _) (v := ?_) (fun _ => rfl) ?_ ?_; rotate_left; (focus (intro c9 us w9 hm9 hS9 hF; clear hF hm9; go_simp; (try with_reducible rfl); done)); simp only [Act.put, List.setIfInBounds_toArray, List.set_cons_zero, List.set_cons_succ, Nat.reduceAdd]
  refine late_fix (by simp) (v := .tuple #[.agg #[.int .i64 e.n, .int .u64 (e.s + 1), .int .u64 e.a], .int .i64 (e.s % e.n), .agg (DD), .int .i64 0]) ?_ ?_; (focus (intro c9 us w9 hm9 hS9 hF K hK; clear hF; go_simp; refine (hcon.out w9 _ _ (hI5.below hS9.1)).mono ?_; rintro e w' ⟨rfl, hb⟩; exact hK w' (hS9.below hb NoC.mono) (Shp.below hb))); simp only [Act.put, List.setIfInBounds_toArray, List.set_cons_zero, List.set_cons_succ, Nat.reduceAdd]
  refine late_pure (by simp) (Shp.refl _) (v := ?_) (fun _ => rfl) ?_ ?_; rotate_left; (focus (intro c9 us w9 hm9 hS9 hF; clear hF hm9; go_simp; (try with_reducible rfl); done)); simp only [Act.put, List.setIfInBounds_toArray, List.set_cons_zero, List.set_cons_succ, Nat.reduceAdd]
  refine late_pure (by simp) (Shp.refl _) (v := ?_) (fun _ => rfl) ?_ ?_; rotate_left; (focus (intro c9 us w9 hm9 hS9 hF; clear hF hm9; go_simp; (try with_reducible rfl); done)); simp only [Act.put, List.setIfInBounds_toArray, List.set_cons_zero, List.set_cons_succ, Nat.reduceAdd]
  refine late_pure (by simp) (Shp.refl _) (v := ?_) (fun _ => rfl) ?_ ?_; rotate_left; (focus (intro c9 us w9 hm9 hS9 hF; clear hF hm9; go_simp; (try with_reducible rfl); done)); simp only [Act.put, List.setIfInBounds_toArray, List.set_cons_zero, List.set_cons_succ, Nat.reduceAdd]
  refine late_pure (by simp) (Shp.refl _) (v := ?_) (fun _ => rfl) ?_ ?_; rotate_left; (focus (intro c9 us w9 hm9 hS9 hF; clear hF hm9; go_simp; (try with_reducible rfl); done)); simp only [Act.put, List.setIfInBounds_toArray, List.set_cons_zero, List.set_cons_succ, Nat.reduceAdd]
  refine late_pure (by simp) (Shp.refl _) (v := ?_) (fun _ => rfl) ?_ ?_; rotate_left; (focus (intro c9 us w9 hm9 hS9 hF; clear hF hm9; go_simp; (try with_reducible rfl); done)); simp only [Act.put, List.setIfInBounds_toArray, List.set_cons_zero, List.set_cons_succ, Nat.reduceAdd]
  refine late_free (by simp) (PtrN w8.heap.size 27 3) PtrN.mono ?_ ?_; (focus (intro c9 us w9 hm9 hS9 hF K hK; go_simp; exact hK _ _ (hS9.alloc NoC.mono (.cells ZS 27)) (Shp.alloc _ _ _) ⟨w9.heap.size, ZS, rfl, hS9.1.size, Row.born w9 27 ZS, rfl⟩)); simp only [Act.put, List.setIfInBounds_toArray, List.set_cons_zero, List.set_cons_succ, Nat.reduceAdd]
  refine late_free (by simp) (PtrN w8.heap.size 40 61) PtrN.mono ?_ ?_; (focus (intro c9 us w9 hm9 hS9 hF K hK; go_simp; exact hK _ _ (hS9.alloc NoC.mono (.cells ZL 40)) (Shp.alloc _ _ _) ⟨w9.heap.size, ZL, rfl, hS9.1.size, Row.born w9 40 ZL, rfl⟩)); simp only [Act.put, List.setIfInBounds_toArray, List.set_cons_zero, List.set_cons_succ, Nat.reduceAdd]
  refine late_store rfl ?_ ?_; (focus (intro us w9 hS9 hF K hK; obtain ⟨b3, cs, hu, hb3, hr, hn⟩ := hF (19, PtrN w8.heap.size 27 3) (by simp) (by kernel_rfl); simp only [hu] at hK ⊢; rw [if_pos (by rfl)]; exact step_put (L := #[.int .i64 e.n, .int .u64 (e.s + 1), .int .u64 e.a]) hr hn info27 (sender_one _ _ _) rfl rfl (fun w' u' r' => hK w' (hS9.st1 u' r' hu hb3 (by omega) (by omega) (fun h => trivial)) (Shp.upd u' hr r' hn)))); simp only [Nat.reduceAdd]
  refine late_pure (by simp) (Shp.refl _) (v := ?_) (fun _ => rfl) ?_ ?_; rotate_left; (focus (intro c9 us w9 hm9 hS9 hF; clear hF hm9; go_simp; (try with_reducible rfl); done)); simp only [Act.put, List.setIfInBounds_toArray, List.set_cons_zero, List.set_cons_succ, Nat.reduceAdd]
  refine late_store rfl ?_ ?_; (focus (intro us w9 hS9 hF K hK; obtain ⟨b3, cs, hu, hb3, hr, hn⟩ := hF (20, PtrN w8.heap.size 40 61) (by simp) (by kernel_rfl); simp only [hu] at hK ⊢; rw [if_pos (by rfl)]; exact step_put (L := DD) hr (by rw [hn]; exact HDs.out) HDi.out (hD1) rfl rfl (fun w' u' r' => hK w' (hS9.st2 u' hr r' hu hb3 (by omega) (by omega) (by omega) (by decide)) (Shp.upd u' hr r' (by rw [hn]; exact HDs.out))))); simp only [Nat.reduceAdd]
  refine late_pure (by simp) (Shp.refl _) (v := ?_) (fun _ => rfl) ?_ ?_; rotate_left; (focus (intro c9 us w9 hm9 hS9 hF; clear hF hm9; go_simp; (try with_reducible rfl); done)); simp only [Act.put, List.setIfInBounds_toArray, List.set_cons_zero, List.set_cons_succ, Nat.reduceAdd]
  refine late_done fun us w10 hS8 hF => ?_
  obtain ⟨g9, hu1, hg9, r9⟩ := hS8.2.2.1 (by omega)
  obtain ⟨g11, hu2, hg11, r11⟩ := hS8.2.2.2 (by omega)
  have hBa := hS8.1
  clear hF hS8
  simp only [hu1, hu2]
  clear c0 c1' c2 c3 c4 fz hu1 hu2
  have r2 := r2.below hBa r2.lt
  have r3 := r3.below hBa r3.lt
  have hr := hr.below hBa hr.lt
  have hB6 := hB6.trans (hBa.mono hB6.size)
  have hown := hown.below hBa
  have hq := hq.keeps (ts := []) (Keeps.below hBa) (by simp)
  have hoB := hoB.below hBa
  clear hBa
  have hg11 : W.heap.size + 2 < g11 := by omega
  have hg11' : g11 ≠ g := by omega
  go_upto_region 11 with (fail)
  have r9' : Row w10.drew g9 27 #[.int .i64 e.n, .int .u64 (e.s + 1), .int .u64 e.a] := r9
  refine wp_region_late (n := 148) [8, 9, 13] (NxT W w10.drew g (W.heap.size + 2) g11 (BW e.n e.s e.a (.slice A1 e.q.length c1) e.off e.rn e.rc e.want (.slice B1 e.pt.length dd1) e.told) (BW e.n (e.s + 1) e.a (.slice A1 e.q.length c1) e.off e.rn e.rc e.want (.slice B1 e.pt.length dd1) e.told) (BW e.n (e.s + 1) e.a (.slice A1 e.q.length c1) (frS e : Int) e.rn e.rc e.want (.slice B1 e.pt.length dd1) e.told) DD) (fun _ _ => True) (by kernel_rfl) (by kernel_rfl) (by rfl) (fun _ _ _ _ _ h => h) ⟨hB6.drew, Keeps.refl _ _, r11, fun _ => hr, fun h => by omega, fun h => by omega, fun _ => r3, fun h => by omega⟩ ?_
  refine late_pure (by simp) (fun _ => trivial) (v := ?_) (fun _ => rfl) ?_ ?_; rotate_left; (focus (intro c9 us w9 hm9 hS9 hF; clear hF hm9; go_simp; (try with_reducible rfl); done)); simp only [Act.put, List.setIfInBounds_toArray, List.set_cons_zero, List.set_cons_succ, Nat.reduceAdd]
  refine late_pure (by simp) (fun _ => trivial) (v := ?_) (fun _ => rfl) ?_ ?_; rotate_left; (focus (intro c9 us w9 hm9 hS9 hF; clear hF hm9; go_simp; (try with_reducible rfl); done)); simp only [Act.put, List.setIfInBounds_toArray, List.set_cons_zero, List.set_cons_succ, Nat.reduceAdd]
  refine late_pure (by simp) (fun _ => trivial) (v := .agg #[.int .i64 e.n, .int .u64 (e.s + 1), .int .u64 e.a]) (fun _ => rfl) ?_ ?_; (focus (intro c9 us w9 hm9 hS9 hF; exact exec_load_g (hS9.2.1.row r9' (by decide)).range Try.underlying27 rfl info27 rfl)); simp only [Act.put, List.setIfInBounds_toArray, List.set_cons_zero, List.set_cons_succ, Nat.reduceAdd]
  refine late_pure (by simp) (fun _ => trivial) (v := .agg DD) (fun _ => rfl) ?_ ?_; (focus (intro c9 us w9 hm9 hS9 hF; exact exec_load_g hS9.2.2.1.range Try.underlying40 rfl HDi.out rfl)); simp only [Act.put, List.setIfInBounds_toArray, List.set_cons_zero, List.set_cons_succ, Nat.reduceAdd]
  refine late_pure (by simp) (fun _ => trivial) (v := ?_) (fun _ => rfl) ?_ ?_; rotate_left; (focus (intro c9 us w9 hm9 hS9 hF; clear hF hm9; go_simp; (try with_reducible rfl); done)); simp only [Act.put, List.setIfInBounds_toArray, List.set_cons_zero, List.set_cons_succ, Nat.reduceAdd]
  refine late_pure (by simp) (fun _ => trivial) (v := ?_) (fun _ => rfl) ?_ ?_; rotate_left; (focus (intro c9 us w9 hm9 hS9 hF; clear hF hm9; go_simp; (try with_reducible rfl); done)); simp only [Act.put, List.setIfInBounds_toArray, List.set_cons_zero, List.set_cons_succ, Nat.reduceAdd]
  refine late_pure (by simp) (fun _ => trivial) (v := ?_) (fun _ => rfl) ?_ ?_; rotate_left; (focus (intro c9 us w9 hm9 hS9 hF; clear hF hm9; go_simp; (try with_reducible rfl); done)); simp only [Act.put, List.setIfInBounds_toArray, List.set_cons_zero, List.set_cons_succ, Nat.reduceAdd]
  refine late_pure (by simp) (fun _ => trivial) (v := ?_) (fun _ => rfl) ?_ ?_; rotate_left; (focus (intro c9 us w9 hm9 hS9 hF; clear hF hm9; go_simp; (try with_reducible rfl); done)); simp only [Act.put, List.setIfInBounds_toArray, List.set_cons_zero, List.set_cons_succ, Nat.reduceAdd]
  refine late_store rfl ?_ ?_; (focus (intro us w9 hS9 hF K hK; clear hF; rw [if_pos (by rfl)]; exact step_put_mid (pre := []) (cs := [.int .i64 e.n, .int .u64 e.s, .int .u64 e.a]) (post := [.slice A1 e.q.length c1, .int .i64 e.off, .int .i64 e.rn, .int .u64 e.rc, .int .i64 e.want, .slice B1 e.pt.length dd1, .int .u64 e.told]) (L := #[.int .i64 e.n, .int .u64 (e.s + 1), .int .u64 e.a]) (hS9.2.2.2.1 rfl) rfl rfl info27 (sender_one _ _ _) rfl rfl (fun w' u' r' => hK w' (hS9.one u' r' (by omega) (by omega) (by omega)) trivial))); simp only [Nat.reduceAdd]
  refine late_store rfl ?_ ?_; (focus (intro us w9 hS9 hF K hK; clear hF; rw [if_pos (by rfl)]; exact step_put (L := DD) (hS9.2.2.2.2.2.2.1 (by omega)) (zl_61.trans HDs.out) HDi.out hD1 rfl rfl (fun w' u' r' => hK w' (hS9.two u' r' (by omega) (by omega) (by omega)) trivial))); simp only [Nat.reduceAdd]
  refine late_pure (by simp) (fun _ => trivial) (v := ?_) (fun _ => rfl) ?_ ?_; rotate_left; (focus (intro c9 us w9 hm9 hS9 hF; clear hF hm9; go_simp; (try with_reducible rfl); done)); simp only [Act.put, List.setIfInBounds_toArray, List.set_cons_zero, List.set_cons_succ, Nat.reduceAdd]
  refine late_pure (by simp) (fun _ => trivial) (v := ?_) (fun _ => rfl) ?_ ?_; rotate_left; (focus (intro c9 us w9 hm9 hS9 hF; clear hF hm9; go_simp; (try with_reducible rfl); done)); simp only [Act.put, List.setIfInBounds_toArray, List.set_cons_zero, List.set_cons_succ, Nat.reduceAdd]
  refine late_pure (by simp) (fun _ => trivial) (v := ?_) (fun _ => rfl) ?_ ?_; rotate_left; (focus (intro c9 us w9 hm9 hS9 hF; clear hF hm9; go_simp; (try with_reducible rfl); done)); simp only [Act.put, List.setIfInBounds_toArray, List.set_cons_zero, List.set_cons_succ, Nat.reduceAdd]
  refine late_store rfl ?_ ?_; (focus (intro us w9 hS9 hF K hK; clear hF; have hr9 := hS9.2.2.2.2.1 (by omega) (by omega); have k4 := hr9.cell 4; have f4 := hr9.frozen 4; simp only [BW] at k4; have hS10 := hS9.three (Upd.setCell w9 g 4 (.int .i64 (frS e : Int))) (hr9.set 4 _) (by omega) (by omega) (by omega); go_simp; exact hK _ hS10 trivial)); simp only [Nat.reduceAdd]
  refine late_done fun us12 w12 hS12 hF => ?_
  have hB12 := hS12.1
  have hk := hS12.2.1
  have hr := hS12.2.2.2.2.2.1 (by omega)
  have r3 := hS12.2.2.2.2.2.2.2 (by omega)
  clear hF hS12
  have r2 := hk.row (show Row w10.drew _ _ _ from r2) (by decide)
  have hown := OwnV.keeps (show OwnV w10.drew base 44 1 A1 e.q.length c1 vs from hown) hk (by decide)
  have hq := QV.keeps (show QV w10.drew base vs e.q from hq) hk (by decide)
  have hoB := OwnB.keeps (show OwnB w10.drew base 5 B1 e.pt.length dd1 e.pt from hoB) hk (by decide)
  clear hk r9 r9' r11 hB6
  have hM := isM_of hown hq (fun x hx => by have := hve.qm x hx; omega)
  obtain ⟨b, o, hA, hrow⟩ := hM.2 hq0
  subst hA
  obtain ⟨A0, C0, x, -, -, -⟩ := hrow 0 hq0
  rw [← frM_eq hq0] at x
  have x : w12.cell? ⟨b, o, none⟩ = some (.slice A0 (frM e).length C0) := x
  have hi0 : (0 : Int) < e.q.length := by omega
  clear hrow
  obtain ⟨⟨c0, c1', c2, c3, c4⟩, ⟨c5, c6, c7, c8, c9⟩, fz⟩ := bw_cells hr
  have dE : ((frS e : Int) == ((frM e).length : Int)) = false := by
    rw [beq_eq_false_iff_ne]
    have h := hend
    unfold nxEnd at h
    rw [beq_eq_false_iff_ne] at h
    omega
  have hGe : nxG e = { e with s := e.s + 1, off := (frS e : Int), told := e.rc } := by unfold nxG; rw [hend]; rfl
  have HGe := Lib.hid hGe
  clear hGe hend
  go_upto_region 16 with (fail)
  go_upto_region 17 with (fail)
  have hkb : Keeps [155] w12 (w12.setCell ⟨g, 9, none⟩ (.int .u64 e.rc)) := Keeps.upd (Upd.setCell w12 g 9 (.int .u64 e.rc)) hr (by simp)
  have hr9 := hr.set 9 (.int .u64 e.rc)
  have r2 := hkb.row r2 (by decide)
  have r3 := hkb.row r3 (by decide)
  have hBb := Upd.below hB12 (Upd.setCell w12 g 9 (.int .u64 e.rc)) (by omega)
  have hown := hown.keeps hkb (by decide)
  have hq := hq.keeps hkb (by decide)
  have hoB := hoB.keeps hkb (by decide)
  generalize w12.setCell ⟨g, 9, none⟩ (.int .u64 e.rc) = wb at *
  clear c0 c1' c2 c3 c4 c5 c6 c7 c8 c9 fz hkb hB12 hr
  have hr9 : Row wb g 155 (LBV (nxG e) (some ⟨b, o, none⟩) c1 B1 dd1) := by
    rw [HGe.out]
    exact hr9
  obtain ⟨e', he'⟩ : ∃ e', nxG e = e' := ⟨_, rfl⟩
  rw [he'] at hr9
  have HP := Lib.hid he'
  clear he'
  have hr : Row wb.drew g 155 (LBV e' (some ⟨b, o, none⟩) c1 B1 dd1) := hr9
  have r2 : Row wb.drew (W.heap.size + 1) 69 ZE := r2
  have r3 : Row wb.drew (W.heap.size + 2) 40 DD := r3
  have hBb : Below W.heap.size W wb.drew := hBb.drew
  have hown : OwnV wb.drew base 44 1 (some ⟨b, o, none⟩) e.q.length c1 vs := hown
  have hq : QV wb.drew base vs e.q := hq
  have hoB : OwnB wb.drew base 5 B1 e.pt.length dd1 e.pt := hoB
  have hL1 := hD1
  refine wp_region_late (n := 148) [3, 4] (NxS W wb.drew (W.heap.size + 2) (W.heap.size + 1) (DD) (LEV e' (some ⟨b, o, none⟩) c1 B1 dd1)) (fun _ _ => True) (by kernel_rfl) (by kernel_rfl) (by rfl) (fun _ _ _ _ _ h => h) ⟨hBb, Keeps.refl _ _, r3, fun _ => r2, fun h => by omega⟩ ?_
  refine late_pure (by simp) (fun _ => trivial) (v := ?_) (fun _ => rfl) ?_ ?_; rotate_left; (focus (intro c9 us w9 hm9 hS9 hF; clear hF hm9; go_simp; (try with_reducible rfl); done)); simp only [Act.put, List.setIfInBounds_toArray, List.set_cons_zero, List.set_cons_succ, Nat.reduceAdd]
  refine late_fix (by simp) (v := .agg (LEV e' (some ⟨b, o, none⟩) c1 B1 dd1)) ?_ ?_; (focus (intro c9 us w9 hm9 hS9 hF K hK; clear hF; go_simp; refine (end_any g e' _ _ _ _ _ (hS9.2.1.row hr (by decide))).mono ?_; rintro en w' ⟨rfl, hb⟩; exact hK w' (hS9.below hb) trivial)); simp only [Act.put, List.setIfInBounds_toArray, List.set_cons_zero, List.set_cons_succ, Nat.reduceAdd]
  refine late_pure (by simp) (fun _ => trivial) (v := .agg (DD)) (fun _ => rfl) ?_ ?_; (focus (intro c9 us w9 hm9 hS9 hF; exact exec_load_g hS9.2.2.1.range Try.underlying40 rfl HDi.out rfl)); simp only [Act.put, List.setIfInBounds_toArray, List.set_cons_zero, List.set_cons_succ, Nat.reduceAdd]
  refine late_store rfl ?_ ?_; (focus (intro us w9 hS9 hF K hK; clear hF; rw [if_pos (by rfl)]; exact step_put (L := LEV e' (some ⟨b, o, none⟩) c1 B1 dd1) (hS9.2.2.2.1 rfl) rfl (lev_info _ _ _ _ _) (lev_one _ _ _ _ _) rfl rfl (fun w' u' r' => hK w' (hS9.one u' r' (by omega) (by omega)) trivial))); simp only [Nat.reduceAdd]
  refine late_store rfl ?_ ?_; (focus (intro us w9 hS9 hF K hK; clear hF; rw [if_pos (by rfl)]; exact step_put (L := DD) hS9.2.2.1 rfl HDi.out hL1 rfl rfl (fun w' u' r' => hK w' (hS9.two u' r' (by omega) (by omega)) trivial))); simp only [Nat.reduceAdd]
  refine late_pure (by simp) (fun _ => trivial) (v := ?_) (fun _ => rfl) ?_ ?_; rotate_left; (focus (intro c9 us w9 hm9 hS9 hF; clear hF hm9; go_simp; (try with_reducible rfl); done)); simp only [Act.put, List.setIfInBounds_toArray, List.set_cons_zero, List.set_cons_succ, Nat.reduceAdd]
  refine late_done fun us8 w8 hS8 hF => ?_
  have rr3 := hS8.2.2.1
  have rr2 := hS8.2.2.2.2 (by omega)
  have hB8 := hS8.1
  have hk := hS8.2.1
  clear hF hS8
  go_wp2
  refine bodyPost_ret (results_cct rfl rfl rfl rr2 rr3 Try.underlying69 Try.underlying40 rfl rfl (lev_info _ _ _ _ _) HDi.out) rfl ?_
  have hWb : W.heap.size ≤ base := by omega
  have h' := HP.out
  subst h'
  have hM8 := fun w' hw' => isM_of ((hown.keeps hk (by decide)).stay (w' := w') hWb hw') ((hq.keeps hk (by decide)).stay hWb hw') (fun x hx => by have := hve.qm x hx; omega)
  have hf := nx_go HE.out HG.out (A := some ⟨b, o, none⟩) (B := B1) (c := c1) (d := dd1) ⟨Nat.le_refl _, fun w' hw' => ⟨by rw [HGe.out]; exact hM8 w' hw', by rw [HGe.out]; exact hown.cap, by rw [HGe.out]; exact ((hoB.keeps hk (by decide)).stay hWb hw').isB, by rw [HGe.out]; exact hoB.capM⟩⟩ hB8
  rw [HDD.out] at hf
  exact hf
set_option maxRecDepth 100000 in
set_option maxHeartbeats 8000000 in
theorem next_end1 (e : LE) (A B : Option Addr) (c d : Nat) (W : World) (ht : e.ty) (hH : Held W e A c B d) (hv : vE e = true) (hq0 : 0 < e.q.length) (hf0 : 0 < fr e.n e.s e.a) (hs : e.s ≠ 4611686018427387904) (hend : nxEnd e = true) : Calls Try.prog 45 #[.agg (LEV e A c B d)] W (NxP e W) := by
  have hg0 : nxGo e = true := by simp [nxGo, hq0, hf0]
  have HE := Lib.hid (show nxE e = 0 by unfold nxE; rw [hv, hg0, if_pos rfl, if_pos rfl, if_neg hs])
  have HG := Lib.hid hg0
  have hcon := Lib.hid (send_go ht (vE_yes hv) hq0 hf0 hs)
  obtain ⟨hDs, hDi, hD1⟩ := nxD_form (frP_len (vE_yes hv) hq0)
  obtain ⟨DD, hDD⟩ : ∃ DD, nxD e = DD := ⟨_, rfl⟩
  rw [hDD] at hcon hDs hDi hD1
  have HDs := Lib.hid hDs
  have HDi := Lib.hid hDi
  have HDD := Lib.hid hDD
  clear hg0 hs hDD hDs hDi
  have hve := vE_yes hv
  have HV := Lib.hid hv
  clear hv
  have hql := hve.ql
  obtain ⟨r1, r2, r3, hB1⟩ := three_born W 69 69 40 (LEV e A c B d) ZE ZL
  go_enter Try.func45, Try.ntmps45
  go_upto_region 1 with (fail)
  change Code.wp _ _ _ _ (((W.alloc (.cells (LEV e A c B d) 69)).alloc (.cells ZE 69)).alloc (.cells ZL 40))
  generalize ((W.alloc (.cells (LEV e A c B d) 69)).alloc (.cells ZE 69)).alloc (.cells ZL 40) = w1 at *
  have hH1 := hH.below hB1
  go_upto_region 3 with (first | ((with_reducible refine wp_load_g ?_ r1.range Try.underlying69 rfl (lev_info _ _ _ _ _) ?_ ?_); rfl; rfl) | (go_at_call 101; (with_reducible refine (valid_is HV.out ht hH1).mono ?_); rintro en w2 ⟨rfl, hb⟩))
  have r1 := r1.below hb r1.lt
  have r2 := r2.below hb r2.lt
  have r3 := r3.below hb r3.lt
  have hB2 := hB1.trans (hb.mono hB1.size)
  clear hb hB1 hH1
  have r3lt := r3.lt
  have hH2 := hH.below hB2
  go_upto_region 4 with (first | ((with_reducible refine wp_load_g ?_ r1.range Try.underlying69 rfl (lev_info _ _ _ _ _) ?_ ?_); rfl; rfl) | (go_at_call 102; (with_reducible refine (open_any e _ _ _ _ _ ht hH2).mono ?_); rintro en w3 ⟨g, A1, c1, B1, dd1, vs, rfl, hWg, hr, hown, hq, hoB, hb⟩))
  have r2 := r2.below hb r2.lt
  have r3 := r3.below hb r3.lt
  have hB3 := hB2.trans (hb.mono hB2.size)
  have hWg' : W.heap.size + 2 < g := by have := r1.lt; have := hB2.size; have h3 : W.heap.size + 2 < w2.heap.size := r3lt; omega
  clear hb hH2 hB2 r1
  generalize w2.heap.size = base at *
  obtain ⟨-, ⟨c5, c6, -, -, -⟩, fz⟩ := bv_cells hr
  go_upto_region 6 with (go_at_call 38; refine (ack_any _ _ _).mono ?_; rintro en w6 ⟨rfl, hb⟩)
  have r2 := r2.below hb r2.lt
  have r3 := r3.below hb r3.lt
  have hr := hr.below hb hr.lt
  have hB6 := hB3.trans (hb.mono hB3.size)
  have hown := hown.below hb
  have hq := hq.keeps (ts := []) (Keeps.below hb) (by simp)
  have hoB := hoB.below hb
  clear hb hB3 c5 c6 fz
  have hlg := hr.lt
  have hr : Row w6 g 155 (BW e.n e.s e.a (.slice A1 e.q.length c1) e.off e.rn e.rc e.want (.slice B1 e.pt.length dd1) e.told) := hr
  obtain ⟨⟨c0, c1', c2, c3, c4⟩, ⟨c5, c6, c7, c8, c9⟩, fz⟩ := bw_cells hr
  have d0 : decide (0 < e.q.length) = true := decide_eq_true hq0
  have d1 : decide (0 < fr e.n e.s e.a) = true := decide_eq_true hf0
  go_upto_region 7 with (go_at_call 22; refine (free _ _ _ ht.s0 ht.s1 ht.a0 _).mono ?_; rintro en w7 ⟨rfl, hb⟩)
  clear c0 c1' c2 c3 c4 c5 c6 c7 c8 c9 fz
  have r2 := r2.below hb r2.lt
  have r3 := r3.below hb r3.lt
  have hr := hr.below hb hr.lt
  have hB6 := hB6.trans (hb.mono hB6.size)
  have hown := hown.below hb
  have hq := hq.keeps (ts := []) (Keeps.below hb) (by simp)
  have hoB := hoB.below hb
  clear hb
  have hM := isM_of hown hq (fun x hx => by have := hve.qm x hx; omega)
  have hfm := hve.qm _ (frM_mem hq0)
  have hoff : e.off = -1 ∨ (52 ≤ e.off ∧ e.off < (frM e).length) := by rcases hve.off with h | h; exact .inl h; exact .inr ⟨h.2.1, h.2.2.1⟩
  have hHF := Lib.hid hoff
  clear hoff
  go_upto_region 8 with (go_at_call 105; refine (frag_any g e A1 c1 _ _ hr hM hq0 hfm hHF.out).mono ?_; rintro en w8 ⟨A5, c5', rfl, hI5, hb⟩)
  clear hM
  have r2 := r2.below hb r2.lt
  have r3 := r3.below hb r3.lt
  have hr := hr.below hb hr.lt
  have hB6 := hB6.trans (hb.mono hB6.size)
  have hown := hown.below hb
  have hq := hq.keeps (ts := []) (Keeps.below hb) (by simp)
  have hoB := hoB.below hb
  clear hb
  have hlg := hr.lt
  have h3lt := r3.lt
  obtain ⟨⟨c0, c1', c2, c3, c4⟩, -, fz⟩ := bw_cells hr
  refine wp_region_late (n := 148) [21, 23] (CalS w8 21 (NoC) 1 19 27 #[.int .i64 e.n, .int .u64 (e.s + 1), .int .u64 e.a] 2 20 40 DD) (Shp w8.heap.size) (by kernel_rfl) (by kernel_rfl) (by rfl) (CalS.loc (by decide) (fun c hc => mayAt_no (d := 0) (by kernel_rfl) (by omega) (by decide)) (fun c hc => mayAt_no (d := 1) (by kernel_rfl) (by omega) (by decide))) (CalS.start (by decide) (by decide)) ?_
  refine late_pure (by simp) (Shp.refl _) (v := ?_) (fun _ => rfl) ?_ ?_; rotate_left; (focus (intro c9 us w9 hm9 hS9 hF; clear hF hm9; go_simp; (try with_reducible rfl); done)); simp only [Act.put, List.setIfInBounds_toArray, List.set_cons_zero, List.set_cons_succ, Nat.reduceAdd]
  refine late_pure (by simp) (Shp.refl _) (v := ?_) (fun _ => rfl) ?_ ?_; rotate_left; (focus (intro c9 us w9 hm9 hS9 hF; clear hF hm9; go_simp; (try with_reducible rfl); done)); simp only [Act.put, List.setIfInBounds_toArray, List.set_cons_zero, List.set_cons_succ, Nat.reduceAdd]
  refine late_pure (by simp) (Shp.refl _) (v := ?_) (fun _ => rfl) ?_ ?_; rotate_left; (focus (intro c9 us w9 hm9 hS9 hF; clear hF hm9; go_simp; (try with_reducible rfl); done)); simp only [Act.put, List.setIfInBounds_toArray, List.set_cons_zero, List.set_cons_succ, Nat.reduceAdd]
  refine late_pure (by simp) (Shp.refl _) (v := ?_) (fun _ => rfl) ?_ ?_; rotate_left; (focus (intro c9 us w9 hm9 hS9 hF; clear hF hm9; go_simp; (try with_reducible rfl); done)); simp only [Act.put, List.setIfInBounds_toArray, List.set_cons_zero, List.set_cons_succ, Nat.reduceAdd]
  refine late_pure (by simp) (Shp.refl _) (v := .agg #[.int .i64 e.n, .int .u64 e.s, .int .u64 e.a]) (fun _ => rfl) ?_ ?_; (focus (intro c9 us w9 hm9 hS9 hF; have b0 := (hS9.1.cell (p := ⟨g, 0, none⟩) hlg).trans c0; have b1 := (hS9.1.cell (p := ⟨g, 1, none⟩) hlg).trans c1'; have b2 := (hS9.1.cell (p := ⟨g, 2, none⟩) hlg).trans c2; have b4 := (hS9.1.cell (p := ⟨g, 4, none⟩) hlg).trans c4; clear hF hm9; go_simp; (try with_reducible rfl); done)); simp only [Act.put, List.setIfInBounds_toArray, List.set_cons_zero, List.set_cons_succ, Nat.reduceAdd]
  refine late_pure (by simp) (Shp.refl _) (v := ?_) (fun _ => rfl) ?_ ?_; rotate_left; (focus (intro c9 us w9 hm9 hS9 hF; clear hF hm9; go_simp; (try with_reducible rfl); done)); simp only [Act.put, List.setIfInBounds_toArray, List.set_cons_zero, List.set_cons_succ, Nat.reduceAdd]
  refine late_pure (by simp) (Shp.refl _) (v := ?_) (fun _ => rfl) ?_ ?_; rotate_left; (focus (intro c9 us w9 hm9 hS9 hF; clear hF hm9; go_simp; (try with_reducible rfl); done)); simp only [Act.put, List.setIfInBounds_toArray, List.set_cons_zero, List.set_cons_succ, Nat.reduceAdd]
  refine late_pure (by simp) (Shp.refl _) (v := ?_) (fun _ => rfl) ?_ ?_; rotate_left; (focus (intro c9 us w9 hm9 hS9 hF; clear hF hm9; go_simp; (try with_reducible rfl); done)); simp only [Act.put, List.setIfInBounds_toArray, List.set_cons_zero, List.set_cons_succ, Nat.reduceAdd]
  refine late_pure (by simp) (Shp.refl _) (v := ?_) (fun _ => rfl) ?_ ?_; rotate_left; (focus (intro c9 us w9 hm9 hS9 hF; clear hF hm9; go_simp; (try with_reducible rfl); done)); simp only [Act.put, List.setIfInBounds_toArray, List.set_cons_zero, List.set_cons_succ, Nat.reduceAdd]
  refine late_pure (by simp) (Shp.refl _) (v := ?_) (fun _ => rfl) ?_ ?_; rotate_left; (focus (intro c9 us w9 hm9 hS9 hF; clear hF hm9; go_simp; (try with_reducible rfl); done)); simp only [Act.put, List.setIfInBounds_toArray, List.set_cons_zero, List.set_cons_succ, Nat.reduceAdd]
  refine late_pure (by simp) (Shp.refl _) (v := .int .i64 e.off) (fun _ => rfl) ?_ ?_; (focus (intro c9 us w9 hm9 hS9 hF; have b0 := (hS9.1.cell (p := ⟨g, 0, none⟩) hlg).trans c0; have b1 := (hS9.1.cell (p := ⟨g, 1, none⟩) hlg).trans c1'; have b2 := (hS9.1.cell (p := ⟨g, 2, none⟩) hlg).trans c2; have b4 := (hS9.1.cell (p := ⟨g, 4, none⟩) hlg).trans c4; clear hF hm9; go_simp; (try with_reducible rfl); done)); simp only [Act.put, List.setIfInBounds_toArray, List.set_cons_zero, List.set_cons_succ, Nat.reduceAdd]
  refine late_pure (by simp) (Shp.refl _) (v := .bool (decide (e.off < 0))) (fun _ => rfl) ?_ ?_; (focus (intro c9 us w9 hm9 hS9 hF; clear hF hm9; go_simp; (try with_reducible rfl); done)); simp only [Act.put, List.setIfInBounds_toArray, List.set_cons_zero, List.set_cons_succ, Nat.reduceAdd]
  refine late_pure (by simp) (Shp.refl _) (v := ?_) (fun _ => rfl) ?_ ?_; rotate_left; (focus (intro c9 us w9 hm9 hS9 hF; clear hF hm9; go_simp; (try with_reducible rfl); done)); simp only [Act.put, List.setIfInBounds_toArray, List.set_cons_zero, List.set_cons_succ, Nat.reduceAdd]
  refine late_fix (by simp) (v := .tuple #[.agg #[.int .i64 e.n, .int .u64 (e.s + 1), .int .u64 e.a], .int .i64 (e.s % e.n), .agg (DD), .int .i64 0]) ?_ ?_; (focus (intro c9 us w9 hm9 hS9 hF K hK; clear hF; go_simp; refine (hcon.out w9 _ _ (hI5.below hS9.1)).mono ?_; rintro e w' ⟨rfl, hb⟩; exact hK w' (hS9.below hb NoC.mono) (Shp.below hb))); simp only [Act.put, List.setIfInBounds_toArray, List.set_cons_zero, List.set_cons_succ, Nat.reduceAdd]
  refine late_pure (by simp) (Shp.refl _) (v := ?_) (fun _ => rfl) ?_ ?_; rotate_left; (focus (intro c9 us w9 hm9 hS9 hF; clear hF hm9; go_simp; (try with_reducible rfl); done)); simp only [Act.put, List.setIfInBounds_toArray, List.set_cons_zero, List.set_cons_succ, Nat.reduceAdd]
  refine late_pure (by simp) (Shp.refl _) (v := ?_) (fun _ => rfl) ?_ ?_; rotate_left; (focus (intro c9 us w9 hm9 hS9 hF; clear hF hm9; go_simp; (try with_reducible rfl); done)); simp only [Act.put, List.setIfInBounds_toArray, List.set_cons_zero, List.set_cons_succ, Nat.reduceAdd]
  refine late_pure (by simp) (Shp.refl _) (v := ?_) (fun _ => rfl) ?_ ?_; rotate_left; (focus (intro c9 us w9 hm9 hS9 hF; clear hF hm9; go_simp; (try with_reducible rfl); done)); simp only [Act.put, List.setIfInBounds_toArray, List.set_cons_zero, List.set_cons_succ, Nat.reduceAdd]
  refine late_pure (by simp) (Shp.refl _) (v := ?_) (fun _ => rfl) ?_ ?_; rotate_left; (focus (intro c9 us w9 hm9 hS9 hF; clear hF hm9; go_simp; (try with_reducible rfl); done)); simp only [Act.put, List.setIfInBounds_toArray, List.set_cons_zero, List.set_cons_succ, Nat.reduceAdd]
  refine late_pure (by simp) (Shp.refl _) (v := ?_) (fun _ => rfl) ?_ ?_; rotate_left; (focus (intro c9 us w9 hm9 hS9 hF; clear hF hm9; go_simp; (try with_reducible rfl); done)); simp only [Act.put, List.setIfInBounds_toArray, List.set_cons_zero, List.set_cons_succ, Nat.reduceAdd]
  refine late_free (by simp) (PtrN w8.heap.size 27 3) PtrN.mono ?_ ?_; (focus (intro c9 us w9 hm9 hS9 hF K hK; go_simp; exact hK _ _ (hS9.alloc NoC.mono (.cells ZS 27)) (Shp.alloc _ _ _) ⟨w9.heap.size, ZS, rfl, hS9.1.size, Row.born w9 27 ZS, rfl⟩)); simp only [Act.put, List.setIfInBounds_toArray, List.set_cons_zero, List.set_cons_succ, Nat.reduceAdd]
  refine late_free (by simp) (PtrN w8.heap.size 40 61) PtrN.mono ?_ ?_; (focus (intro c9 us w9 hm9 hS9 hF K hK; go_simp; exact hK _ _ (hS9.alloc NoC.mono (.cells ZL 40)) (Shp.alloc _ _ _) ⟨w9.heap.size, ZL, rfl, hS9.1.size, Row.born w9 40 ZL, rfl⟩)); simp only [Act.put, List.setIfInBounds_toArray, List.set_cons_zero, List.set_cons_succ, Nat.reduceAdd]
  refine late_store rfl ?_ ?_; (focus (intro us w9 hS9 hF K hK; obtain ⟨b3, cs, hu, hb3, hr, hn⟩ := hF (19, PtrN w8.heap.size 27 3) (by simp) (by kernel_rfl); simp only [hu] at hK ⊢; rw [if_pos (by rfl)]; exact step_put (L := #[.int .i64 e.n, .int .u64 (e.s + 1), .int .u64 e.a]) hr hn info27 (sender_one _ _ _) rfl rfl (fun w' u' r' => hK w' (hS9.st1 u' r' hu hb3 (by omega) (by omega) (fun h => trivial)) (Shp.upd u' hr r' hn)))); simp only [Nat.reduceAdd]
  refine late_pure (by simp) (Shp.refl _) (v := ?_) (fun _ => rfl) ?_ ?_; rotate_left; (focus (intro c9 us w9 hm9 hS9 hF; clear hF hm9; go_simp; (try with_reducible rfl); done)); simp only [Act.put, List.setIfInBounds_toArray, List.set_cons_zero, List.set_cons_succ, Nat.reduceAdd]
  refine late_store rfl ?_ ?_; (focus (intro us w9 hS9 hF K hK; obtain ⟨b3, cs, hu, hb3, hr, hn⟩ := hF (20, PtrN w8.heap.size 40 61) (by simp) (by kernel_rfl); simp only [hu] at hK ⊢; rw [if_pos (by rfl)]; exact step_put (L := DD) hr (by rw [hn]; exact HDs.out) HDi.out (hD1) rfl rfl (fun w' u' r' => hK w' (hS9.st2 u' hr r' hu hb3 (by omega) (by omega) (by omega) (by decide)) (Shp.upd u' hr r' (by rw [hn]; exact HDs.out))))); simp only [Nat.reduceAdd]
  refine late_pure (by simp) (Shp.refl _) (v := ?_) (fun _ => rfl) ?_ ?_; rotate_left; (focus (intro c9 us w9 hm9 hS9 hF; clear hF hm9; go_simp; (try with_reducible rfl); done)); simp only [Act.put, List.setIfInBounds_toArray, List.set_cons_zero, List.set_cons_succ, Nat.reduceAdd]
  refine late_done fun us w10 hS8 hF => ?_
  obtain ⟨g9, hu1, hg9, r9⟩ := hS8.2.2.1 (by omega)
  obtain ⟨g11, hu2, hg11, r11⟩ := hS8.2.2.2 (by omega)
  have hBa := hS8.1
  clear hF hS8
  simp only [hu1, hu2]
  clear c0 c1' c2 c3 c4 fz hu1 hu2
  have r2 := r2.below hBa r2.lt
  have r3 := r3.below hBa r3.lt
  have hr := hr.below hBa hr.lt
  have hB6 := hB6.trans (hBa.mono hB6.size)
  have hown := hown.below hBa
  have hq := hq.keeps (ts := []) (Keeps.below hBa) (by simp)
  have hoB := hoB.below hBa
  clear hBa
  have hg11 : W.heap.size + 2 < g11 := by omega
  have hg11' : g11 ≠ g := by omega
  go_upto_region 11 with (fail)
  have r9' : Row w10.drew g9 27 #[.int .i64 e.n, .int .u64 (e.s + 1), .int .u64 e.a] := r9
  refine wp_region_late (n := 148) [8, 9, 13] (NxT W w10.drew g (W.heap.size + 2) g11 (BW e.n e.s e.a (.slice A1 e.q.length c1) e.off e.rn e.rc e.want (.slice B1 e.pt.length dd1) e.told) (BW e.n (e.s + 1) e.a (.slice A1 e.q.length c1) e.off e.rn e.rc e.want (.slice B1 e.pt.length dd1) e.told) (BW e.n (e.s + 1) e.a (.slice A1 e.q.length c1) (frS e : Int) e.rn e.rc e.want (.slice B1 e.pt.length dd1) e.told) DD) (fun _ _ => True) (by kernel_rfl) (by kernel_rfl) (by rfl) (fun _ _ _ _ _ h => h) ⟨hB6.drew, Keeps.refl _ _, r11, fun _ => hr, fun h => by omega, fun h => by omega, fun _ => r3, fun h => by omega⟩ ?_
  refine late_pure (by simp) (fun _ => trivial) (v := ?_) (fun _ => rfl) ?_ ?_; rotate_left; (focus (intro c9 us w9 hm9 hS9 hF; clear hF hm9; go_simp; (try with_reducible rfl); done)); simp only [Act.put, List.setIfInBounds_toArray, List.set_cons_zero, List.set_cons_succ, Nat.reduceAdd]
  refine late_pure (by simp) (fun _ => trivial) (v := ?_) (fun _ => rfl) ?_ ?_; rotate_left; (focus (intro c9 us w9 hm9 hS9 hF; clear hF hm9; go_simp; (try with_reducible rfl); done)); simp only [Act.put, List.setIfInBounds_toArray, List.set_cons_zero, List.set_cons_succ, Nat.reduceAdd]
  refine late_pure (by simp) (fun _ => trivial) (v := .agg #[.int .i64 e.n, .int .u64 (e.s + 1), .int .u64 e.a]) (fun _ => rfl) ?_ ?_; (focus (intro c9 us w9 hm9 hS9 hF; exact exec_load_g (hS9.2.1.row r9' (by decide)).range Try.underlying27 rfl info27 rfl)); simp only [Act.put, List.setIfInBounds_toArray, List.set_cons_zero, List.set_cons_succ, Nat.reduceAdd]
  refine late_pure (by simp) (fun _ => trivial) (v := .agg DD) (fun _ => rfl) ?_ ?_; (focus (intro c9 us w9 hm9 hS9 hF; exact exec_load_g hS9.2.2.1.range Try.underlying40 rfl HDi.out rfl)); simp only [Act.put, List.setIfInBounds_toArray, List.set_cons_zero, List.set_cons_succ, Nat.reduceAdd]
  refine late_pure (by simp) (fun _ => trivial) (v := ?_) (fun _ => rfl) ?_ ?_; rotate_left; (focus (intro c9 us w9 hm9 hS9 hF; clear hF hm9; go_simp; (try with_reducible rfl); done)); simp only [Act.put, List.setIfInBounds_toArray, List.set_cons_zero, List.set_cons_succ, Nat.reduceAdd]
  refine late_pure (by simp) (fun _ => trivial) (v := ?_) (fun _ => rfl) ?_ ?_; rotate_left; (focus (intro c9 us w9 hm9 hS9 hF; clear hF hm9; go_simp; (try with_reducible rfl); done)); simp only [Act.put, List.setIfInBounds_toArray, List.set_cons_zero, List.set_cons_succ, Nat.reduceAdd]
  refine late_pure (by simp) (fun _ => trivial) (v := ?_) (fun _ => rfl) ?_ ?_; rotate_left; (focus (intro c9 us w9 hm9 hS9 hF; clear hF hm9; go_simp; (try with_reducible rfl); done)); simp only [Act.put, List.setIfInBounds_toArray, List.set_cons_zero, List.set_cons_succ, Nat.reduceAdd]
  refine late_pure (by simp) (fun _ => trivial) (v := ?_) (fun _ => rfl) ?_ ?_; rotate_left; (focus (intro c9 us w9 hm9 hS9 hF; clear hF hm9; go_simp; (try with_reducible rfl); done)); simp only [Act.put, List.setIfInBounds_toArray, List.set_cons_zero, List.set_cons_succ, Nat.reduceAdd]
  refine late_store rfl ?_ ?_; (focus (intro us w9 hS9 hF K hK; clear hF; rw [if_pos (by rfl)]; exact step_put_mid (pre := []) (cs := [.int .i64 e.n, .int .u64 e.s, .int .u64 e.a]) (post := [.slice A1 e.q.length c1, .int .i64 e.off, .int .i64 e.rn, .int .u64 e.rc, .int .i64 e.want, .slice B1 e.pt.length dd1, .int .u64 e.told]) (L := #[.int .i64 e.n, .int .u64 (e.s + 1), .int .u64 e.a]) (hS9.2.2.2.1 rfl) rfl rfl info27 (sender_one _ _ _) rfl rfl (fun w' u' r' => hK w' (hS9.one u' r' (by omega) (by omega) (by omega)) trivial))); simp only [Nat.reduceAdd]
  refine late_store rfl ?_ ?_; (focus (intro us w9 hS9 hF K hK; clear hF; rw [if_pos (by rfl)]; exact step_put (L := DD) (hS9.2.2.2.2.2.2.1 (by omega)) (zl_61.trans HDs.out) HDi.out hD1 rfl rfl (fun w' u' r' => hK w' (hS9.two u' r' (by omega) (by omega) (by omega)) trivial))); simp only [Nat.reduceAdd]
  refine late_pure (by simp) (fun _ => trivial) (v := ?_) (fun _ => rfl) ?_ ?_; rotate_left; (focus (intro c9 us w9 hm9 hS9 hF; clear hF hm9; go_simp; (try with_reducible rfl); done)); simp only [Act.put, List.setIfInBounds_toArray, List.set_cons_zero, List.set_cons_succ, Nat.reduceAdd]
  refine late_pure (by simp) (fun _ => trivial) (v := ?_) (fun _ => rfl) ?_ ?_; rotate_left; (focus (intro c9 us w9 hm9 hS9 hF; clear hF hm9; go_simp; (try with_reducible rfl); done)); simp only [Act.put, List.setIfInBounds_toArray, List.set_cons_zero, List.set_cons_succ, Nat.reduceAdd]
  refine late_pure (by simp) (fun _ => trivial) (v := ?_) (fun _ => rfl) ?_ ?_; rotate_left; (focus (intro c9 us w9 hm9 hS9 hF; clear hF hm9; go_simp; (try with_reducible rfl); done)); simp only [Act.put, List.setIfInBounds_toArray, List.set_cons_zero, List.set_cons_succ, Nat.reduceAdd]
  refine late_store rfl ?_ ?_; (focus (intro us w9 hS9 hF K hK; clear hF; have hr9 := hS9.2.2.2.2.1 (by omega) (by omega); have k4 := hr9.cell 4; have f4 := hr9.frozen 4; simp only [BW] at k4; have hS10 := hS9.three (Upd.setCell w9 g 4 (.int .i64 (frS e : Int))) (hr9.set 4 _) (by omega) (by omega) (by omega); go_simp; exact hK _ hS10 trivial)); simp only [Nat.reduceAdd]
  refine late_done fun us12 w12 hS12 hF => ?_
  have hB12 := hS12.1
  have hk := hS12.2.1
  have hr := hS12.2.2.2.2.2.1 (by omega)
  have r3 := hS12.2.2.2.2.2.2.2 (by omega)
  clear hF hS12
  have r2 := hk.row (show Row w10.drew _ _ _ from r2) (by decide)
  have hown := OwnV.keeps (show OwnV w10.drew base 44 1 A1 e.q.length c1 vs from hown) hk (by decide)
  have hq := QV.keeps (show QV w10.drew base vs e.q from hq) hk (by decide)
  have hoB := OwnB.keeps (show OwnB w10.drew base 5 B1 e.pt.length dd1 e.pt from hoB) hk (by decide)
  clear hk r9 r9' r11 hB6
  have hM := isM_of hown hq (fun x hx => by have := hve.qm x hx; omega)
  obtain ⟨b, o, hA, hrow⟩ := hM.2 hq0
  subst hA
  obtain ⟨A0, C0, x, -, -, -⟩ := hrow 0 hq0
  rw [← frM_eq hq0] at x
  have x : w12.cell? ⟨b, o, none⟩ = some (.slice A0 (frM e).length C0) := x
  have hi0 : (0 : Int) < e.q.length := by omega
  clear hrow
  obtain ⟨⟨c0, c1', c2, c3, c4⟩, ⟨c5, c6, c7, c8, c9⟩, fz⟩ := bw_cells hr
  have dE : ((frS e : Int) == ((frM e).length : Int)) = true := by
    rw [beq_iff_eq]
    have h := hend
    unfold nxEnd at h
    rw [beq_iff_eq] at h
    omega
  have hGe : nxG e = { e with s := e.s + 1, off := -1, q := e.q.tail, told := e.rc } := by unfold nxG; rw [hend]; rfl
  have HGe := Lib.hid hGe
  clear hGe hend
  have hcap := hown.cap
  rcases Nat.lt_or_ge 1 c1 with hc1 | hc1
  · have hci : (1 : Int) ≤ e.q.length := by omega
    have hcj : (1 : Int) ≤ c1 := by omega
    have hck : 1 ≤ e.q.length := by omega
    have hcn : (c1 - 1 = 0) = False := by simp; omega
    go_upto_region 16 with (fail)
    clear hci hcj hck hcn c0 c1' c2 c3 c4 c5 c6 c7 c8 c9 fz
    have u13 := (Upd.setCell w12 g 3 (.slice (some ⟨b, o + 1, none⟩) (e.q.length - 1) (c1 - 1))).trans (Upd.setCell _ g 4 (.int .i64 (-1)))
    have hr13 := (hr.set 3 (.slice (some ⟨b, o + 1, none⟩) (e.q.length - 1) (c1 - 1))).set 4 (.int .i64 (-1))
    have hk13 : Keeps [155] w12 _ := Keeps.upd u13 hr (by simp)
    have hB12 := Upd.below hB12 u13 (by omega)
    have r2 := hk13.row r2 (by decide)
    have r3 := hk13.row r3 (by decide)
    have hown := hown.keeps hk13 (by decide)
    have hq := hq.keeps hk13 (by decide)
    have hoB := hoB.keeps hk13 (by decide)
    clear u13 hk13 hr
    generalize (w12.setCell ⟨g, 3, none⟩ (.slice (some ⟨b, o + 1, none⟩) (e.q.length - 1) (c1 - 1))).setCell ⟨g, 4, none⟩ (.int .i64 (-1)) = w13 at *
    have hr : Row w13 g 155 (BW e.n (e.s + 1) e.a (.slice (some ⟨b, o + 1, none⟩) (e.q.length - 1) (c1 - 1)) (-1) e.rn e.rc e.want (.slice B1 e.pt.length dd1) e.told) := hr13
    clear hr13
    obtain ⟨⟨c0, c1', c2, c3, c4⟩, ⟨c5, c6, c7, c8, c9⟩, fz⟩ := bw_cells hr
    go_upto_region 17 with (fail)
    have hkb : Keeps [155] w13 (w13.setCell ⟨g, 9, none⟩ (.int .u64 e.rc)) := Keeps.upd (Upd.setCell w13 g 9 (.int .u64 e.rc)) hr (by simp)
    have hr9 := hr.set 9 (.int .u64 e.rc)
    have r2 := hkb.row r2 (by decide)
    have r3 := hkb.row r3 (by decide)
    have hBb := Upd.below hB12 (Upd.setCell w13 g 9 (.int .u64 e.rc)) (by omega)
    have hown := hown.keeps hkb (by decide)
    have hq := hq.keeps hkb (by decide)
    have hoB := hoB.keeps hkb (by decide)
    generalize w13.setCell ⟨g, 9, none⟩ (.int .u64 e.rc) = wb at *
    clear c0 c1' c2 c3 c4 c5 c6 c7 c8 c9 fz hkb hB12 hr
    have hr9 : Row wb g 155 (LBV (nxG e) (some ⟨b, o + 1, none⟩) (c1 - 1) B1 dd1) := by
      rw [HGe.out]
      unfold LBV
      simp only [List.length_tail]
      exact hr9
    obtain ⟨e', he'⟩ : ∃ e', nxG e = e' := ⟨_, rfl⟩
    rw [he'] at hr9
    have HP := Lib.hid he'
    clear he'
    have hr : Row wb.drew g 155 (LBV e' (some ⟨b, o + 1, none⟩) (c1 - 1) B1 dd1) := hr9
    have r2 : Row wb.drew (W.heap.size + 1) 69 ZE := r2
    have r3 : Row wb.drew (W.heap.size + 2) 40 DD := r3
    have hBb : Below W.heap.size W wb.drew := hBb.drew
    have hown : OwnV wb.drew base 44 1 (some ⟨b, o, none⟩) e.q.length c1 vs := hown
    have hq : QV wb.drew base vs e.q := hq
    have hoB : OwnB wb.drew base 5 B1 e.pt.length dd1 e.pt := hoB
    have hL1 := hD1
    refine wp_region_late (n := 148) [3, 4] (NxS W wb.drew (W.heap.size + 2) (W.heap.size + 1) (DD) (LEV e' (some ⟨b, o + 1, none⟩) (c1 - 1) B1 dd1)) (fun _ _ => True) (by kernel_rfl) (by kernel_rfl) (by rfl) (fun _ _ _ _ _ h => h) ⟨hBb, Keeps.refl _ _, r3, fun _ => r2, fun h => by omega⟩ ?_
    refine late_pure (by simp) (fun _ => trivial) (v := ?_) (fun _ => rfl) ?_ ?_; rotate_left; (focus (intro c9 us w9 hm9 hS9 hF; clear hF hm9; go_simp; (try with_reducible rfl); done)); simp only [Act.put, List.setIfInBounds_toArray, List.set_cons_zero, List.set_cons_succ, Nat.reduceAdd]
    refine late_fix (by simp) (v := .agg (LEV e' (some ⟨b, o + 1, none⟩) (c1 - 1) B1 dd1)) ?_ ?_; (focus (intro c9 us w9 hm9 hS9 hF K hK; clear hF; go_simp; refine (end_any g e' _ _ _ _ _ (hS9.2.1.row hr (by decide))).mono ?_; rintro en w' ⟨rfl, hb⟩; exact hK w' (hS9.below hb) trivial)); simp only [Act.put, List.setIfInBounds_toArray, List.set_cons_zero, List.set_cons_succ, Nat.reduceAdd]
    refine late_pure (by simp) (fun _ => trivial) (v := .agg (DD)) (fun _ => rfl) ?_ ?_; (focus (intro c9 us w9 hm9 hS9 hF; exact exec_load_g hS9.2.2.1.range Try.underlying40 rfl HDi.out rfl)); simp only [Act.put, List.setIfInBounds_toArray, List.set_cons_zero, List.set_cons_succ, Nat.reduceAdd]
    refine late_store rfl ?_ ?_; (focus (intro us w9 hS9 hF K hK; clear hF; rw [if_pos (by rfl)]; exact step_put (L := LEV e' (some ⟨b, o + 1, none⟩) (c1 - 1) B1 dd1) (hS9.2.2.2.1 rfl) rfl (lev_info _ _ _ _ _) (lev_one _ _ _ _ _) rfl rfl (fun w' u' r' => hK w' (hS9.one u' r' (by omega) (by omega)) trivial))); simp only [Nat.reduceAdd]
    refine late_store rfl ?_ ?_; (focus (intro us w9 hS9 hF K hK; clear hF; rw [if_pos (by rfl)]; exact step_put (L := DD) hS9.2.2.1 rfl HDi.out hL1 rfl rfl (fun w' u' r' => hK w' (hS9.two u' r' (by omega) (by omega)) trivial))); simp only [Nat.reduceAdd]
    refine late_pure (by simp) (fun _ => trivial) (v := ?_) (fun _ => rfl) ?_ ?_; rotate_left; (focus (intro c9 us w9 hm9 hS9 hF; clear hF hm9; go_simp; (try with_reducible rfl); done)); simp only [Act.put, List.setIfInBounds_toArray, List.set_cons_zero, List.set_cons_succ, Nat.reduceAdd]
    refine late_done fun us8 w8 hS8 hF => ?_
    have rr3 := hS8.2.2.1
    have rr2 := hS8.2.2.2.2 (by omega)
    have hB8 := hS8.1
    have hk := hS8.2.1
    clear hF hS8
    go_wp2
    refine bodyPost_ret (results_cct rfl rfl rfl rr2 rr3 Try.underlying69 Try.underlying40 rfl rfl (lev_info _ _ _ _ _) HDi.out) rfl ?_
    have hWb : W.heap.size ≤ base := by omega
    have h' := HP.out
    subst h'
    have hM8 := fun w' hw' => isM_of ((hown.keeps hk (by decide)).stay (w' := w') hWb hw') ((hq.keeps hk (by decide)).stay hWb hw') (fun x hx => by have := hve.qm x hx; omega)
    have hf := nx_go HE.out HG.out (A := some ⟨b, o + 1, none⟩) (B := B1) (c := c1 - 1) (d := dd1) ⟨Nat.le_refl _, fun w' hw' => ⟨by rw [HGe.out]; simpa using (hM8 w' hw').tail hq0, by rw [HGe.out]; simp; omega, by rw [HGe.out]; exact ((hoB.keeps hk (by decide)).stay hWb hw').isB, by rw [HGe.out]; exact hoB.capM⟩⟩ hB8
    rw [HDD.out] at hf
    exact hf
  · obtain rfl : c1 = 1 := by omega
    have hql1 : e.q.length = 1 := by omega
    rw [hql1] at c3
    go_upto_region 16 with (fail)
    have HQ1 := Lib.hid hql1
    clear hql1 c0 c1' c2 c3 c4 c5 c6 c7 c8 c9 fz
    have u13 := (Upd.setCell w12 g 3 (.slice (some ⟨b, o, none⟩) 0 0)).trans (Upd.setCell _ g 4 (.int .i64 (-1)))
    have hr13 := (hr.set 3 (.slice (some ⟨b, o, none⟩) 0 0)).set 4 (.int .i64 (-1))
    have hk13 : Keeps [155] w12 _ := Keeps.upd u13 hr (by simp)
    have hB12 := Upd.below hB12 u13 (by omega)
    have r2 := hk13.row r2 (by decide)
    have r3 := hk13.row r3 (by decide)
    have hown := hown.keeps hk13 (by decide)
    have hq := hq.keeps hk13 (by decide)
    have hoB := hoB.keeps hk13 (by decide)
    clear u13 hk13 hr
    generalize (w12.setCell ⟨g, 3, none⟩ (.slice (some ⟨b, o, none⟩) 0 0)).setCell ⟨g, 4, none⟩ (.int .i64 (-1)) = w13 at *
    have hr : Row w13 g 155 (BW e.n (e.s + 1) e.a (.slice (some ⟨b, o, none⟩) 0 0) (-1) e.rn e.rc e.want (.slice B1 e.pt.length dd1) e.told) := hr13
    clear hr13
    obtain ⟨⟨c0, c1', c2, c3, c4⟩, ⟨c5, c6, c7, c8, c9⟩, fz⟩ := bw_cells hr
    go_upto_region 17 with (fail)
    have hkb : Keeps [155] w13 (w13.setCell ⟨g, 9, none⟩ (.int .u64 e.rc)) := Keeps.upd (Upd.setCell w13 g 9 (.int .u64 e.rc)) hr (by simp)
    have hr9 := hr.set 9 (.int .u64 e.rc)
    have r2 := hkb.row r2 (by decide)
    have r3 := hkb.row r3 (by decide)
    have hBb := Upd.below hB12 (Upd.setCell w13 g 9 (.int .u64 e.rc)) (by omega)
    have hown := hown.keeps hkb (by decide)
    have hq := hq.keeps hkb (by decide)
    have hoB := hoB.keeps hkb (by decide)
    generalize w13.setCell ⟨g, 9, none⟩ (.int .u64 e.rc) = wb at *
    clear c0 c1' c2 c3 c4 c5 c6 c7 c8 c9 fz hkb hB12 hr
    have hr9 : Row wb g 155 (LBV (nxG e) (some ⟨b, o, none⟩) 0 B1 dd1) := by
      rw [HGe.out]
      unfold LBV
      simp only [List.length_tail, HQ1.out]
      exact hr9
    obtain ⟨e', he'⟩ : ∃ e', nxG e = e' := ⟨_, rfl⟩
    rw [he'] at hr9
    have HP := Lib.hid he'
    clear he'
    have hr : Row wb.drew g 155 (LBV e' (some ⟨b, o, none⟩) 0 B1 dd1) := hr9
    have r2 : Row wb.drew (W.heap.size + 1) 69 ZE := r2
    have r3 : Row wb.drew (W.heap.size + 2) 40 DD := r3
    have hBb : Below W.heap.size W wb.drew := hBb.drew
    have hown : OwnV wb.drew base 44 1 (some ⟨b, o, none⟩) e.q.length 1 vs := hown
    have hq : QV wb.drew base vs e.q := hq
    have hoB : OwnB wb.drew base 5 B1 e.pt.length dd1 e.pt := hoB
    have hL1 := hD1
    refine wp_region_late (n := 148) [3, 4] (NxS W wb.drew (W.heap.size + 2) (W.heap.size + 1) (DD) (LEV e' (some ⟨b, o, none⟩) 0 B1 dd1)) (fun _ _ => True) (by kernel_rfl) (by kernel_rfl) (by rfl) (fun _ _ _ _ _ h => h) ⟨hBb, Keeps.refl _ _, r3, fun _ => r2, fun h => by omega⟩ ?_
    refine late_pure (by simp) (fun _ => trivial) (v := ?_) (fun _ => rfl) ?_ ?_; rotate_left; (focus (intro c9 us w9 hm9 hS9 hF; clear hF hm9; go_simp; (try with_reducible rfl); done)); simp only [Act.put, List.setIfInBounds_toArray, List.set_cons_zero, List.set_cons_succ, Nat.reduceAdd]
    refine late_fix (by simp) (v := .agg (LEV e' (some ⟨b, o, none⟩) 0 B1 dd1)) ?_ ?_; (focus (intro c9 us w9 hm9 hS9 hF K hK; clear hF; go_simp; refine (end_any g e' _ _ _ _ _ (hS9.2.1.row hr (by decide))).mono ?_; rintro en w' ⟨rfl, hb⟩; exact hK w' (hS9.below hb) trivial)); simp only [Act.put, List.setIfInBounds_toArray, List.set_cons_zero, List.set_cons_succ, Nat.reduceAdd]
    refine late_pure (by simp) (fun _ => trivial) (v := .agg (DD)) (fun _ => rfl) ?_ ?_; (focus (intro c9 us w9 hm9 hS9 hF; exact exec_load_g hS9.2.2.1.range Try.underlying40 rfl HDi.out rfl)); simp only [Act.put, List.setIfInBounds_toArray, List.set_cons_zero, List.set_cons_succ, Nat.reduceAdd]
    refine late_store rfl ?_ ?_; (focus (intro us w9 hS9 hF K hK; clear hF; rw [if_pos (by rfl)]; exact step_put (L := LEV e' (some ⟨b, o, none⟩) 0 B1 dd1) (hS9.2.2.2.1 rfl) rfl (lev_info _ _ _ _ _) (lev_one _ _ _ _ _) rfl rfl (fun w' u' r' => hK w' (hS9.one u' r' (by omega) (by omega)) trivial))); simp only [Nat.reduceAdd]
    refine late_store rfl ?_ ?_; (focus (intro us w9 hS9 hF K hK; clear hF; rw [if_pos (by rfl)]; exact step_put (L := DD) hS9.2.2.1 rfl HDi.out hL1 rfl rfl (fun w' u' r' => hK w' (hS9.two u' r' (by omega) (by omega)) trivial))); simp only [Nat.reduceAdd]
    refine late_pure (by simp) (fun _ => trivial) (v := ?_) (fun _ => rfl) ?_ ?_; rotate_left; (focus (intro c9 us w9 hm9 hS9 hF; clear hF hm9; go_simp; (try with_reducible rfl); done)); simp only [Act.put, List.setIfInBounds_toArray, List.set_cons_zero, List.set_cons_succ, Nat.reduceAdd]
    refine late_done fun us8 w8 hS8 hF => ?_
    have rr3 := hS8.2.2.1
    have rr2 := hS8.2.2.2.2 (by omega)
    have hB8 := hS8.1
    have hk := hS8.2.1
    clear hF hS8
    go_wp2
    refine bodyPost_ret (results_cct rfl rfl rfl rr2 rr3 Try.underlying69 Try.underlying40 rfl rfl (lev_info _ _ _ _ _) HDi.out) rfl ?_
    have hWb : W.heap.size ≤ base := by omega
    have h' := HP.out
    subst h'
    have hM8 := fun w' hw' => isM_of ((hown.keeps hk (by decide)).stay (w' := w') hWb hw') ((hq.keeps hk (by decide)).stay hWb hw') (fun x hx => by have := hve.qm x hx; omega)
    have htl : e.q.tail = [] := List.eq_nil_of_length_eq_zero (by rw [List.length_tail, HQ1.out])
    have hf := nx_go HE.out HG.out (A := some ⟨b, o, none⟩) (B := B1) (c := 0) (d := dd1) ⟨Nat.le_refl _, fun w' hw' => ⟨by rw [HGe.out]; simp only [htl]; exact ⟨rfl, fun h => by simp at h⟩, by rw [HGe.out]; simp [htl], by rw [HGe.out]; exact ((hoB.keeps hk (by decide)).stay hWb hw').isB, by rw [HGe.out]; exact hoB.capM⟩⟩ hB8
    rw [HDD.out] at hf
    exact hf
theorem next (e : LE) (A B : Option Addr) (c d : Nat) (W : World) (ht : e.ty) (hH : Held W e A c B d) : Calls Try.prog 45 #[.agg (LEV e A c B d)] W (NxP e W) := by
  by_cases hv : vE e = true
  · have hve := vE_yes hv
    by_cases hq0 : 0 < e.q.length
    · by_cases hf0 : 0 < fr e.n e.s e.a
      · by_cases hs : e.s = 4611686018427387904
        · exact next_lim e A B c d W ht hH hv hq0 hf0 hs
        · cases hend : nxEnd e
          · exact next_more e A B c d W ht hH hv hq0 hf0 hs hend
          · exact next_end1 e A B c d W ht hH hv hq0 hf0 hs hend
      · by_cases hc : e.rn / 2 ≤ e.rc - e.told
        · exact next_f0y e A B c d W ht hH hv hq0 (by omega) hc
        · exact next_f0n e A B c d W ht hH hv hq0 (by omega) (by omega)
    · by_cases hc : e.rn / 2 ≤ e.rc - e.told
      · exact next_q0y e A B c d W ht hH hv (by omega) hc
      · exact next_q0n e A B c d W ht hH hv (by omega) (by omega)
  · exact next_v e A B c d W ht hH (by simpa using hv)
end Go.Proofs.Ythjkhambmgepdaa
