/- Links: the example of the chapter. -/
import Derived.Test.YthjkhambmgepdaaMc
namespace Go.Proofs.Ythjkhambmgepdaa
open Go.RowKit
set_option linter.unusedVariables false
def zer (n : Nat) : List UInt8 := List.replicate n 0
def aw1 : LE := { newL 4 with q := [zer 100] }
def aw2 : LE := ⟨4, 1, 0, 4, 0, [zer 100], 52, -1, [], 0⟩
def aw3 : LE := ⟨4, 2, 0, 4, 0, [], -1, -1, [], 0⟩
def awL1 : Array Value := LV 1 true true 56 0 (frP aw1 ++ z56.drop (frP aw1).length)
def awL2 : Array Value := LV 1 true false 48 0 (frP aw2 ++ z56.drop (frP aw2).length)
theorem ty_new (n : Int) : (newL n).ty := ⟨by simp [newL], by simp [newL], by simp [newL], by simp [newL], by simp [newL], by simp [newL], by simp [newL], by simp [newL], by simp [newL], by simp [newL], by simp [newL], by simp [newL], by simp [newL], by simp [newL], by simp [newL]⟩
theorem ty_aw1 : aw1.ty := ⟨by decide, by decide, by decide, by decide, by decide, by decide, by decide, by decide, by decide, by decide, by decide, by decide, by decide, by simp [aw1, zer], by decide⟩
theorem ty_aw2 : aw2.ty := ⟨by decide, by decide, by decide, by decide, by decide, by decide, by decide, by decide, by decide, by decide, by decide, by decide, by decide, by simp [aw2, zer], by decide⟩
theorem ty_aw3 : aw3.ty := ⟨by decide, by decide, by decide, by decide, by decide, by decide, by decide, by decide, by decide, by decide, by decide, by decide, by decide, by simp [aw3], by decide⟩
theorem aw_e0 : enqE (newL 4) (zer 100) = 0 := by decide +kernel
theorem aw_l0 : enqL (newL 4) (zer 100) = aw1 := by unfold enqL; rw [if_pos aw_e0]; rfl
theorem aw_e1 : nxE aw1 = 0 := by decide +kernel
theorem aw_e2 : nxE aw2 = 0 := by decide +kernel
theorem aw_e3 : nxE aw3 = 17 := by decide +kernel
theorem aw_g1 : nxGo aw1 = true := by decide +kernel
theorem aw_g2 : nxGo aw2 = true := by decide +kernel
theorem aw_n1 : nxG aw1 = aw2 := by kernel_rfl
theorem aw_n2 : nxG aw2 = aw3 := by kernel_rfl
theorem aw_l1 : nxL aw1 = aw2 := by unfold nxL; rw [if_pos aw_e1, if_pos aw_g1, aw_n1]
theorem aw_l2 : nxL aw2 = aw3 := by unfold nxL; rw [if_pos aw_e2, if_pos aw_g2, aw_n2]
theorem aw_l3 : nxL aw3 = zeL := by unfold nxL; rw [if_neg (by rw [aw_e3]; decide)]
theorem aw_d1 : nxD aw1 = awL1 := by kernel_rfl
theorem aw_d2 : nxD aw2 = awL2 := by kernel_rfl
theorem aw_v1 : nxV aw1 = awL1 := by unfold nxV; rw [if_pos aw_e1, if_pos aw_g1, aw_d1]
theorem aw_v2 : nxV aw2 = awL2 := by unfold nxV; rw [if_pos aw_e2, if_pos aw_g2, aw_d2]
theorem aw_v3 : nxV aw3 = ZL := by unfold nxV; rw [if_neg (by rw [aw_e3]; decide)]
theorem aw_i3 : idleE aw3 = true := by decide +kernel
theorem aw_p1 : (frP aw1 ++ z56.drop (frP aw1).length).length = 56 := by decide +kernel
theorem aw_p2 : (frP aw2 ++ z56.drop (frP aw2).length).length = 56 := by decide +kernel
theorem awL1_sz : awL1.size = 61 := LV_size _ _ _ _ _ aw_p1
theorem awL1_info : (Try.prog.info? 40).map (·.size) = some awL1.size := line_info _ _ _ _ _ aw_p1
theorem awL1_one : awL1.all (·.oneCell') = true := LV_one _ _ _ _ _ _
theorem awL2_sz : awL2.size = 61 := LV_size _ _ _ _ _ aw_p2
theorem awL2_info : (Try.prog.info? 40).map (·.size) = some awL2.size := line_info _ _ _ _ _ aw_p2
theorem awL2_one : awL2.all (·.oneCell') = true := LV_one _ _ _ _ _ _
theorem vl4 : vl 4 = true := by decide
/-- The end's variable in block g: its cells, and that what they name does not lie there. -/
def EvI (w : World) (g : Nat) (e : LE) (A : Option Addr) (c : Nat) (B : Option Addr) (d : Nat) : Prop := Row w g 69 (LEV e A c B d) ∧ ∃ lo hi, (g < lo ∨ hi ≤ g) ∧ HeldI w lo hi e A c B d
theorem EvI.below {w w' : World} {g : Nat} {e : LE} {A B : Option Addr} {c d : Nat} (h : EvI w g e A c B d) (hb : Below w.heap.size w w') : EvI w' g e A c B d := by
  obtain ⟨h1, lo, hi, h2, h3⟩ := h
  exact ⟨h1.below hb h1.lt, lo, hi, h2, h3.below hb⟩
theorem EvI.held {w : World} {g : Nat} {e : LE} {A B : Option Addr} {c d : Nat} (h : EvI w g e A c B d) : Held w e A c B d := by
  obtain ⟨h1, lo, hi, h2, h3⟩ := h
  exact h3.held
/-- Stored behind a call. -/
theorem EvI.put {w0 w1 w2 : World} {g : Nat} {e : LE} {A B : Option Addr} {c d : Nat} (hg : g < w0.heap.size) (h : HeldI w1 w0.heap.size w1.heap.size e A c B d) (hb : Below w1.heap.size w1 w2) {w3 : World} (u : Upd w2 w3 g) (r : Row w3 g 69 (LEV e A c B d)) : EvI w3 g e A c B d :=
  ⟨r, _, _, .inl hg, (h.below hb).upd u (.inl hg)⟩
set_option maxRecDepth 100000 in
set_option maxHeartbeats 8000000 in
theorem awake20 (W : World) : Calls Try.prog 44 #[] W (True1 W) := by
  go_enter Try.func44, Try.ntmps44
  go_upto_region 2 with (first | (go_at_call 41; refine (new_is vl4 _).mono ?_; rintro en w1 ⟨rfl, hb⟩) | ((with_reducible refine wp_row_store (L := LEV (newL 4) none 0 none 0) (Row.bornAt (g := w1.heap.size) rfl 69 _) ?_ (lev_info _ _ _ _ _) (lev_one _ _ _ _ _) ?_ ?_ ?_); rfl; rfl; rfl; intro wa ua ra))
  have hBW := Upd.below (hb.trans (((Below.refl w1.heap.size w1).alloc (Nat.le_refl _) _).mono hb.size)) ua hb.size
  have hgW := hb.size
  have hg1 := ra.lt
  generalize w1.heap.size = g1 at *
  clear hb ua
  have hBW : Below W.heap.size W wa.drew := hBW.drew
  have hg1 : g1 < wa.drew.heap.size := hg1
  have hev : EvI wa.drew g1 (newL 4) none 0 none 0 := ⟨ra, 0, 0, .inr (Nat.zero_le _), Nat.zero_le _, fun w' _ => held_new 4 w'⟩
  obtain ⟨w1, hw1⟩ : ∃ w1, wa.drew = w1 := ⟨_, rfl⟩
  refine wp_region_late (n := 80) [1, 2, 3, 4, 6] (Ch5 (fun w => Below wa.drew.heap.size wa.drew w ∧ EvI w g1 (newL 4) none 0 none 0) 1 (fun u w => Below wa.drew.heap.size wa.drew w ∧ EvI w g1 (newL 4) none 0 none 0 ∧ CpB 100 (zer 100) u w) 2 (fun u w => Below wa.drew.heap.size wa.drew w ∧ Row w g1 69 (LEV (newL 4) none 0 none 0) ∧ ∃ A c B d, u = .tuple #[.agg (LEV aw1 A c B d), .int .i64 0] ∧ HeldI w wa.drew.heap.size w.heap.size aw1 A c B d) 3 (fun u w => Below wa.drew.heap.size wa.drew w ∧ Row w g1 69 (LEV (newL 4) none 0 none 0) ∧ ∃ A c B d, u = .tuple #[.agg (LEV aw1 A c B d), .int .i64 0] ∧ HeldI w wa.drew.heap.size w.heap.size aw1 A c B d) 4 (fun u w => Below wa.drew.heap.size wa.drew w ∧ Row w g1 69 (LEV (newL 4) none 0 none 0) ∧ ∃ A c B d, u = .agg (LEV aw1 A c B d) ∧ HeldI w wa.drew.heap.size w.heap.size aw1 A c B d) 4 (fun _ w => Below W.heap.size W w ∧ ∃ A c B d, EvI w g1 aw1 A c B d)) (fun _ _ => True) (by kernel_rfl) (by kernel_rfl) (by rfl) (Ch5.loc (by decide) (by decide) (by decide) (by decide) (fun c hc => mayAt_no (d := 4) (by kernel_rfl) (by omega) (by decide))) (Ch5.zero ⟨Below.refl _ _, hev⟩) ?_
  refine late_pure (by simp) (fun _ => trivial) (v := .agg (LEV (newL 4) none 0 none 0)) (fun _ => rfl) ?_ ?_; (focus (intro c9 us w9 hm9 hS9 hF; have hc9 : c9 < 2 := (by rcases Nat.lt_or_ge c9 2 with h9 | h9; exact h9; exact absurd hm9 (by rw [mayAt_no (d := 1) (by kernel_rfl) (by omega) (by decide)]; decide)); have hrow : Row w9 g1 69 (LEV (newL 4) none 0 none 0) := (by rcases (show c9 = 0 ∨ c9 = 1 by omega) with h | h; exact (hS9.1 h).2.1; exact (hS9.2.1 h).2.1.1); exact exec_load_g hrow.range Try.underlying69 rfl (lev_info _ _ _ _ _) rfl)); simp only [Act.put, List.setIfInBounds_toArray, List.set_cons_zero, List.set_cons_succ, Nat.reduceAdd]
  refine late_chain_is (fun _ => True) (by simp) ?_ ?_; (focus (intro us w9 hS9 hF K hK; clear hF; have h0 := hS9.1 rfl; rw [if_pos (by rfl)]; exact step_make (P := Try.prog) 100 Try.underlying44 info_b (by decide) (by decide) rfl rfl rfl rfl (fun w' h1 h2 => hK _ w' trivial (Ch5.one ⟨below_on h0.1 h2, h0.2.below h2, ⟨some ⟨w9.heap.size, 0, none⟩, 100, by simp, Nat.le_refl _, h1⟩⟩) trivial))); simp only [Act.put, List.setIfInBounds_toArray, List.set_cons_zero, List.set_cons_succ, Nat.reduceAdd]
  refine late_chain_is (fun _ => True) (by simp) ?_ ?_; (focus (intro us w9 hS9 hF K hK; clear hF; obtain ⟨hb0, hev9, A9, c9, hu, hc9, hI⟩ := hS9.2.1 rfl; simp only [hu] at hK ⊢; go_simp; refine (enq_is aw_e0 aw_l0 (by simp [zer]) (ty_new 4) hev9.held hI).mono ?_; rintro en w' ⟨A, c, B, d, rfl, hH, hb⟩; exact hK _ w' trivial (Ch5.two ⟨below_on hb0 hb, hev9.1.below hb hev9.1.lt, A, c, B, d, by simp, hH.lower hb0.size⟩) trivial)); simp only [Act.put, List.setIfInBounds_toArray, List.set_cons_zero, List.set_cons_succ, Nat.reduceAdd]
  refine late_chain_is (fun u => ∃ X, u = .tuple #[X, .int .i64 0]) (by simp) ?_ ?_; (focus (intro us w9 hS9 hF K hK; clear hF; obtain ⟨hb0, hr, A, c, B, d, hu, hH⟩ := hS9.2.2.1 rfl; simp only [hu] at hK ⊢; go_simp; exact hK _ w9 ⟨_, rfl⟩ (Ch5.three ⟨hb0, hr, A, c, B, d, by simp, hH⟩) trivial)); simp only [Act.put, List.setIfInBounds_toArray, List.set_cons_zero, List.set_cons_succ, Nat.reduceAdd]
  refine late_chain_is (fun _ => True) (by simp) ?_ ?_; (focus (intro us w9 hS9 hF K hK; clear hF; obtain ⟨hb0, hr, A, c, B, d, hu, hH⟩ := hS9.2.2.2.1 rfl; simp only [hu] at hK ⊢; go_simp; exact hK _ w9 trivial (Ch5.four ⟨hb0, hr, A, c, B, d, by simp, hH⟩) trivial)); simp only [Act.put, List.setIfInBounds_toArray, List.set_cons_zero, List.set_cons_succ, Nat.reduceAdd]
  refine late_pure (by simp) (fun _ => trivial) (v := .int .i64 0) (fun _ => rfl) ?_ ?_; (focus (intro c9 us w9 hm9 hS9 hF; obtain ⟨X, hu⟩ := hF (3, fun u _ => ∃ X, u = .tuple #[X, .int .i64 0]) (by simp) (by kernel_rfl); dsimp only at hu; simp only [hu]; go_simp)); simp only [Act.put, List.setIfInBounds_toArray, List.set_cons_zero, List.set_cons_succ, Nat.reduceAdd]
  refine late_store rfl ?_ ?_; (focus (intro us w9 hS9 hF K hK; clear hF; obtain ⟨hb0, hr, A, c, B, d, hu, hH⟩ := hS9.2.2.2.2.1 rfl; simp only [hu] at hK ⊢; rw [if_pos (by rfl)]; exact step_put (L := LEV aw1 A c B d) hr rfl (lev_info _ _ _ _ _) (lev_one _ _ _ _ _) rfl rfl (fun w' u' r' => hK w' (Ch5.five ⟨Upd.below (hBW.trans (hb0.mono hBW.size)) u' hgW, A, c, B, d, r', _, _, .inl hg1, hH.upd u' (.inl hg1)⟩) trivial))); simp only [Nat.reduceAdd]
  refine late_pure (by simp) (fun _ => trivial) (v := ?_) (fun _ => rfl) ?_ ?_; rotate_left; (focus (intro c9 us w9 hm9 hS9 hF; clear hF hm9; go_simp; (try with_reducible rfl); done)); simp only [Act.put, List.setIfInBounds_toArray, List.set_cons_zero, List.set_cons_succ, Nat.reduceAdd]
  refine late_done fun us2 w2 hS2 hF => ?_
  obtain ⟨hB2, A2, c2, B2, d2, hev2⟩ := hS2.2.2.2.2.2 (by omega)
  clear hF hS2
  clear hev hBW hw1
  have rv2 := hev2.1
  have hh2 := hev2.held
  go_upto_region 4 with (first | ((with_reducible refine wp_load_g ?_ rv2.range Try.underlying69 rfl (lev_info _ _ _ _ _) ?_ ?_); rfl; rfl) | (go_at_call 45; refine (next_is aw_e1 aw_l1 aw_v1 ty_aw1 hh2).mono ?_; rintro en w3 ⟨A3, c3, B3, d3, rfl, hH3, hb3⟩; have r3 := rv2.below hb3 rv2.lt) | ((with_reducible refine wp_row_store (L := LEV aw2 A3 c3 B3 d3) (r3.alloc _) ?_ (lev_info _ _ _ _ _) (lev_one _ _ _ _ _) ?_ ?_ ?_); rfl; rfl; rfl; intro w4 u4 r4) | ((with_reducible refine wp_row_store (L := awL1) ((Row.bornAt (g := w3.heap.size) rfl 40 _).upd u4 (by have := r3.lt; omega)) ?_ awL1_info awL1_one ?_ ?_ ?_); exact awL1_sz.symm; rfl; rfl; intro w5 u5 r5))
  have hal := (Below.refl w3.heap.size w3).alloc (Nat.le_refl _) (.cells ZL 40)
  have hgl := rv2.lt
  have hg3 := hb3.size
  have hB3 : Below W.heap.size W w5 := Upd.below (Upd.below (hB2.trans ((hb3.trans (hal.mono hb3.size)).mono hB2.size)) u4 hgW) u5 (by have := hB2.size; omega)
  have hev3 : EvI w5 g1 aw2 A3 c3 B3 d3 := ⟨r4.upd u5 (by omega), _, _, .inl hgl, ((hH3.below hal).upd u4 (.inl hgl)).upd u5 (.inr (Nat.le_refl _))⟩
  have rl1 := r5
  have hgl1 : g1 < w3.heap.size := by omega
  generalize w3.heap.size = gl1 at *
  clear r3 r4 u4 u5 hal hb3 hH3 hh2 rv2 hev2 hg3 hgl
  generalize w5 = w6 at *
  have rv3 := hev3.1
  have hh3 := hev3.held
  go_upto_region 5 with (first | ((with_reducible refine wp_load_g ?_ rv3.range Try.underlying69 rfl (lev_info _ _ _ _ _) ?_ ?_); rfl; rfl) | (go_at_call 45; refine (next_is aw_e2 aw_l2 aw_v2 ty_aw2 hh3).mono ?_; rintro en w7 ⟨A5, c5, B5, d5, rfl, hH5, hb5⟩; have r7 := rv3.below hb5 rv3.lt) | ((with_reducible refine wp_row_store (L := LEV aw3 A5 c5 B5 d5) (r7.alloc _) ?_ (lev_info _ _ _ _ _) (lev_one _ _ _ _ _) ?_ ?_ ?_); rfl; rfl; rfl; intro w8 u8 r8) | ((with_reducible refine wp_row_store (L := awL2) ((Row.bornAt (g := w7.heap.size) rfl 40 _).upd u8 (by have := r7.lt; omega)) ?_ awL2_info awL2_one ?_ ?_ ?_); exact awL2_sz.symm; rfl; rfl; intro w9 u9 r9))
  have hal := (Below.refl w7.heap.size w7).alloc (Nat.le_refl _) (.cells ZL 40)
  have hgl := rv3.lt
  have hg3 := hb5.size
  have hB4 : Below W.heap.size W w9 := Upd.below (Upd.below (hB3.trans ((hb5.trans (hal.mono hb5.size)).mono hB3.size)) u8 hgW) u9 (by have := hB3.size; omega)
  have hev4 : EvI w9 g1 aw3 A5 c5 B5 d5 := ⟨r8.upd u9 (by omega), _, _, .inl hgl, ((hH5.below hal).upd u8 (.inl hgl)).upd u9 (.inr (Nat.le_refl _))⟩
  have hl1 := rl1.lt
  have rl1 := rl1.below ((hb5.trans (hal.mono hb5.size))) rl1.lt
  have rl1 := (rl1.upd u8 (by omega)).upd u9 (by omega)
  have rl2 := r9
  generalize w7.heap.size = gl2 at *
  clear r7 r8 r9 u8 u9 hal hb5 hH5 hh3 rv3 hev3 hg3 hgl
  have rv4 := hev4.1
  have hh4 := hev4.held
  go_upto_region 6 with (first | ((with_reducible refine wp_load_g ?_ rv4.range Try.underlying69 rfl (lev_info _ _ _ _ _) ?_ ?_); rfl; rfl) | (go_at_call 45; refine (next_is aw_e3 aw_l3 aw_v3 ty_aw3 hh4).mono ?_; rintro en w3 ⟨A7, c7, B7, d7, rfl, hH7, hb7⟩) | ((with_reducible refine wp_row_store (L := LEV zeL A7 c7 B7 d7) ((Row.bornAt (g := w3.heap.size) rfl 69 _).alloc _) ?_ (lev_info _ _ _ _ _) (lev_one _ _ _ _ _) ?_ ?_ ?_); rfl; rfl; rfl; intro w4 u4 r4) | ((with_reducible refine wp_row_store (L := ZL) ((Row.bornAt (g := w3.heap.size + 1) (by simp) 40 _).upd u4 (by omega)) ?_ zl_info zl_one ?_ ?_ ?_); exact zl_61.symm; rfl; rfl; intro w5 u5 r5))
  have hal := ((Below.refl w3.heap.size w3).alloc (Nat.le_refl _) (.cells ZE 69)).alloc (by simp) (.cells ZL 40)
  have hal2 := Upd.below (Upd.below (hb7.trans (hal.mono hb7.size)) u4 hb7.size) u5 (by have := hb7.size; omega)
  have hev5 := hev4.below hal2
  have hB5 := hB4.trans (hal2.mono hB4.size)
  have rl1 := rl1.below hal2 rl1.lt
  have rl2 := rl2.below hal2 rl2.lt
  clear hal hal2 hb7 hH7 u4 u5 r4 r5 hev4 rv4 hh4 hB4
  have rv5 := hev5.1
  have hh5 := hev5.held
  obtain ⟨-, -, k2, k3, -⟩ := line_cells (show Row w5 gl1 40 (LV 1 true true 56 0 (frP aw1 ++ z56.drop (frP aw1).length)) from rl1)
  obtain ⟨-, -, m2, m3, -⟩ := line_cells (show Row w5 gl2 40 (LV 1 true false 48 0 (frP aw2 ++ z56.drop (frP aw2).length)) from rl2)
  go_wp2_with (first | ((with_reducible refine wp_load_g ?_ rv5.range Try.underlying69 rfl (lev_info _ _ _ _ _) ?_ ?_); rfl; rfl) | (go_at_call 54; refine (idle_is aw_i3 ty_aw3 hh5).mono ?_; rintro en wz ⟨rfl, hbz⟩))
  go_ret
  exact ⟨rfl, hB5.trans (hbz.mono hB5.size)⟩
end Go.Proofs.Ythjkhambmgepdaa
