/- Texts Fp, without what this claim does not use. -/
import Derived.Test.YthjkhambmgepdaaKaw
namespace Go.Proofs.Ythjkhambmgepdaa
section
open Go.RowKit
set_option linter.unusedVariables false
set_option linter.unusedSimpArgs false
set_option maxRecDepth 100000 in
set_option maxHeartbeats 8000000 in
theorem link_big (e : LE) (A : Option Addr) (c : Nat) (B : Option Addr) (d : Nat) (n : Int) (M : Option Addr) (mc : Nat) (m : List UInt8) (k : Int) (el fl : Bool) (len ack : Int) (p : List UInt8) (W : World) (hH : Held W e A c B d) (hn : e.nums) (hm : IsB W M m.length m) (hl : p.length = 56) (ha : 0 ≤ ack ∧ ack < 65536) (g1 : 2000 < m.length) : Calls Try.prog 10 #[.int .i64 n, .agg (LEV e A c B d), .slice M m.length mc, .agg (LV k el fl len ack p)] W (True1 W) := by
  have dg : decide (2000 < m.length) = true := decide_eq_true (by omega)
  have dgi : decide ((2000 : Int) < (m.length : Int)) = true := decide_eq_true (by omega)
  have hB := ((Below.refl W.heap.size W).alloc (Nat.le_refl _) (.cells (LEV e A c B d) 69)).alloc (by simp) (.cells (LV k el fl len ack p) 40)
  have ru := (Row.born W 69 (LEV e A c B d)).alloc (.cells (LV k el fl len ack p) 40)
  have rl : Row ((W.alloc (.cells (LEV e A c B d) 69)).alloc (.cells (LV k el fl len ack p) 40)) (W.heap.size + 1) 40 (LV k el fl len ack p) := Row.bornAt (w := W.alloc (.cells (LEV e A c B d) 69)) (by simp) 40 _
  go_enter Try.func10, Try.ntmps10
  go_upto_region 1 with (fail)
  change Code.wp _ _ _ _ ((W.alloc (.cells (LEV e A c B d) 69)).alloc (.cells (LV k el fl len ack p) 40))
  generalize ((W.alloc (.cells (LEV e A c B d) 69)).alloc (.cells (LV k el fl len ack p) 40)) = w0 at *
  have hH0 := hH.below hB
  go_wp2_with (first | ((with_reducible refine wp_load_g ?_ ru.range Try.underlying69 rfl (lev_info _ _ _ _ _) ?_ ?_); rfl; rfl) | (go_at_call 46; (with_reducible refine (few_ref e _ _ _ _ _ hH0).mono ?_); rintro en w1 ⟨b, rfl, hfew, hb1⟩; cases b) | (go_at_call 44; refine (awake20 _).mono ?_; rintro en wz ⟨rfl, hbz⟩))
  all_goals
    go_ret
    exact ⟨rfl, (hB.trans (hb1.mono hB.size)).trans (hbz.mono (hB.trans (hb1.mono hB.size)).size)⟩
set_option maxRecDepth 100000 in
set_option maxHeartbeats 16000000 in
theorem link_main (e : LE) (A : Option Addr) (c : Nat) (B : Option Addr) (d : Nat) (n : Int) (M : Option Addr) (mc : Nat) (m : List UInt8) (k : Int) (el fl : Bool) (len ack : Int) (p : List UInt8) (W : World) (hH : Held W e A c B d) (hn : e.nums) (hm : IsB W M m.length m) (hl : p.length = 56) (ha : 0 ≤ ack ∧ ack < 65536) (g1 : m.length ≤ 2000) : Calls Try.prog 10 #[.int .i64 n, .agg (LEV e A c B d), .slice M m.length mc, .agg (LV k el fl len ack p)] W (True1 W) := by
  have dg : decide (2000 < m.length) = false := decide_eq_false (by omega)
  have dgi : decide ((2000 : Int) < (m.length : Int)) = false := decide_eq_false (by omega)
  have hB := ((Below.refl W.heap.size W).alloc (Nat.le_refl _) (.cells (LEV e A c B d) 69)).alloc (by simp) (.cells (LV k el fl len ack p) 40)
  have ru := (Row.born W 69 (LEV e A c B d)).alloc (.cells (LV k el fl len ack p) 40)
  have rl : Row ((W.alloc (.cells (LEV e A c B d) 69)).alloc (.cells (LV k el fl len ack p) 40)) (W.heap.size + 1) 40 (LV k el fl len ack p) := Row.bornAt (w := W.alloc (.cells (LEV e A c B d) 69)) (by simp) 40 _
  go_enter Try.func10, Try.ntmps10
  go_upto_region 1 with (fail)
  change Code.wp _ _ _ _ ((W.alloc (.cells (LEV e A c B d) 69)).alloc (.cells (LV k el fl len ack p) 40))
  generalize ((W.alloc (.cells (LEV e A c B d) 69)).alloc (.cells (LV k el fl len ack p) 40)) = w0 at *
  have hH0 := hH.below hB
  go_upto_region 3 with (first | ((with_reducible refine wp_load_g ?_ ru.range Try.underlying69 rfl (lev_info _ _ _ _ _) ?_ ?_); rfl; rfl) | (go_at_call 46; (with_reducible refine (few_ref e _ _ _ _ _ hH0).mono ?_); rintro en w1 ⟨b, rfl, hfew, hb1⟩; cases b) | (go_at_call 44; refine (awake20 _).mono ?_; rintro en wz ⟨rfl, hbz⟩))
  · go_ret
    exact ⟨rfl, (hB.trans (hb1.mono hB.size)).trans (hbz.mono (hB.trans (hb1.mono hB.size)).size)⟩
  obtain ⟨h70, hp2, hq2⟩ := hfew (by first | rfl | trivial)
  have ht := hn.ty h70 hp2 hq2
  obtain ⟨v1, x1, v4, x4, v5, k5, e5, f5, n5, a5, p5, x5, v6, b6, t6, x6, t7, n8, ⟨hN1, hN2, hz1⟩, ⟨hE1, hE2⟩, ⟨hX1, hX2, hp5⟩, ⟨hD1, hD2⟩, ⟨hI1, hI2⟩, ⟨hP1, hP2⟩, l1, l4, l5, l6⟩ := link_letters n e m k el fl len ack p ht h70 g1 hl ha
  have ru := ru.below hb1 ru.lt
  have rl := rl.below hb1 rl.lt
  have hB := hB.trans (hb1.mono hB.size)
  clear dg dgi hH0 hb1 hfew hp2 hq2
  have hH1 := hH.below hB
  go_upto_region 4 with (first | ((with_reducible refine wp_load_g ?_ ru.range Try.underlying69 rfl (lev_info _ _ _ _ _) ?_ ?_); rfl; rfl) | (go_at_call 47; (with_reducible refine (copyL e A B c d _ ht hH1).mono ?_); rintro en w2 ⟨Ax, cx, Bx, dx, rfl, ho, hb2⟩) | ((with_reducible refine wp_row_store (L := LEV e Ax cx Bx dx) (Row.bornAt (g := w2.heap.size) rfl 69 _) ?_ (lev_info _ _ _ _ _) (lev_one _ _ _ _ _) ?_ ?_ ?_); rfl; rfl; rfl; intro w3 u3 rx))
  have hal := Upd.below ((Below.refl w2.heap.size w2).alloc (Nat.le_refl _) (.cells ZE 69)) u3 (Nat.le_refl _)
  have hbl := hb2.trans (hal.mono hb2.size)
  have hx : HV w3 e Ax cx Bx dx := ⟨_, _, (ho.heldI ht.qm).below hal⟩
  have ru := ru.below hbl ru.lt
  have rl := rl.below hbl rl.lt
  have hB := hB.trans (hbl.mono hB.size)
  clear hal hbl hb2 u3 ho hH1
  generalize w2.heap.size = gx at *
  go_upto_region 5 with (first | (go_at_call 41; refine (hN1 _).mono ?_; rintro en w4 ⟨rfl, hb4⟩) | ((with_reducible refine wp_row_store (L := LEV v1 none 0 none 0) (Row.bornAt (g := w4.heap.size) rfl 69 _) ?_ (lev_info _ _ _ _ _) (lev_one _ _ _ _ _) ?_ ?_ ?_); rfl; rfl; rfl; intro w5 u5 r5))
  have hal := Upd.below ((Below.refl w4.heap.size w4).alloc (Nat.le_refl _) (.cells ZE 69)) u5 (Nat.le_refl _)
  have hbl := hb4.trans (hal.mono hb4.size)
  have ru := ru.below hbl ru.lt
  have rl := rl.below hbl rl.lt
  have rx := rx.below hbl rx.lt
  have hx := hx.below hbl
  have hB := hB.trans (hbl.mono hB.size)
  have s10 : SL w5 w4.heap.size v1 := ⟨_, _, _, _, r5, HV.zero hz1 _⟩
  clear hal hbl hb4 u5 r5
  generalize w4.heap.size = g10 at *
  go_upto_region 6 with (first | (go_at_call 48; refine (hN2 _).mono ?_; rintro en w6 ⟨rfl, hb6⟩) | ((with_reducible refine wp_row_store (L := LEV v1 none 0 none 0) (Row.bornAt (g := w6.heap.size) rfl 69 _) ?_ (lev_info _ _ _ _ _) (lev_one _ _ _ _ _) ?_ ?_ ?_); rfl; rfl; rfl; intro w7 u7 r7))
  have hal := Upd.below ((Below.refl w6.heap.size w6).alloc (Nat.le_refl _) (.cells ZE 69)) u7 (Nat.le_refl _)
  have hbl := hb6.trans (hal.mono hb6.size)
  have ru := ru.below hbl ru.lt
  have rl := rl.below hbl rl.lt
  have rx := rx.below hbl rx.lt
  have hx := hx.below hbl
  have s10 := s10.below hbl
  have hB := hB.trans (hbl.mono hB.size)
  have s12 : SL w7 w6.heap.size v1 := ⟨_, _, _, _, r7, HV.zero hz1 _⟩
  clear hal hbl hb6 u7 r7
  generalize w6.heap.size = g12 at *
  have r0 : Row w7.drew W.heap.size 69 (LEV e A c B d) := ru
  have rl : Row w7.drew (W.heap.size + 1) 40 (LV k el fl len ack p) := rl
  have rx : Row w7.drew gx 69 (LEV e Ax cx Bx dx) := rx
  have hx := hx.below (Below.refl _ _).drew
  have s10 := s10.below (Below.refl _ _).drew
  have s12 := s12.below (Below.refl _ _).drew
  have hB := hB.drew
  refine wp_region_late (n := 173) [8] (EnS w7.drew 7 v4) G9 (by kernel_rfl) (by kernel_rfl) (by rfl) (EnS.loc (by kernel_rfl)) ⟨Below.refl _ _, fun h => by omega⟩ ?_
  generalize w7.drew = w8 at *
  have hm8 := hm.below hB
  refine late_pure (by simp) (fun w => G9.refl _) (v := .agg (LEV e Ax cx Bx dx)) (fun _ => rfl) ?_ ?_; (focus (intro c9 us w9 hm9 hS9 hF; exact exec_load_g (rx.below hS9.1 rx.lt).range Try.underlying69 rfl (lev_info _ _ _ _ _) rfl)); simp only [Act.put, List.setIfInBounds_toArray, List.set_cons_zero, List.set_cons_succ, Nat.reduceAdd]
  refine late_pure (by simp) (fun w => G9.refl _) (v := ?_) (fun _ => rfl) ?_ ?_; rotate_left; (focus (intro c9 us w9 hm9 hS9 hF; clear hS9; clear hF hm9; go_simp; (try with_reducible rfl); done)); simp only [Act.put, List.setIfInBounds_toArray, List.set_cons_zero, List.set_cons_succ, Nat.reduceAdd]
  refine late_free (by simp) (CyO m) (CyO.mono) ?_ ?_; (focus (intro c9 us w9 hm9 hS9 hF K hK; have hc9 : c9 < 1 := (by rcases Nat.lt_or_ge c9 1 with h9 | h9; exact h9; exact absurd hm9 (by rw [mayAt_no (d := 0) (by kernel_rfl) (by omega) (by decide)]; decide)); clear hF; rw [if_pos (by rfl)]; exact step_copy_b (P := Try.prog) (c' := mc) Try.underlying44 info_b (hm8.below hS9.1) (by omega) rfl rfl (fun A' c'' w' h1 h2 => hK _ w' ⟨hS9.1.trans (h2.mono hS9.1.size), fun h => by omega⟩ (G9.below h2) ⟨_, A', c'', rfl, h1⟩))); simp only [Act.put, List.setIfInBounds_toArray, List.set_cons_zero, List.set_cons_succ, Nat.reduceAdd]
  refine late_free (by simp) (TuE v4 x4) (TuE.mono) ?_ ?_; (focus (intro c9 us w9 hm9 hS9 hF K hK; have hc9 : c9 < 1 := (by rcases Nat.lt_or_ge c9 1 with h9 | h9; exact h9; exact absurd hm9 (by rw [mayAt_no (d := 0) (by kernel_rfl) (by omega) (by decide)]; decide)); obtain ⟨b8, D8, dc8, hu, ho8⟩ := hF (2, CyO m) (by simp) (by kernel_rfl); clear hF; dsimp only at hu; simp only [hu] at hK ⊢; go_simp; refine (hE1 _ _ _ _ _ _ _ (hx.below hS9.1).held ho8.isB).mono ?_; rintro en w' ⟨A9, c9', B9, d9, rfl, hh9, h2⟩; exact hK _ w' ⟨hS9.1.trans (h2.mono hS9.1.size), fun h => by omega⟩ (G9.below h2) ⟨A9, c9', B9, d9, rfl, hh9⟩)); simp only [Act.put, List.setIfInBounds_toArray, List.set_cons_zero, List.set_cons_succ, Nat.reduceAdd]
  refine late_free (by simp) (TuE v4 x4) (TuE.mono) ?_ ?_; (focus (intro c9 us w9 hm9 hS9 hF K hK; have hv9 := hF (3, TuE v4 x4) (by simp) (by kernel_rfl); clear hF; dsimp only at hv9; go_simp; exact hK _ w9 hS9 (G9.refl _) hv9)); simp only [Act.put, List.setIfInBounds_toArray, List.set_cons_zero, List.set_cons_succ, Nat.reduceAdd]
  refine late_free (by simp) (EvE v4) (EvE.mono) ?_ ?_; (focus (intro c9 us w9 hm9 hS9 hF K hK; obtain ⟨A9, c9', B9, d9, hu, hh9⟩ := hF (4, TuE v4 x4) (by simp) (by kernel_rfl); clear hF; dsimp only at hu; simp only [hu] at hK ⊢; go_simp; exact hK _ w9 hS9 (G9.refl _) ⟨A9, c9', B9, d9, rfl, hh9⟩)); simp only [Act.put, List.setIfInBounds_toArray, List.set_cons_zero, List.set_cons_succ, Nat.reduceAdd]
  refine late_pure (by simp) (fun w => G9.refl _) (v := .int .i64 x4) (fun _ => rfl) ?_ ?_; (focus (intro c9 us w9 hm9 hS9 hF; obtain ⟨A9, c9', B9, d9, hu, hh9⟩ := hF (4, TuE v4 x4) (by simp) (by kernel_rfl); clear hF; dsimp only at hu; simp only [hu]; go_simp)); simp only [Act.put, List.setIfInBounds_toArray, List.set_cons_zero, List.set_cons_succ, Nat.reduceAdd]
  refine late_free (by simp) (PtE w8.heap.size) (PtE.mono) ?_ ?_; (focus (intro c9 us w9 hm9 hS9 hF K hK; have hc9 : c9 < 1 := (by rcases Nat.lt_or_ge c9 1 with h9 | h9; exact h9; exact absurd hm9 (by rw [mayAt_no (d := 0) (by kernel_rfl) (by omega) (by decide)]; decide)); clear hF; go_simp; exact hK _ _ ⟨hS9.1.trans (((Below.refl w9.heap.size w9).alloc (Nat.le_refl _) (.cells ZE 69)).mono hS9.1.size), fun h => by omega⟩ (G9.below ((Below.refl _ _).alloc (Nat.le_refl _) _)) ⟨w9.heap.size, rfl, hS9.1.size, _, none, 0, none, 0, Row.born w9 69 ZE⟩)); simp only [Act.put, List.setIfInBounds_toArray, List.set_cons_zero, List.set_cons_succ, Nat.reduceAdd]
  refine late_store rfl ?_ ?_; (focus (intro us w9 hS9 hF K hK; obtain ⟨A9, c9', B9, d9, hu9, hh9⟩ := hF (5, EvE v4) (by simp) (by kernel_rfl); obtain ⟨g9, hu, hg9, hrr⟩ := hF (7, PtE w8.heap.size) (by simp) (by kernel_rfl); dsimp only at hu9 hu; clear hF; simp only [hu9, hu] at hK ⊢; rw [if_pos (by rfl)]; have hrq := hrr; obtain ⟨v3, A3, c3, B3, d3, hr3⟩ := hrr; exact step_put (L := LEV v4 A9 c9' B9 d9) hr3 rfl (lev_info _ _ _ _ _) (lev_one _ _ _ _ _) rfl rfl (fun w' u' r' => hK w' ⟨Upd.below hS9.1 u' hg9, fun _ => ⟨g9, hu, hg9, A9, c9', B9, d9, r', hh9.keeps (Keeps.upd (ts := [69, 40]) u' hr3 (by simp)) (by decide) (by decide)⟩⟩ (G9.put hrq u' r')))); (try simp only [Nat.reduceAdd])
  refine late_pure (by simp) (fun w => G9.refl _) (v := ?_) (fun _ => rfl) ?_ ?_; rotate_left; (focus (intro c9 us w9 hm9 hS9 hF; clear hS9; clear hF hm9; go_simp; (try with_reducible rfl); done)); simp only [Act.put, List.setIfInBounds_toArray, List.set_cons_zero, List.set_cons_succ, Nat.reduceAdd]
  refine late_done fun us w9 hS9 hF => ?_
  obtain ⟨hb9, hp9⟩ := hS9
  obtain ⟨g14, hu8, hg14, s14⟩ := hp9 (by omega)
  clear hF hp9
  simp only [hu8]
  clear hu8 hm8
  have ru := r0
  have ru := ru.below hb9 ru.lt
  have rl := rl.below hb9 rl.lt
  have rx := rx.below hb9 rx.lt
  have hx := hx.below hb9
  have s10 := s10.below hb9
  have s12 := s12.below hb9
  have hB := hB.trans (hb9.mono hB.size)
  clear hb9 r0
  go_upto_region 8 with (first | ((with_reducible refine wp_load_g ?_ ru.range Try.underlying69 rfl (lev_info _ _ _ _ _) ?_ ?_); rfl; rfl) | (go_at_call 49; refine (hE2 _ _ _ _ _ _ _ (hH.below hB) (hm.below hB)).mono ?_; rintro en wa ⟨A9, c9, B9, d9, rfl, hh9, hba⟩) | ((with_reducible refine wp_row_store (L := LEV v4 A9 c9 B9 d9) (Row.bornAt (g := wa.heap.size) rfl 69 _) ?_ (lev_info _ _ _ _ _) (lev_one _ _ _ _ _) ?_ ?_ ?_); rfl; rfl; rfl; intro wb ub rb))
  have hal := Upd.below ((Below.refl wa.heap.size wa).alloc (Nat.le_refl _) (.cells ZE 69)) ub (Nat.le_refl _)
  have hbl := hba.trans (hal.mono hba.size)
  have ru := ru.below hbl ru.lt
  have rl := rl.below hbl rl.lt
  have rx := rx.below hbl rx.lt
  have hx := hx.below hbl
  have s10 := s10.below hbl
  have s12 := s12.below hbl
  have s14 := s14.below hbl
  have hB := hB.trans (hbl.mono hB.size)
  have s16 : SL wb wa.heap.size v4 := ⟨_, _, _, _, rb, hh9.below hal⟩
  clear hh9
  clear hal hbl hba ub rb
  generalize wa.heap.size = g16 at *
  go_upto_region 9 with (first | ((with_reducible refine wp_load_g ?_ rx.range Try.underlying69 rfl (lev_info _ _ _ _ _) ?_ ?_); rfl; rfl) | (go_at_call 45; refine (hX1 _ _ _ _ _ hx.held).mono ?_; rintro en wc ⟨A9, c9, B9, d9, rfl, hh9, hbc⟩) | ((with_reducible refine wp_row_store (L := LEV v5 A9 c9 B9 d9) ((Row.bornAt (g := wc.heap.size) rfl 69 _).alloc _) ?_ (lev_info _ _ _ _ _) (lev_one _ _ _ _ _) ?_ ?_ ?_); rfl; rfl; rfl; intro wd ud rd) | ((with_reducible refine wp_row_store (L := (LV k5 e5 f5 n5 a5 p5)) ((Row.bornAt (g := wc.heap.size + 1) (by simp) 40 _).upd ud (by omega)) ?_ (line_info _ _ _ _ _ hp5) (LV_one _ _ _ _ _ _) ?_ ?_ ?_); exact zl_61.trans (LV_size _ _ _ _ _ hp5).symm; rfl; rfl; intro we ue r19))
  have hal := Upd.below (Upd.below (((Below.refl wc.heap.size wc).alloc (Nat.le_refl _) (.cells ZE 69)).alloc (by simp) (.cells ZL 40)) ud (Nat.le_refl _)) ue (by omega)
  have hbl := hbc.trans (hal.mono hbc.size)
  have ru := ru.below hbl ru.lt
  have rl := rl.below hbl rl.lt
  have rx := rx.below hbl rx.lt
  have hx := hx.below hbl
  have s10 := s10.below hbl
  have s12 := s12.below hbl
  have s14 := s14.below hbl
  have s16 := s16.below hbl
  have hB := hB.trans (hbl.mono hB.size)
  have s18 : SL we wc.heap.size v5 := ⟨_, _, _, _, rd.upd ue (by omega), hh9.below hal⟩
  clear hal hbl hbc ud ue rd hh9
  generalize wc.heap.size = g18 at *
  go_upto_region 10 with (first | ((with_reducible refine wp_load_g ?_ ru.range Try.underlying69 rfl (lev_info _ _ _ _ _) ?_ ?_); rfl; rfl) | (go_at_call 50; refine (hX2 _ _ _ _ _ (hH.below hB)).mono ?_; rintro en wf ⟨A9, c9, B9, d9, rfl, hh9, hbf⟩) | ((with_reducible refine wp_row_store (L := LEV v5 A9 c9 B9 d9) ((Row.bornAt (g := wf.heap.size) rfl 69 _).alloc _) ?_ (lev_info _ _ _ _ _) (lev_one _ _ _ _ _) ?_ ?_ ?_); rfl; rfl; rfl; intro wg ug rg) | ((with_reducible refine wp_row_store (L := (LV k5 e5 f5 n5 a5 p5)) ((Row.bornAt (g := wf.heap.size + 1) (by simp) 40 _).upd ug (by omega)) ?_ (line_info _ _ _ _ _ hp5) (LV_one _ _ _ _ _ _) ?_ ?_ ?_); exact zl_61.trans (LV_size _ _ _ _ _ hp5).symm; rfl; rfl; intro wh uh r22))
  have hal := Upd.below (Upd.below (((Below.refl wf.heap.size wf).alloc (Nat.le_refl _) (.cells ZE 69)).alloc (by simp) (.cells ZL 40)) ug (Nat.le_refl _)) uh (by omega)
  have hbl := hbf.trans (hal.mono hbf.size)
  have ru := ru.below hbl ru.lt
  have rl := rl.below hbl rl.lt
  have rx := rx.below hbl rx.lt
  have r19 := r19.below hbl r19.lt
  have hx := hx.below hbl
  have s10 := s10.below hbl
  have s12 := s12.below hbl
  have s14 := s14.below hbl
  have s16 := s16.below hbl
  have s18 := s18.below hbl
  have hB := hB.trans (hbl.mono hB.size)
  have s21 : SL wh wf.heap.size v5 := ⟨_, _, _, _, rg.upd uh (by omega), hh9.below hal⟩
  clear hal hbl hbf ug uh rg hh9
  generalize wf.heap.size = g21 at *
  go_upto_region 11 with (first | ((with_reducible refine wp_load_g ?_ rx.range Try.underlying69 rfl (lev_info _ _ _ _ _) ?_ ?_); rfl; rfl) | ((with_reducible refine wp_load_g ?_ rl.range Try.underlying40 rfl (line_info _ _ _ _ _ hl) ?_ ?_); rfl; rfl) | (go_at_call 51; refine (hD1 _ _ _ _ _ hx.held).mono ?_; rintro en wi ⟨A9, c9, B9, d9, M6, mc6, rfl, hh9, hJ6, hbi⟩) | ((with_reducible refine wp_row_store (L := LEV v6 A9 c9 B9 d9) (Row.bornAt (g := wi.heap.size) rfl 69 _) ?_ (lev_info _ _ _ _ _) (lev_one _ _ _ _ _) ?_ ?_ ?_); rfl; rfl; rfl; intro wj uj rj))
  have hal := Upd.below ((Below.refl wi.heap.size wi).alloc (Nat.le_refl _) (.cells ZE 69)) uj (Nat.le_refl _)
  have hbl := hbi.trans (hal.mono hbi.size)
  have ru := ru.below hbl ru.lt
  have rl := rl.below hbl rl.lt
  have rx := rx.below hbl rx.lt
  have r19 := r19.below hbl r19.lt
  have r22 := r22.below hbl r22.lt
  have hx := hx.below hbl
  have s10 := s10.below hbl
  have s12 := s12.below hbl
  have s14 := s14.below hbl
  have s16 := s16.below hbl
  have s18 := s18.below hbl
  have s21 := s21.below hbl
  have hB := hB.trans (hbl.mono hB.size)
  have s24 : SL wj wi.heap.size v6 := ⟨_, _, _, _, rj, hh9.below hal⟩
  have hJ6 := hJ6.below hal
  clear hh9
  clear hal hbl hbi uj rj
  generalize wi.heap.size = g24 at *
  go_upto_region 12 with (first | ((with_reducible refine wp_load_g ?_ ru.range Try.underlying69 rfl (lev_info _ _ _ _ _) ?_ ?_); rfl; rfl) | ((with_reducible refine wp_load_g ?_ rl.range Try.underlying40 rfl (line_info _ _ _ _ _ hl) ?_ ?_); rfl; rfl) | (go_at_call 52; refine (hD2 _ _ _ _ _ (hH.below hB)).mono ?_; rintro en wk ⟨A9, c9, B9, d9, M7, mc7, rfl, hh9, hJ7, hbk⟩) | ((with_reducible refine wp_row_store (L := LEV v6 A9 c9 B9 d9) (Row.bornAt (g := wk.heap.size) rfl 69 _) ?_ (lev_info _ _ _ _ _) (lev_one _ _ _ _ _) ?_ ?_ ?_); rfl; rfl; rfl; intro wl ul rk))
  have hal := Upd.below ((Below.refl wk.heap.size wk).alloc (Nat.le_refl _) (.cells ZE 69)) ul (Nat.le_refl _)
  have hbl := hbk.trans (hal.mono hbk.size)
  have ru := ru.below hbl ru.lt
  have rl := rl.below hbl rl.lt
  have rx := rx.below hbl rx.lt
  have r19 := r19.below hbl r19.lt
  have r22 := r22.below hbl r22.lt
  have hx := hx.below hbl
  have hJ6 := hJ6.below hbl
  have s10 := s10.below hbl
  have s12 := s12.below hbl
  have s14 := s14.below hbl
  have s16 := s16.below hbl
  have s18 := s18.below hbl
  have s21 := s21.below hbl
  have s24 := s24.below hbl
  have hB := hB.trans (hbl.mono hB.size)
  have s28 : SL wl wk.heap.size v6 := ⟨_, _, _, _, rk, hh9.below hal⟩
  have hJ7 := hJ7.below hal
  clear hh9
  clear hal hbl hbk ul rk
  generalize wk.heap.size = g28 at *
  obtain ⟨A10, c10, B10, d10, t10, h10⟩ := s10
  obtain ⟨A12, c12, B12, d12, t12, h12⟩ := s12
  obtain ⟨A14, c14, B14, d14, t14, h14⟩ := s14
  obtain ⟨A16, c16, B16, d16, t16, h16⟩ := s16
  obtain ⟨A18, c18, B18, d18, t18, h18⟩ := s18
  obtain ⟨A21, c21, B21, d21, t21, h21⟩ := s21
  obtain ⟨A24, c24, B24, d24, t24, h24⟩ := s24
  obtain ⟨A28, c28, B28, d28, t28, h28⟩ := s28
  have HLL : ∀ w : World, (Op.equalIn 10000 40 (.agg (LV k5 e5 f5 n5 a5 p5)) (.agg (LV k5 e5 f5 n5 a5 p5))).run Try.prog w = .ok true w := fun w => by rw [eq_line w k5 k5 e5 e5 f5 f5 n5 n5 a5 a5 p5 p5 hp5 hp5]; simp
  go_upto_region 14 with (first | ((with_reducible refine wp_load_g ?_ t10.range Try.underlying69 rfl (lev_info _ _ _ _ _) ?_ ?_); rfl; rfl) | ((with_reducible refine wp_load_g ?_ t12.range Try.underlying69 rfl (lev_info _ _ _ _ _) ?_ ?_); rfl; rfl) | ((with_reducible refine wp_load_g ?_ t14.range Try.underlying69 rfl (lev_info _ _ _ _ _) ?_ ?_); rfl; rfl) | ((with_reducible refine wp_load_g ?_ t16.range Try.underlying69 rfl (lev_info _ _ _ _ _) ?_ ?_); rfl; rfl) | ((with_reducible refine wp_load_g ?_ t18.range Try.underlying69 rfl (lev_info _ _ _ _ _) ?_ ?_); rfl; rfl) | ((with_reducible refine wp_load_g ?_ t21.range Try.underlying69 rfl (lev_info _ _ _ _ _) ?_ ?_); rfl; rfl) | ((with_reducible refine wp_load_g ?_ t24.range Try.underlying69 rfl (lev_info _ _ _ _ _) ?_ ?_); rfl; rfl) | ((with_reducible refine wp_load_g ?_ t28.range Try.underlying69 rfl (lev_info _ _ _ _ _) ?_ ?_); rfl; rfl) | ((with_reducible refine wp_load_g ?_ r19.range Try.underlying40 rfl (line_info _ _ _ _ _ hp5) ?_ ?_); rfl; rfl) | ((with_reducible refine wp_load_g ?_ r22.range Try.underlying40 rfl (line_info _ _ _ _ _ hp5) ?_ ?_); rfl; rfl) | (go_at_call 53; (first | (with_reducible refine (same_l rfl l1 h10.held h12.held).mono ?_) | (with_reducible refine (same_l rfl l4 h14.held h16.held).mono ?_) | (with_reducible refine (same_l rfl l5 h18.held h21.held).mono ?_) | (with_reducible refine (same_l rfl l6 h24.held h28.held).mono ?_)); rintro en wq ⟨rfl, hbq⟩; have ru := ru.below hbq ru.lt; have rl := rl.below hbq rl.lt; have rx := rx.below hbq rx.lt; have r19 := r19.below hbq r19.lt; have r22 := r22.below hbq r22.lt; have t10 := t10.below hbq t10.lt; have t12 := t12.below hbq t12.lt; have t14 := t14.below hbq t14.lt; have t16 := t16.below hbq t16.lt; have t18 := t18.below hbq t18.lt; have t21 := t21.below hbq t21.lt; have t24 := t24.below hbq t24.lt; have t28 := t28.below hbq t28.lt; have hx := hx.below hbq; have hJ6 := hJ6.below hbq; have hJ7 := hJ7.below hbq; have h10 := h10.below hbq; have h12 := h12.below hbq; have h14 := h14.below hbq; have h16 := h16.below hbq; have h18 := h18.below hbq; have h21 := h21.below hbq; have h24 := h24.below hbq; have h28 := h28.below hbq; have hB := hB.trans (hbq.mono hB.size)) | ((with_reducible refine wp_neq_g ?_ guard40 (HLL _) ?_ ?_ ?_); rfl; rfl; rfl))
  clear t10 t12 t14 t16 t18 t21 t24 t28 h10 h12 h14 h16 h18 h21 h24 h28 r19 r22 HLL hN1 hN2 hE1 hE2 hX1 hX2 hD1 hD2
  obtain ⟨wr, hwr⟩ : ∃ wr, wq = wr := ⟨_, rfl⟩
  rw [hwr] at ru rl rx hx hB hJ6 hJ7 ⊢
  refine wp_region_told (n := 173) (fun w' => Below wr.heap.size wr w') (fun _ _ => True) (by kernel_rfl) (by kernel_rfl) (by rfl) (Below.refl _ _).drew ?_
  refine walk_pure (v := .slice M6 b6.length mc6) (fun _ => trivial) (fun _ => rfl) ?_ ?_; (focus (intro us w9 hS9 hF; clear hF; go_simp; (try with_reducible rfl); done)); simp only [Act.put, List.setIfInBounds_toArray, List.set_cons_zero, List.set_cons_succ, Nat.reduceAdd]
  refine walk_pure (v := .string ⟨b6.toArray⟩) (fun _ => trivial) (fun _ => rfl) ?_ ?_; (focus (intro us w9 hS9 hF; clear hF; have s1 := run_str (P := Try.prog) (w := w9) (dst := 9) Try.underlying44 Try.underlying5 Try.underlying9 mc6 (hJ6.below hS9); go_simp; (try with_reducible rfl); done)); simp only [Act.put, List.setIfInBounds_toArray, List.set_cons_zero, List.set_cons_succ, Nat.reduceAdd]
  refine walk_pure (v := .slice M7 b6.length mc7) (fun _ => trivial) (fun _ => rfl) ?_ ?_; (focus (intro us w9 hS9 hF; clear hF; go_simp; (try with_reducible rfl); done)); simp only [Act.put, List.setIfInBounds_toArray, List.set_cons_zero, List.set_cons_succ, Nat.reduceAdd]
  refine walk_pure (v := .string ⟨b6.toArray⟩) (fun _ => trivial) (fun _ => rfl) ?_ ?_; (focus (intro us w9 hS9 hF; clear hF; have s1 := run_str (P := Try.prog) (w := w9) (dst := 9) Try.underlying44 Try.underlying5 Try.underlying9 mc7 (hJ7.below hS9); go_simp; (try with_reducible rfl); done)); simp only [Act.put, List.setIfInBounds_toArray, List.set_cons_zero, List.set_cons_succ, Nat.reduceAdd]
  refine walk_pure (v := .bool true) (fun _ => trivial) (fun _ => rfl) ?_ ?_; (focus (intro us w9 hS9 hF; clear hF; go_simp; (try with_reducible rfl); done)); simp only [Act.put, List.setIfInBounds_toArray, List.set_cons_zero, List.set_cons_succ, Nat.reduceAdd]
  refine walk_pure (v := .bool true) (fun _ => trivial) (fun _ => rfl) ?_ ?_; (focus (intro us w9 hS9 hF; clear hF; go_simp; (try with_reducible rfl); done)); simp only [Act.put, List.setIfInBounds_toArray, List.set_cons_zero, List.set_cons_succ, Nat.reduceAdd]
  refine walk_pure (v := .bool t6) (fun _ => trivial) (fun _ => rfl) ?_ ?_; (focus (intro us w9 hS9 hF; clear hF; go_simp; (try with_reducible rfl); done)); simp only [Act.put, List.setIfInBounds_toArray, List.set_cons_zero, List.set_cons_succ, Nat.reduceAdd]
  refine walk_pure (v := .bool t6) (fun _ => trivial) (fun _ => rfl) ?_ ?_; (focus (intro us w9 hS9 hF; clear hF; go_simp; (try with_reducible rfl); done)); simp only [Act.put, List.setIfInBounds_toArray, List.set_cons_zero, List.set_cons_succ, Nat.reduceAdd]
  refine walk_pure (v := .bool true) (fun _ => trivial) (fun _ => rfl) ?_ ?_; (focus (intro us w9 hS9 hF; clear hF; go_simp; (try with_reducible rfl); done)); simp only [Act.put, List.setIfInBounds_toArray, List.set_cons_zero, List.set_cons_succ, Nat.reduceAdd]
  refine walk_pure (v := .bool true) (fun _ => trivial) (fun _ => rfl) ?_ ?_; (focus (intro us w9 hS9 hF; clear hF; go_simp; (try with_reducible rfl); done)); simp only [Act.put, List.setIfInBounds_toArray, List.set_cons_zero, List.set_cons_succ, Nat.reduceAdd]
  refine walk_pure (v := .bool true) (fun _ => trivial) (fun _ => rfl) ?_ ?_; (focus (intro us w9 hS9 hF; clear hF; go_simp; (try with_reducible rfl); done)); simp only [Act.put, List.setIfInBounds_toArray, List.set_cons_zero, List.set_cons_succ, Nat.reduceAdd]
  refine walk_pure (v := .int .i64 x6) (fun _ => trivial) (fun _ => rfl) ?_ ?_; (focus (intro us w9 hS9 hF; clear hF; go_simp; (try with_reducible rfl); done)); simp only [Act.put, List.setIfInBounds_toArray, List.set_cons_zero, List.set_cons_succ, Nat.reduceAdd]
  refine walk_pure (v := .int .i64 x6) (fun _ => trivial) (fun _ => rfl) ?_ ?_; (focus (intro us w9 hS9 hF; clear hF; go_simp; (try with_reducible rfl); done)); simp only [Act.put, List.setIfInBounds_toArray, List.set_cons_zero, List.set_cons_succ, Nat.reduceAdd]
  refine walk_pure (v := .bool true) (fun _ => trivial) (fun _ => rfl) ?_ ?_; (focus (intro us w9 hS9 hF; clear hF; go_simp; (try with_reducible rfl); done)); simp only [Act.put, List.setIfInBounds_toArray, List.set_cons_zero, List.set_cons_succ, Nat.reduceAdd]
  refine walk_pure (v := .bool true) (fun _ => trivial) (fun _ => rfl) ?_ ?_; (focus (intro us w9 hS9 hF; clear hF; go_simp; (try with_reducible rfl); done)); simp only [Act.put, List.setIfInBounds_toArray, List.set_cons_zero, List.set_cons_succ, Nat.reduceAdd]
  refine walk_pure (v := .bool true) (fun _ => trivial) (fun _ => rfl) ?_ ?_; (focus (intro us w9 hS9 hF; clear hF; go_simp; (try with_reducible rfl); done)); simp only [Act.put, List.setIfInBounds_toArray, List.set_cons_zero, List.set_cons_succ, Nat.reduceAdd]
  refine walk_pure (v := .agg (LEV e Ax cx Bx dx)) (fun _ => trivial) (fun _ => rfl) ?_ ?_; (focus (intro us w9 hS9 hF; exact exec_load_g (rx.below hS9 rx.lt).range Try.underlying69 rfl (lev_info _ _ _ _ _) rfl)); simp only [Act.put, List.setIfInBounds_toArray, List.set_cons_zero, List.set_cons_succ, Nat.reduceAdd]
  refine walk_fix (v := .bool t7) ?_ ?_; (focus (intro us w9 hS9 hF K hK; clear hF; go_simp; refine (hI1 _ _ _ _ _ (hx.below hS9).held).mono ?_; rintro en w' ⟨rfl, hbw⟩; exact hK _ (below_on hS9 hbw) trivial)); simp only [Act.put, List.setIfInBounds_toArray, List.set_cons_zero, List.set_cons_succ, Nat.reduceAdd]
  refine walk_pure (v := .agg (LEV e A c B d)) (fun _ => trivial) (fun _ => rfl) ?_ ?_; (focus (intro us w9 hS9 hF; exact exec_load_g (ru.below hS9 ru.lt).range Try.underlying69 rfl (lev_info _ _ _ _ _) rfl)); simp only [Act.put, List.setIfInBounds_toArray, List.set_cons_zero, List.set_cons_succ, Nat.reduceAdd]
  refine walk_fix (v := .bool t7) ?_ ?_; (focus (intro us w9 hS9 hF K hK; clear hF; go_simp; refine (hI2 _ _ _ _ _ (hH.below (hB.trans (hS9.mono hB.size)))).mono ?_; rintro en w' ⟨rfl, hbw⟩; exact hK _ (below_on hS9 hbw) trivial)); simp only [Act.put, List.setIfInBounds_toArray, List.set_cons_zero, List.set_cons_succ, Nat.reduceAdd]
  refine walk_pure (v := .bool true) (fun _ => trivial) (fun _ => rfl) ?_ ?_; (focus (intro us w9 hS9 hF; clear hF; go_simp; (try with_reducible rfl); done)); simp only [Act.put, List.setIfInBounds_toArray, List.set_cons_zero, List.set_cons_succ, Nat.reduceAdd]
  refine walk_pure (v := .bool true) (fun _ => trivial) (fun _ => rfl) ?_ ?_; (focus (intro us w9 hS9 hF; clear hF; go_simp; (try with_reducible rfl); done)); simp only [Act.put, List.setIfInBounds_toArray, List.set_cons_zero, List.set_cons_succ, Nat.reduceAdd]
  refine walk_pure (v := .bool true) (fun _ => trivial) (fun _ => rfl) ?_ ?_; (focus (intro us w9 hS9 hF; clear hF; go_simp; (try with_reducible rfl); done)); simp only [Act.put, List.setIfInBounds_toArray, List.set_cons_zero, List.set_cons_succ, Nat.reduceAdd]
  refine walk_pure (v := .agg (LEV e Ax cx Bx dx)) (fun _ => trivial) (fun _ => rfl) ?_ ?_; (focus (intro us w9 hS9 hF; exact exec_load_g (rx.below hS9 rx.lt).range Try.underlying69 rfl (lev_info _ _ _ _ _) rfl)); simp only [Act.put, List.setIfInBounds_toArray, List.set_cons_zero, List.set_cons_succ, Nat.reduceAdd]
  refine walk_fix (v := .int .i64 n8) ?_ ?_; (focus (intro us w9 hS9 hF K hK; clear hF; go_simp; refine (hP1 _ _ _ _ _ (hx.below hS9).held).mono ?_; rintro en w' ⟨rfl, hbw⟩; exact hK _ (below_on hS9 hbw) trivial)); simp only [Act.put, List.setIfInBounds_toArray, List.set_cons_zero, List.set_cons_succ, Nat.reduceAdd]
  refine walk_pure (v := .agg (LEV e A c B d)) (fun _ => trivial) (fun _ => rfl) ?_ ?_; (focus (intro us w9 hS9 hF; exact exec_load_g (ru.below hS9 ru.lt).range Try.underlying69 rfl (lev_info _ _ _ _ _) rfl)); simp only [Act.put, List.setIfInBounds_toArray, List.set_cons_zero, List.set_cons_succ, Nat.reduceAdd]
  refine walk_fix (v := .int .i64 n8) ?_ ?_; (focus (intro us w9 hS9 hF K hK; clear hF; go_simp; refine (hP2 _ _ _ _ _ (hH.below (hB.trans (hS9.mono hB.size)))).mono ?_; rintro en w' ⟨rfl, hbw⟩; exact hK _ (below_on hS9 hbw) trivial)); simp only [Act.put, List.setIfInBounds_toArray, List.set_cons_zero, List.set_cons_succ, Nat.reduceAdd]
  refine walk_pure (v := .bool true) (fun _ => trivial) (fun _ => rfl) ?_ ?_; (focus (intro us w9 hS9 hF; clear hF; go_simp; (try with_reducible rfl); done)); simp only [Act.put, List.setIfInBounds_toArray, List.set_cons_zero, List.set_cons_succ, Nat.reduceAdd]
  refine walk_pure (v := .bool true) (fun _ => trivial) (fun _ => rfl) ?_ ?_; (focus (intro us w9 hS9 hF; clear hF; go_simp; (try with_reducible rfl); done)); simp only [Act.put, List.setIfInBounds_toArray, List.set_cons_zero, List.set_cons_succ, Nat.reduceAdd]
  refine walk_pure (v := .bool true) (fun _ => trivial) (fun _ => rfl) ?_ ?_; (focus (intro us w9 hS9 hF; clear hF; go_simp; (try with_reducible rfl); done)); simp only [Act.put, List.setIfInBounds_toArray, List.set_cons_zero, List.set_cons_succ, Nat.reduceAdd]
  refine walk_pure (v := .agg (LEV e Ax cx Bx dx)) (fun _ => trivial) (fun _ => rfl) ?_ ?_; (focus (intro us w9 hS9 hF; exact exec_load_g (rx.below hS9 rx.lt).range Try.underlying69 rfl (lev_info _ _ _ _ _) rfl)); simp only [Act.put, List.setIfInBounds_toArray, List.set_cons_zero, List.set_cons_succ, Nat.reduceAdd]
  refine walk_pure (v := .agg (LEV e A c B d)) (fun _ => trivial) (fun _ => rfl) ?_ ?_; (focus (intro us w9 hS9 hF; exact exec_load_g (ru.below hS9 ru.lt).range Try.underlying69 rfl (lev_info _ _ _ _ _) rfl)); simp only [Act.put, List.setIfInBounds_toArray, List.set_cons_zero, List.set_cons_succ, Nat.reduceAdd]
  refine walk_fix (v := .bool true) ?_ ?_; (focus (intro us w9 hS9 hF K hK; clear hF; go_simp; refine (same_l rfl (by omega) (hx.below hS9).held (hH.below (hB.trans (hS9.mono hB.size)))).mono ?_; rintro en w' ⟨rfl, hbw⟩; exact hK _ (below_on hS9 hbw) trivial)); simp only [Act.put, List.setIfInBounds_toArray, List.set_cons_zero, List.set_cons_succ, Nat.reduceAdd]
  refine walk_pure (v := .bool true) (fun _ => trivial) (fun _ => rfl) ?_ ?_; (focus (intro us w9 hS9 hF; clear hF; go_simp; (try with_reducible rfl); done)); simp only [Act.put, List.setIfInBounds_toArray, List.set_cons_zero, List.set_cons_succ, Nat.reduceAdd]
  refine walk_pure (v := .bool true) (fun _ => trivial) (fun _ => rfl) ?_ ?_; (focus (intro us w9 hS9 hF; clear hF; go_simp; (try with_reducible rfl); done)); simp only [Act.put, List.setIfInBounds_toArray, List.set_cons_zero, List.set_cons_succ, Nat.reduceAdd]
  refine walk_fix (v := .bool true) ?_ ?_; (focus (intro us w9 hS9 hF K hK; clear hF; go_simp; refine (awake20 w9).mono ?_; rintro en w' ⟨rfl, hbw⟩; exact hK _ (below_on hS9 hbw) trivial)); simp only [Act.put, List.setIfInBounds_toArray, List.set_cons_zero, List.set_cons_succ, Nat.reduceAdd]
  refine walk_pure (v := .bool true) (fun _ => trivial) (fun _ => rfl) ?_ ?_; (focus (intro us w9 hS9 hF; clear hF; go_simp; (try with_reducible rfl); done)); simp only [Act.put, List.setIfInBounds_toArray, List.set_cons_zero, List.set_cons_succ, Nat.reduceAdd]
  refine walk_pure (v := .bool true) (fun _ => trivial) (fun _ => rfl) ?_ ?_; (focus (intro us w9 hS9 hF; clear hF; go_simp; (try with_reducible rfl); done)); simp only [Act.put, List.setIfInBounds_toArray, List.set_cons_zero, List.set_cons_succ, Nat.reduceAdd]
  refine walk_done fun us w9 hS9 hF => ?_
  clear hF
  go_wp2
  go_ret
  exact ⟨rfl, hB.trans (hS9.mono hB.size)⟩
theorem walk_lexact (W : World) (n : Int) (e : LE) (A : Option Addr) (c : Nat) (B : Option Addr) (d : Nat) (M : Option Addr) (nm mc : Nat) (zm : List Int) (k : Int) (el fl : Bool) (len ack : Int) (p : List UInt8)
    (hwn : (Lit.int .i64 n).wf = true) (he : Held W e A c B d ∧ e.nums) (hmr : IsRow .u8 W M nm mc zm) (hl : p.length = 56 ∧ 0 ≤ ack ∧ ack < 65536) : Calls Try.prog 10 #[.int .i64 n, .agg (LEV e A c B d), .slice M nm mc, .agg (LV k el fl len ack p)] W (True1 W) := by
  obtain ⟨m, hm, -⟩ := hmr.isB
  obtain rfl := hm.1
  rcases Nat.lt_or_ge 2000 m.length with g1 | g1
  · exact link_big e A c B d n M mc m k el fl len ack p W he.1 he.2 hm hl.1 hl.2 g1
  · exact link_main e A c B d n M mc m k el fl len ack p W he.1 he.2 hm hl.1 hl.2 g1
end
end Go.Proofs.Ythjkhambmgepdaa
