/- RingOrder: the walk of poll. -/
import Derived.Test.YthjkhambmgepdaaOrd5
namespace Go.Proofs.Ythjkhambmgepdaa
open Go.RowKit
set_option linter.unusedVariables false
set_option maxRecDepth 20000 in
set_option maxHeartbeats 4000000 in
theorem walk_poll (gp gm : Nat) (s : St) (w : World) (h : Inv gp gm s w) : Calls Try.prog 93 #[.pointer (some ⟨gp, 0, none⟩)] w (fun e w' => e = .returned (.bool true) ∧ Below gm w w' ∧ ∃ s', Inv gp gm s' w' ∧ s'.m ≤ s.m + 1) := by
  have hC := h.cells
  have hgp := h.pair.lt
  go_enter Try.func93, Try.ntmps93
  go_upto_region 1 with (fail)
  refine wp_region_late (n := 88) [15, 16] (PollS1 w s) (Shape w.heap.size) (by kernel_rfl) (by kernel_rfl) (by rfl) ?_ ⟨below_drewN (Below.refl _ _) 1, fun h => by omega, fun h => by omega⟩ ?_
  · intro c us us' w' hk hS
    refine ⟨hS.1, fun hc => ?_, fun hc => ?_⟩
    · rw [← hk 13 (.inl (mayAt_no (d := 0) (by kernel_rfl) (by omega) (by decide)))]
      exact hS.2.1 hc
    · rw [← hk 14 (.inl (mayAt_no (d := 1) (by kernel_rfl) (by omega) (by decide)))]
      exact hS.2.2 hc
  repeat (refine late_pure (by simp) (Shape.refl _) (v := ?_) (fun _ => rfl) ?_ ?_; rotate_left; (focus (intro c9 us w9 hm9 hS9 hF; have g4 := (hS9.1.cell (p := ⟨gp, 4, none⟩) hgp).trans hC.c4; have g5 := (hS9.1.cell (p := ⟨gp, 5, none⟩) hgp).trans hC.c5; have g6 := (hS9.1.cell (p := ⟨gp, 6, none⟩) hgp).trans hC.c6; clear hF; go_simp; (try with_reducible rfl); done)); simp only [Act.put, List.setIfInBounds_toArray, List.set_cons_zero, List.set_cons_succ, Nat.reduceAdd])
  refine late_fix (by simp) (v := ?_) ?_ ?_; rotate_left; (focus (intro c9 us w9 hm9 hS9 hF K hK; go_simp; refine (poll_inv gp gm s w9 (h.below hS9.1)).mono ?_; rintro e w' ⟨rfl, hb⟩; exact hK w' ⟨below_next hS9.1 hb, fun hc => (hS9.2.1 hc).below hb, fun hc => (hS9.2.2 hc).below hb⟩ (Shape.below hb))); simp only [Act.put, List.setIfInBounds_toArray, List.set_cons_zero, List.set_cons_succ, Nat.reduceAdd]
  repeat (refine late_pure (by simp) (Shape.refl _) (v := ?_) (fun _ => rfl) ?_ ?_; rotate_left; (focus (intro c9 us w9 hm9 hS9 hF; have g4 := (hS9.1.cell (p := ⟨gp, 4, none⟩) hgp).trans hC.c4; have g5 := (hS9.1.cell (p := ⟨gp, 5, none⟩) hgp).trans hC.c5; have g6 := (hS9.1.cell (p := ⟨gp, 6, none⟩) hgp).trans hC.c6; clear hF; go_simp; (try with_reducible rfl); done)); simp only [Act.put, List.setIfInBounds_toArray, List.set_cons_zero, List.set_cons_succ, Nat.reduceAdd])
  refine late_free (by simp) (PtrTo w.heap.size 35 2) PtrTo.mono ?_ ?_; (focus (intro c9 us w9 hm9 hS9 hF K hK; go_simp; exact hK _ _ ⟨hS9.1.alloc hS9.1.size _, fun hc => (hS9.2.1 hc).alloc _, fun hc => (hS9.2.2 hc).alloc _⟩ (Shape.alloc _ _ _) ⟨w9.heap.size, _, rfl, hS9.1.size, Row.born w9 35 _, rfl⟩)); simp only [Act.put, List.setIfInBounds_toArray, List.set_cons_zero, List.set_cons_succ, Nat.reduceAdd]
  refine late_free (by simp) (PtrTo w.heap.size 40 61) PtrTo.mono ?_ ?_; (focus (intro c9 us w9 hm9 hS9 hF K hK; go_simp; exact hK _ _ ⟨hS9.1.alloc hS9.1.size _, fun hc => (hS9.2.1 hc).alloc _, fun hc => (hS9.2.2 hc).alloc _⟩ (Shape.alloc _ _ _) ⟨w9.heap.size, _, rfl, hS9.1.size, Row.born w9 40 _, rfl⟩)); simp only [Act.put, List.setIfInBounds_toArray, List.set_cons_zero, List.set_cons_succ, Nat.reduceAdd]
  refine late_store rfl ?_ ?_
  · intro us w9 hS9 hF K hK
    obtain ⟨b3, cs, hu, hB, hr, hn⟩ := hF (13, PtrTo w.heap.size 35 2) (by simp) (by kernel_rfl)
    simp only [hu] at hK ⊢
    rw [if_pos (by rfl)]
    exact step_store hr (by rw [hn, pR_size]) (by rw [pR_size]; exact info35) (pR_one s) rfl rfl (fun w' u' r' => hK w' ⟨Upd.below hS9.1 u' hB, fun _ => ⟨b3, hu, hB, r'⟩, fun hc => by omega⟩ (Shape.upd u' hr r' (by rw [hn, pR_size])))
  simp only [Nat.reduceAdd]
  refine late_store rfl ?_ ?_
  · intro us w9 hS9 hF K hK
    obtain ⟨b4, cs, hu, hB, hr, hn⟩ := hF (14, PtrTo w.heap.size 40 61) (by simp) (by kernel_rfl)
    simp only [hu] at hK ⊢
    rw [if_pos (by rfl)]
    exact step_store hr (by rw [hn, pL_size]) (by rw [pL_size]; exact info40) (pL_one s) rfl rfl (fun w' u' r' => hK w' ⟨Upd.below hS9.1 u' hB, fun _ => (hS9.2.1 (by omega)).upd u' hr (by decide), fun _ => ⟨b4, hu, hB, r'⟩⟩ (Shape.upd u' hr r' (by rw [hn, pL_size])))
  simp only [Nat.reduceAdd]
  repeat (refine late_pure (by simp) (Shape.refl _) (v := ?_) (fun _ => rfl) ?_ ?_; rotate_left; (focus (intro c9 us w9 hm9 hS9 hF; have g4 := (hS9.1.cell (p := ⟨gp, 4, none⟩) hgp).trans hC.c4; have g5 := (hS9.1.cell (p := ⟨gp, 5, none⟩) hgp).trans hC.c5; have g6 := (hS9.1.cell (p := ⟨gp, 6, none⟩) hgp).trans hC.c6; clear hF; go_simp; (try with_reducible rfl); done)); simp only [Act.put, List.setIfInBounds_toArray, List.set_cons_zero, List.set_cons_succ, Nat.reduceAdd])
  refine late_done fun us w1 hS1 hF => ?_
  obtain ⟨b3, hu3, hb3, r3⟩ := hS1.2.1 (by omega)
  obtain ⟨b4, hu4, hb4, r4⟩ := hS1.2.2 (by omega)
  have hB1 := hS1.1
  clear hF hS1 hC
  simp only [hu3, hu4]
  have hI := h.below hB1
  have hC1 := hI.cells
  rcases Nat.lt_or_ge s.g s.t with hg | hg
  · have e3 : pE s = 0 := if_pos hg
    rw [e3]
    have hd : decide ((s.g : Int) < (s.t : Int)) = true := by simp; omega
    clear hC1
    go_upto_region 2 with (fail)
    refine wp_region_told (n := 88) (fun w' => w' = w1.drew) (fun _ _ => True) (by kernel_rfl) (by kernel_rfl) (by rfl) rfl ?_
    have hI : Inv gp gm s w1.drew := hI.below (Below.refl _ _).drew
    have r3 : Row w1.drew b3 35 (pR s) := r3
    have r4 : Row w1.drew b4 40 (pL s) := r4
    have hB1 : Below w.heap.size w w1.drew := hB1.drew
    generalize w1.drew = w2 at *
    obtain ⟨c0, c1, c2, c3, c4, c5, c6, c7, c8, c9, c10, c11, fz⟩ := hI.cells
    repeat (first | (refine walk_pure (v := ?_) (fun _ => trivial) (fun _ => rfl) ?_ ?_; rotate_left; (focus (intro us w9 hS9 hF; subst hS9; go_simp; (try with_reducible rfl); done)); simp only [Act.put, List.setIfInBounds_toArray, List.set_cons_zero, List.set_cons_succ, Nat.reduceAdd]) | (refine walk_skip (fun _ => trivial) (fun _ => rfl) ?_; simp only [Act.put, List.setIfInBounds_toArray, List.set_cons_zero, List.set_cons_succ, Nat.reduceAdd]))
    refine walk_done fun us w9 hS9 hF => ?_
    subst hS9
    clear hF
    rw [show pR s = #[.int .i64 s.N, .int .u64 ((s.g : Int) + 1)] from if_pos hg] at r3
    rw [show pL s = ordL s.N s.g (s.bs.getD s.g 0) from if_pos hg] at r4
    obtain ⟨⟨d0, d1⟩, f3⟩ := two_cells r3
    go_upto_region 6 with (fail)
    have r5 := (hI.pair.set 4 (.int .i64 s.N)).set 5 (.int .u64 ((s.g : Int) + 1))
    have u3 := (Upd.setCell w9 gp 4 (.int .i64 s.N)).trans (Upd.setCell _ gp 5 (.int .u64 ((s.g : Int) + 1)))
    generalize (w9.setCell ⟨gp, 4, none⟩ (.int .i64 s.N)).setCell ⟨gp, 5, none⟩ (.int .u64 ((s.g : Int) + 1)) = w3 at *
    have r5 : Row w3 gp 54 (PC s.N s.m s.a (s.g + 1) s.t gm s.SL s.SI s.SB s.ST) := by simpa [PC] using r5
    have hgpm := hI.gmp
    have hgb3 : gp ≠ b3 := by omega
    have hgb4 : gp ≠ b4 := by omega
    have hB3 := Upd.below (hB1.mono (by omega : gm ≤ w.heap.size)) u3 (by omega)
    have r4 := r4.upd u3 (Ne.symm hgb4)
    have hM3 := hI.mem.upd u3 (by omega)
    have l3 := hI.lines.upd u3 (by omega)
    have i3 := hI.slots.upd u3 (by omega)
    have b3' := hI.sent.upd u3 (by omega)
    have t3 := hI.got.upd u3 (by omega)
    clear c0 c1 c2 c3 c4 c5 c6 c7 c8 c9 c10 c11 fz d0 d1 f3 r3 u3 hB1
    refine wp_region_late (n := 88) [8, 9, 12] (AppS gp (gp + 1) 5 1 s.AT s.g s.cT ((s.bs.take s.g).map bv) #[bv (s.bs.getD s.g 0)] (fun v => PC s.N s.m s.a (s.g + 1) s.t gm s.SL s.SI s.SB v) w3.drew 8 9) (fun _ _ => True) (by kernel_rfl) (by kernel_rfl) (by rfl) AppS.loc AppS.zero ?_
    have r5 : Row w3.drew gp 54 (PC s.N s.m s.a (s.g + 1) s.t gm s.SL s.SI s.SB s.ST) := r5
    have r4 : Row w3.drew b4 40 (ordL s.N s.g (s.bs.getD s.g 0)) := r4
    have hB3 : Below gm w w3.drew := hB3.drew
    have hM3 : MemL w3.drew gm 40 s.ls := hM3
    have l3 := l3.drew
    have i3 := i3.drew
    have b3' := b3'.drew
    have t3 := t3.drew
    generalize w3.drew = w4 at *
    have hg4 := r5.lt
    have hm600 := h.cnt.m6
    have hgm6 : s.g ≤ 600 := by have := h.cnt.gt; have := h.cnt.tm; omega
    repeat (refine late_pure (by simp) (fun _ => trivial) (v := ?_) (fun _ => rfl) ?_ ?_; rotate_left; (focus (intro c9 us w9 hm9 hS9 hF; clear hF; go_simp; (try with_reducible rfl); done)); simp only [Act.put, List.setIfInBounds_toArray, List.set_cons_zero, List.set_cons_succ, Nat.reduceAdd])
    refine late_pure (by simp) (fun _ => trivial) (v := ?_) (fun _ => rfl) ?_ ?_; rotate_left; (focus (intro c9 us w9 hm9 hS9 hF; have hc9 : c9 < 2 := (by rcases Nat.lt_or_ge c9 2 with h9 | h9; exact h9; exact absurd hm9 (by rw [mayAt_no (d := 1) (by kernel_rfl) (by omega) (by decide)]; decide)); have g11 := (hS9.early hc9 r5).cell 11; simp only [PC] at g11; clear hF; go_simp; (try with_reducible rfl); done)); simp only [Act.put, List.setIfInBounds_toArray, List.set_cons_zero, List.set_cons_succ, Nat.reduceAdd]
    repeat (refine late_pure (by simp) (fun _ => trivial) (v := ?_) (fun _ => rfl) ?_ ?_; rotate_left; (focus (intro c9 us w9 hm9 hS9 hF; clear hF; go_simp; (try with_reducible rfl); done)); simp only [Act.put, List.setIfInBounds_toArray, List.set_cons_zero, List.set_cons_succ, Nat.reduceAdd])
    refine late_pure (by simp) (fun _ => trivial) (v := ?_) (fun _ => rfl) ?_ ?_; rotate_left; (focus (intro c9 us w9 hm9 hS9 hF; have hc9 : c9 < 1 := (by rcases Nat.lt_or_ge c9 1 with h9 | h9; exact h9; exact absurd hm9 (by rw [mayAt_no (d := 0) (by kernel_rfl) (by omega) (by decide)]; decide)); have g5 := (hS9.early (by omega) r4).cell 5; simp only [ordL, LV] at g5; clear hF; go_simp; (try with_reducible rfl); done)); simp only [Act.put, List.setIfInBounds_toArray, List.set_cons_zero, List.set_cons_succ, Nat.reduceAdd]
    refine late_chain (by simp) ?_ ?_
    · intro us w9 hS9 hF K hK
      obtain rfl := hS9.1 rfl
      go_simp
      exact hK _ _ (AppS.one us) trivial
    simp only [Act.put, List.setIfInBounds_toArray, List.set_cons_zero, List.set_cons_succ, Nat.reduceAdd]
    refine late_chain (by simp) ?_ ?_
    · intro us w9 hS9 hF K hK
      obtain ⟨hu, rfl⟩ := hS9.2.1 rfl
      simp only [hu] at hK ⊢
      rw [if_pos (by rfl)]
      exact step_append Try.underlying44 info_u8 rfl (by omega) (t3.alloc _) (Row.born _ _ _) rfl (by simp [bv, Value.oneCell']) (by omega) (by omega) (by simp; omega) rfl rfl (fun A' c'' w' h2 h3 h5 => hK _ _ (AppS.two h2 h3 h5) trivial)
    simp only [Act.put, List.setIfInBounds_toArray, List.set_cons_zero, List.set_cons_succ, Nat.reduceAdd]
    repeat (refine late_pure (by simp) (fun _ => trivial) (v := ?_) (fun _ => rfl) ?_ ?_; rotate_left; (focus (intro c9 us w9 hm9 hS9 hF; clear hF; go_simp; (try with_reducible rfl); done)); simp only [Act.put, List.setIfInBounds_toArray, List.set_cons_zero, List.set_cons_succ, Nat.reduceAdd])
    refine late_store rfl ?_ ?_
    · intro us w9 hS9 hF K hK
      obtain ⟨A', c', w2, hu, h2, h3, h5, h6, _⟩ := hS9.2.2 (by omega)
      obtain rfl := h6 rfl
      simp only [hu] at hK ⊢
      have r2 := (r5.alloc (.cells #[bv (s.bs.getD s.g 0)] 5)).kept h3 (t3.far (by omega))
      have k11 := r2.cell 11
      have k12 := r2.frozen 11
      simp only [PC] at k11
      go_simp
      exact hK _ ⟨fun h => by omega, fun h => by omega, fun _ => ⟨A', c', w9, hu, h2, h3, h5, fun h => by omega, fun _ => ⟨Upd.setCell _ _ _ _, by simpa [PC] using r2.set 11 (.slice A' (s.g + 1) c')⟩⟩⟩ trivial
    simp only [Nat.reduceAdd]
    refine late_done fun us w5 hS5 hF => ?_
    obtain ⟨A', c', w2, hu, h2, h3, h5, _, h7⟩ := hS5.2.2 (by omega)
    obtain ⟨u5, r6⟩ := h7 (by omega)
    clear hF hS5 h7
    have hJ := hI.polled hg hM3 l3 i3 b3' t3 h2 h3 h5 u5 r6
    have hB5 : Below gm w w5 := Upd.below ((hB3.alloc (by have := hB3.size; omega) _).grown h3 (by have := hB3.size; simp; omega) (fun k hk => by have := (t3.ge k hk).1; omega)) u5 (by omega)
    clear h2 h3 h5 u5 r6 r5 r4 hM3 l3 i3 b3' t3 hB3 hu
    have hms : ({ s with g := s.g + 1, AT := A', cT := c' } : St).m ≤ s.m + 1 := Nat.le_succ _
    generalize hs' : ({ s with g := s.g + 1, AT := A', cT := c' } : St) = s' at *
    clear hs' hI hg hd e3 A' c'
    go_upto_region 7 with (fail)
    refine wp_region_told (n := 88) (fun w' => w' = w5.drew) (fun _ _ => True) (by kernel_rfl) (by kernel_rfl) (by rfl) rfl ?_
    have hJ : Inv gp gm s' w5.drew := hJ.below (Below.refl _ _).drew
    have hB5 : Below gm w w5.drew := hB5.drew
    generalize w5.drew = w6 at *
    have hgm' : s'.g ≤ s'.m := by have := hJ.cnt.gt; have := hJ.cnt.tm; omega
    have k1 := run_str (P := Try.prog) (w := w6) Try.underlying44 Try.underlying5 Try.underlying9 s'.cT (OwnB.isB (hJ.got : OwnB w6 (gp + 1) 5 s'.AT s'.g s'.cT (s'.bs.take s'.g)))
    have k2 := run_str (P := Try.prog) (w := w6) Try.underlying44 Try.underlying5 Try.underlying9 s'.cB ((OwnB.isB (hJ.sent : OwnB w6 (gp + 1) 5 s'.AB s'.m s'.cB s'.bs)).pre s'.g hgm')
    have hcap : s'.g ≤ s'.cB := by have := hJ.sent.cap; omega
    have hle : decide ((s'.g : Int) ≤ (s'.m : Int)) = true := by simp; omega
    have hg600 : s'.g ≤ 600 := by have := hJ.cnt.m6; omega
    obtain ⟨c0, c1, c2, c3, c4, c5, c6, c7, c8, c9, c10, c11, fz⟩ := hJ.cells
    repeat (first | (refine walk_pure (v := ?_) (fun _ => trivial) (fun _ => rfl) ?_ ?_; rotate_left; (focus (intro us w9 hS9 hF; subst hS9; go_simp; (try with_reducible rfl); done)); simp only [Act.put, List.setIfInBounds_toArray, List.set_cons_zero, List.set_cons_succ, Nat.reduceAdd]) | (refine walk_skip (fun _ => trivial) (fun _ => rfl) ?_; simp only [Act.put, List.setIfInBounds_toArray, List.set_cons_zero, List.set_cons_succ, Nat.reduceAdd]))
    refine walk_done fun us w9 hS9 hF => ?_
    subst hS9
    clear hF c0 c1 c2 c3 c4 c5 c6 c7 c8 c9 c10 c11 fz k1 k2 hcap hle hg600
    go_wp2
    go_ret
    exact ⟨rfl, hB5, s', hJ, hms⟩
  · have e3 : pE s = 17 := if_neg (by omega)
    rw [e3]
    have hd : decide (s.g < s.t) = false := by simp; omega
    clear hC1
    go_upto_region 2 with (fail)
    refine wp_region_told (n := 88) (fun w' => w' = w1.drew) (fun _ _ => True) (by kernel_rfl) (by kernel_rfl) (by rfl) rfl ?_
    have hI : Inv gp gm s w1.drew := hI.below (Below.refl _ _).drew
    have r3 : Row w1.drew b3 35 (pR s) := r3
    have r4 : Row w1.drew b4 40 (pL s) := r4
    have hB1 : Below w.heap.size w w1.drew := hB1.drew
    generalize w1.drew = w2 at *
    obtain ⟨c0, c1, c2, c3, c4, c5, c6, c7, c8, c9, c10, c11, fz⟩ := hI.cells
    repeat (first | (refine walk_pure (v := ?_) (fun _ => trivial) (fun _ => rfl) ?_ ?_; rotate_left; (focus (intro us w9 hS9 hF; subst hS9; go_simp; (try with_reducible rfl); done)); simp only [Act.put, List.setIfInBounds_toArray, List.set_cons_zero, List.set_cons_succ, Nat.reduceAdd]) | (refine walk_skip (fun _ => trivial) (fun _ => rfl) ?_; simp only [Act.put, List.setIfInBounds_toArray, List.set_cons_zero, List.set_cons_succ, Nat.reduceAdd]))
    refine walk_done fun us w9 hS9 hF => ?_
    subst hS9
    clear hF
    go_upto_region 7 with (fail)
    have hgpm := hI.gmp
    have hB5 : Below gm w w9 := hB1.mono (by omega)
    obtain ⟨s', hJ, hms⟩ : ∃ s', Inv gp gm s' w9 ∧ s'.m ≤ s.m + 1 := ⟨s, hI, Nat.le_succ _⟩
    clear c0 c1 c2 c3 c4 c5 c6 c7 c8 c9 c10 c11 fz hd e3 hI r3 r4 hB1
    refine wp_region_told (n := 88) (fun w' => w' = w9.drew) (fun _ _ => True) (by kernel_rfl) (by kernel_rfl) (by rfl) rfl ?_
    have hJ : Inv gp gm s' w9.drew := hJ.below (Below.refl _ _).drew
    have hB5 : Below gm w w9.drew := hB5.drew
    generalize w9.drew = w6 at *
    have hgm' : s'.g ≤ s'.m := by have := hJ.cnt.gt; have := hJ.cnt.tm; omega
    have k1 := run_str (P := Try.prog) (w := w6) Try.underlying44 Try.underlying5 Try.underlying9 s'.cT (OwnB.isB (hJ.got : OwnB w6 (gp + 1) 5 s'.AT s'.g s'.cT (s'.bs.take s'.g)))
    have k2 := run_str (P := Try.prog) (w := w6) Try.underlying44 Try.underlying5 Try.underlying9 s'.cB ((OwnB.isB (hJ.sent : OwnB w6 (gp + 1) 5 s'.AB s'.m s'.cB s'.bs)).pre s'.g hgm')
    have hcap : s'.g ≤ s'.cB := by have := hJ.sent.cap; omega
    have hle : decide ((s'.g : Int) ≤ (s'.m : Int)) = true := by simp; omega
    have hg600 : s'.g ≤ 600 := by have := hJ.cnt.m6; omega
    obtain ⟨c0, c1, c2, c3, c4, c5, c6, c7, c8, c9, c10, c11, fz⟩ := hJ.cells
    repeat (first | (refine walk_pure (v := ?_) (fun _ => trivial) (fun _ => rfl) ?_ ?_; rotate_left; (focus (intro us w9 hS9 hF; subst hS9; go_simp; (try with_reducible rfl); done)); simp only [Act.put, List.setIfInBounds_toArray, List.set_cons_zero, List.set_cons_succ, Nat.reduceAdd]) | (refine walk_skip (fun _ => trivial) (fun _ => rfl) ?_; simp only [Act.put, List.setIfInBounds_toArray, List.set_cons_zero, List.set_cons_succ, Nat.reduceAdd]))
    refine walk_done fun us w10 hS9 hF => ?_
    subst hS9
    clear hF c0 c1 c2 c3 c4 c5 c6 c7 c8 c9 c10 c11 fz k1 k2 hcap hle hg600
    go_wp2
    go_ret
    exact ⟨rfl, hB5, s', hJ, hms⟩
end Go.Proofs.Ythjkhambmgepdaa
