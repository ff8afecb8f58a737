/- Page tables: with. -/
import Derived.Test.YtonloimepfojdaaWit1
namespace Go.Proofs.Ytonloimepfojdaa
open Go.RowKit
set_option linter.unusedVariables false
set_option maxRecDepth 20000 in
set_option maxHeartbeats 8000000 in
theorem with_nil (b w lv : Int) (ix bs rt co op pt : Int) (W : World) :
    Calls Try.prog 43 #[.agg #[.int .i64 b, .int .i64 w, .int .i64 lv, .slice none 0 0], .agg #[.int .i64 ix, .int .i64 bs, .int .i64 rt, .int .i64 co, .int .i64 op, .int .i64 pt]] W (WithPost b w lv (withM [] ⟨ix, bs, rt, co, op, pt⟩) W) := by
  have hB := (((Below.refl W.heap.size W).alloc (Nat.le_refl _) (.cells #[.int .i64 b, .int .i64 w, .int .i64 lv, .slice none 0 0] 43)).alloc (by simp) (.cells #[.int .i64 ix, .int .i64 bs, .int .i64 rt, .int .i64 co, .int .i64 op, .int .i64 pt] 60)).alloc (by simp; omega) (.cells #[.int .i64 0, .int .i64 0, .int .i64 0, .slice none 0 0] 43)
  have r2 := ((Row.born W 43 #[.int .i64 b, .int .i64 w, .int .i64 lv, .slice none 0 0]).alloc (.cells #[.int .i64 ix, .int .i64 bs, .int .i64 rt, .int .i64 co, .int .i64 op, .int .i64 pt] 60)).alloc (.cells #[.int .i64 0, .int .i64 0, .int .i64 0, .slice none 0 0] 43)
  have r3 : Row ((W.alloc (.cells #[.int .i64 b, .int .i64 w, .int .i64 lv, .slice none 0 0] 43)).alloc (.cells #[.int .i64 ix, .int .i64 bs, .int .i64 rt, .int .i64 co, .int .i64 op, .int .i64 pt] 60)) (W.heap.size + 1) 60 #[.int .i64 ix, .int .i64 bs, .int .i64 rt, .int .i64 co, .int .i64 op, .int .i64 pt] := by
    have h := Row.born (W.alloc (.cells #[.int .i64 b, .int .i64 w, .int .i64 lv, .slice none 0 0] 43)) 60 #[.int .i64 ix, .int .i64 bs, .int .i64 rt, .int .i64 co, .int .i64 op, .int .i64 pt]
    simpa using h
  have r3 := r3.alloc (.cells #[.int .i64 0, .int .i64 0, .int .i64 0, .slice none 0 0] 43)
  have r4 : Row (((W.alloc (.cells #[.int .i64 b, .int .i64 w, .int .i64 lv, .slice none 0 0] 43)).alloc (.cells #[.int .i64 ix, .int .i64 bs, .int .i64 rt, .int .i64 co, .int .i64 op, .int .i64 pt] 60)).alloc (.cells #[.int .i64 0, .int .i64 0, .int .i64 0, .slice none 0 0] 43)) (W.heap.size + 2) 43 #[.int .i64 0, .int .i64 0, .int .i64 0, .slice none 0 0] := by
    have h := Row.born ((W.alloc (.cells #[.int .i64 b, .int .i64 w, .int .i64 lv, .slice none 0 0] 43)).alloc (.cells #[.int .i64 ix, .int .i64 bs, .int .i64 rt, .int .i64 co, .int .i64 op, .int .i64 pt] 60)) 43 #[.int .i64 0, .int .i64 0, .int .i64 0, .slice none 0 0]
    simpa using h
  go_enter Try.func43, Try.ntmps43
  go_upto_region 1 with (fail)
  have HX : Boxes W (((W.alloc (.cells #[.int .i64 b, .int .i64 w, .int .i64 lv, .slice none 0 0] 43)).alloc (.cells #[.int .i64 ix, .int .i64 bs, .int .i64 rt, .int .i64 co, .int .i64 op, .int .i64 pt] 60)).alloc (.cells #[.int .i64 0, .int .i64 0, .int .i64 0, .slice none 0 0] 43)) W.heap.size b w lv none 0 0 #[.int .i64 ix, .int .i64 bs, .int .i64 rt, .int .i64 co, .int .i64 op, .int .i64 pt] := ⟨r2, r3, r4, hB⟩
  generalize ((W.alloc (.cells #[.int .i64 b, .int .i64 w, .int .i64 lv, .slice none 0 0] 43)).alloc (.cells #[.int .i64 ix, .int .i64 bs, .int .i64 rt, .int .i64 co, .int .i64 op, .int .i64 pt] 60)).alloc (.cells #[.int .i64 0, .int .i64 0, .int .i64 0, .slice none 0 0] 43) = w1 at *
  obtain ⟨g, hg⟩ : ∃ g, W.heap.size = g := ⟨_, rfl⟩
  have HG := Lib.hid hg
  rw [hg] at HX ⊢
  clear r2 r3 r4 hB hg
  go_wp2
  go_loopw [5] (fun i wr => i = .int .i64 0 ∧ Boxes W wr g b w lv none 0 0 #[.int .i64 ix, .int .i64 bs, .int .i64 rt, .int .i64 co, .int .i64 op, .int .i64 pt]) (fun i _ => 0)
  case atStart => exact ⟨rfl, HX⟩
  case round =>
    clear HX
    obtain ⟨rfl, HX⟩ := hrel
    go_upto_region 2 with (fail)
    refine wp_region_told (n := 59) (fun w' => w' = wr.drew) (fun _ _ => True) (by kernel_rfl) (by kernel_rfl) (by rfl) rfl ?_
    have HX := HX.drew
    generalize wr.drew = w2 at *
    have x2 := HX.t2
    have a3 := x2.cell 3
    simp at a3
    clear x2
    repeat (first | (refine walk_pure (v := ?_) (fun _ => trivial) (fun _ => rfl) ?_ ?_; rotate_left; (focus (intro us w9 hS9 hF; subst hS9; go_simp; (try with_reducible rfl); done)); simp only [Act.put, List.setIfInBounds_toArray, List.set_cons_zero, List.set_cons_succ, Nat.reduceAdd]) | (refine walk_skip (fun _ => trivial) (fun _ => rfl) ?_; simp only [Act.put, List.setIfInBounds_toArray, List.set_cons_zero, List.set_cons_succ, Nat.reduceAdd]))
    refine walk_done fun us w9 hS9 hF => ?_
    subst hS9
    clear hF a3
    go_upto_region 4 with (fail)
    refine wp_region_told (n := 59) (fun w' => w' = w9.drew) (fun _ _ => True) (by kernel_rfl) (by kernel_rfl) (by rfl) rfl ?_
    have HX := HX.drew
    generalize w9.drew = w3 at *
    have x2 := HX.t2
    have a3 := x2.cell 3
    simp at a3
    clear x2
    repeat (first | (refine walk_pure (v := ?_) (fun _ => trivial) (fun _ => rfl) ?_ ?_; rotate_left; (focus (intro us w9 hS9 hF; subst hS9; go_simp; (try with_reducible rfl); done)); simp only [Act.put, List.setIfInBounds_toArray, List.set_cons_zero, List.set_cons_succ, Nat.reduceAdd]) | (refine walk_skip (fun _ => trivial) (fun _ => rfl) ?_; simp only [Act.put, List.setIfInBounds_toArray, List.set_cons_zero, List.set_cons_succ, Nat.reduceAdd]))
    refine walk_done fun us w9 hS9 hF => ?_
    subst hS9
    clear hF a3
    have hd4 : True := trivial
    have HF : True := trivial
    go_upto_region 6 with (fail)
    clear hd4
    refine wp_region_tailN (n := 59) 7 (fun w' => Below w9.heap.size w9 w') (fun x y => Below x.heap.size x y) (by kernel_rfl) (by kernel_rfl) (by decide) (by rfl) (Below.refl _ _).drew ?_
    simp only [List.take_succ_cons, List.take_zero, List.drop_succ_cons, List.drop_zero]
    have x2 := HX.t2
    have x3 := HX.t3
    have x4 := HX.t4
    have hlg := x2.lt
    have hlg1 := x3.lt
    have hlg2 := x4.lt
    have a3 := x2.cell 3
    have b0 := x3.cell 0
    have b1' := x3.cell 1
    have b2' := x3.cell 2
    have b3' := x3.cell 3
    have b4' := x3.cell 4
    have b5' := x3.cell 5
    simp at a3 b0 b1' b2' b3' b4' b5'
    refine tail_pure (fun w => Below.refl _ w) (v := .pointer (some ⟨g, 3, none⟩)) (fun _ => rfl) ?_ ?_; (focus (intro us w8 hS8 hF; clear hF; have q3 := (hS8.cell (p := ⟨g, 3, none⟩) hlg).trans a3; have p0 := (hS8.cell (p := ⟨g + 1, 0, none⟩) hlg1).trans b0; have p1 := (hS8.cell (p := ⟨g + 1, 1, none⟩) hlg1).trans b1'; have p2 := (hS8.cell (p := ⟨g + 1, 2, none⟩) hlg1).trans b2'; have p3 := (hS8.cell (p := ⟨g + 1, 3, none⟩) hlg1).trans b3'; have p4 := (hS8.cell (p := ⟨g + 1, 4, none⟩) hlg1).trans b4'; have p5 := (hS8.cell (p := ⟨g + 1, 5, none⟩) hlg1).trans b5'; clear hS8; go_simp; try (with_reducible rfl))); simp only [Act.put, List.setIfInBounds_toArray, List.set_cons_zero, List.set_cons_succ, Nat.reduceAdd]
    refine tail_pure (fun w => Below.refl _ w) (v := .slice none 0 0) (fun _ => rfl) ?_ ?_; (focus (intro us w8 hS8 hF; clear hF; have q3 := (hS8.cell (p := ⟨g, 3, none⟩) hlg).trans a3; have p0 := (hS8.cell (p := ⟨g + 1, 0, none⟩) hlg1).trans b0; have p1 := (hS8.cell (p := ⟨g + 1, 1, none⟩) hlg1).trans b1'; have p2 := (hS8.cell (p := ⟨g + 1, 2, none⟩) hlg1).trans b2'; have p3 := (hS8.cell (p := ⟨g + 1, 3, none⟩) hlg1).trans b3'; have p4 := (hS8.cell (p := ⟨g + 1, 4, none⟩) hlg1).trans b4'; have p5 := (hS8.cell (p := ⟨g + 1, 5, none⟩) hlg1).trans b5'; clear hS8; go_simp; try (with_reducible rfl))); simp only [Act.put, List.setIfInBounds_toArray, List.set_cons_zero, List.set_cons_succ, Nat.reduceAdd]
    refine tail_pure (fun w => Below.refl _ w) (v := .int .i64 0) (fun _ => rfl) ?_ ?_; (focus (intro us w8 hS8 hF; clear hF; have q3 := (hS8.cell (p := ⟨g, 3, none⟩) hlg).trans a3; have p0 := (hS8.cell (p := ⟨g + 1, 0, none⟩) hlg1).trans b0; have p1 := (hS8.cell (p := ⟨g + 1, 1, none⟩) hlg1).trans b1'; have p2 := (hS8.cell (p := ⟨g + 1, 2, none⟩) hlg1).trans b2'; have p3 := (hS8.cell (p := ⟨g + 1, 3, none⟩) hlg1).trans b3'; have p4 := (hS8.cell (p := ⟨g + 1, 4, none⟩) hlg1).trans b4'; have p5 := (hS8.cell (p := ⟨g + 1, 5, none⟩) hlg1).trans b5'; clear hS8; go_simp; try (with_reducible rfl))); simp only [Act.put, List.setIfInBounds_toArray, List.set_cons_zero, List.set_cons_succ, Nat.reduceAdd]
    refine tail_pure (fun w => Below.refl _ w) (v := .slice none 0 0) (fun _ => rfl) ?_ ?_; (focus (intro us w8 hS8 hF; clear hF; have q3 := (hS8.cell (p := ⟨g, 3, none⟩) hlg).trans a3; have p0 := (hS8.cell (p := ⟨g + 1, 0, none⟩) hlg1).trans b0; have p1 := (hS8.cell (p := ⟨g + 1, 1, none⟩) hlg1).trans b1'; have p2 := (hS8.cell (p := ⟨g + 1, 2, none⟩) hlg1).trans b2'; have p3 := (hS8.cell (p := ⟨g + 1, 3, none⟩) hlg1).trans b3'; have p4 := (hS8.cell (p := ⟨g + 1, 4, none⟩) hlg1).trans b4'; have p5 := (hS8.cell (p := ⟨g + 1, 5, none⟩) hlg1).trans b5'; clear hS8; go_simp; try (with_reducible rfl))); simp only [Act.put, List.setIfInBounds_toArray, List.set_cons_zero, List.set_cons_succ, Nat.reduceAdd]
    refine tail_free (fun u w' => ∃ A' c', u = .slice A' 0 c' ∧ OwnR w' w9.heap.size 60 6 A' 0 c' (msC [])) (fun u x y hg ⟨A', c', e, h⟩ => ⟨A', c', e, h.below hg⟩) ?_ ?_; (focus (intro us w8 hS8 hF K hK; clear hF; rw [if_pos (by rfl)]; exact step_append_ms (c2 := 0) Try.underlying41 info_map rfl (by omega) (OwnR.nil w8 w9.heap.size 60 6) (IsMs.empty none) (by omega) hS8.size rfl rfl (fun A' c'' w' h2 h3 => hK _ _ ((hS8.grown h3 hS8.size (fun z hz => by cases hz))) ((Below.refl _ _).grown h3 (Nat.le_refl _) (fun z hz => by cases hz)) ⟨A', c'', by rw [Nat.zero_add], by rw [Nat.zero_add, List.nil_append] at h2; exact h2⟩))); simp only [Act.put, List.setIfInBounds_toArray, List.set_cons_zero, List.set_cons_succ, Nat.reduceAdd]
    refine tail_pure (fun w => Below.refl _ w) (v := .agg #[.int .i64 ix, .int .i64 bs, .int .i64 rt, .int .i64 co, .int .i64 op, .int .i64 pt]) (fun _ => rfl) ?_ ?_; (focus (intro us w8 hS8 hF; clear hF; have q3 := (hS8.cell (p := ⟨g, 3, none⟩) hlg).trans a3; have p0 := (hS8.cell (p := ⟨g + 1, 0, none⟩) hlg1).trans b0; have p1 := (hS8.cell (p := ⟨g + 1, 1, none⟩) hlg1).trans b1'; have p2 := (hS8.cell (p := ⟨g + 1, 2, none⟩) hlg1).trans b2'; have p3 := (hS8.cell (p := ⟨g + 1, 3, none⟩) hlg1).trans b3'; have p4 := (hS8.cell (p := ⟨g + 1, 4, none⟩) hlg1).trans b4'; have p5 := (hS8.cell (p := ⟨g + 1, 5, none⟩) hlg1).trans b5'; clear hS8; go_simp; try (with_reducible rfl))); simp only [Act.put, List.setIfInBounds_toArray, List.set_cons_zero, List.set_cons_succ, Nat.reduceAdd]
    refine tail_free (fun u w' => ∃ q, u = .slice (some ⟨q, 0, none⟩) 1 1 ∧ Row w' q 60 #[.int .i64 ix, .int .i64 bs, .int .i64 rt, .int .i64 co, .int .i64 op, .int .i64 pt]) (fun u x y hg ⟨q, e, h⟩ => ⟨q, e, h.below hg h.lt⟩) ?_ ?_; (focus (intro us w8 hS8 hF K hK; clear hF; rw [if_pos (by rfl)]; exact step_build_one Try.underlying41 info_map rfl (by omega) (by omega) rfl (hK _ _ (hS8.alloc hS8.size _) ((Below.refl _ _).alloc (Nat.le_refl _) _) ⟨w8.heap.size, rfl, Row.born _ _ _⟩))); simp only [Act.put, List.setIfInBounds_toArray, List.set_cons_zero, List.set_cons_succ, Nat.reduceAdd]
    refine tail_done fun us w10 hS10 hF => ?_
    obtain ⟨A', c', hu4, ho4⟩ := hF _ (List.mem_cons_of_mem _ (List.mem_cons_self ..))
    obtain ⟨q, hu6, hr6⟩ := hF _ (List.mem_cons_self ..)
    dsimp only at hu4 hu6
    clear hF a3 b0 b1' b2' b3' b4' b5'
    simp only [hu4, hu6]
    have hsz10 := hS10.size
    refine wp_append_one (P := Try.prog) (news := [.int .i64 ix, .int .i64 bs, .int .i64 rt, .int .i64 co, .int .i64 op, .int .i64 pt]) Try.underlying41 info_map rfl (by omega) ho4 hr6 rfl (by simp [Value.oneCell']) (by omega) (by omega) hsz10 rfl rfl ?_
    intro A2 c2 w11 h2 h3 _
    have hB11 := hS10.grown h3 hsz10 (fun z hz => (ho4.ge z hz).1)
    have x2 := x2.below hB11 hlg
    have x3 := x3.below hB11 hlg1
    have x4 := x4.below hB11 hlg2
    have hW0 := HX.bel.size
    have hBW := HX.bel.trans (hB11.mono hW0)
    have hsz11 := hB11.size
    generalize w9.heap.size = W0 at *
    clear hS10 hr6 ho4 h3 hu4 hu6 hB11 HX
    have a3 := x2.cell 3
    have af := x2.frozen 3
    simp at a3
    skip
    go_upto_region 7 with (fail)
    go_upto_region 8 with ((at_builtin; (refine wp_append_ms (P := Try.prog) (c2 := 0) Try.underlying41 info_map rfl (by omega) h2 (IsMs.empty _) (by omega) hsz11 rfl rfl ?_); intro A3 c3 w12 h4 h5))
    have hB12 : Below W0 w11 w12 := (Below.refl _ _).grown h5 hsz11 (fun z hz => (h2.ge z hz).1)
    have x2 := x2.below hB12 hlg
    have x4 := x4.below hB12 hlg2
    have hBW := hBW.trans (hB12.mono hW0)
    clear h2 h5 hB12 x3 a3 af
    have hW : withM [] ⟨ix, bs, rt, co, op, pt⟩ = [] ++ ⟨ix, bs, rt, co, op, pt⟩ :: [] := by
      rfl
    have hl : (withM [] ⟨ix, bs, rt, co, op, pt⟩).length = 1 := by rw [hW]; rfl
    have h6 : OwnR w12 W0 60 6 A3 (1) c3 (msC (withM [] ⟨ix, bs, rt, co, op, pt⟩)) := by
      rw [hW, msC_append]
      have e : msC (⟨ix, bs, rt, co, op, pt⟩ :: []) = [.int .i64 ix, .int .i64 bs, .int .i64 rt, .int .i64 co, .int .i64 op, .int .i64 pt] ++ msC ([]) := rfl
      rw [e, ← List.append_assoc]
      exact h4
    have HLL := Lib.hid hl
    clear h4 hW hl HF
    generalize withM [] ⟨ix, bs, rt, co, op, pt⟩ = mm at *
    have a3 := x2.cell 3
    have af := x2.frozen 3
    simp at a3
    go_upto_region 9 with (fail)
    have u1 := Upd.setCell w12 g 3 (.slice A3 1 c3)
    have y2 := x2.set 3 (.slice A3 1 c3)
    have y4 := x4.upd u1 (by omega)
    have hB1 := Upd.below hBW u1 (by have := HG.out; omega)
    have h6 := h6.updX u1 (by omega)
    generalize w12.setCell ⟨g, 3, none⟩ (.slice A3 1 c3) = w13 at *
    clear x2 x4 a3 af u1 hBW
    have a0 := y2.cell 0
    have a1 := y2.cell 1
    have a2 := y2.cell 2
    have a3 := y2.cell 3
    have d0 := y4.cell 0
    have d1 := y4.cell 1
    have d2 := y4.cell 2
    have d3 := y4.cell 3
    have df := y4.frozen
    simp at a0 a1 a2 a3 d0 d1 d2 d3
    go_wp2
    all_goals
      have y4 : Row w13 (g + 1 + 1) 43 #[.int .i64 0, .int .i64 0, .int .i64 0, .slice none 0 0] := y4
      have z := ((((y4.set 0 (.int .i64 b)).set 1 (.int .i64 w)).set 2 (.int .i64 lv)).set 3 (.slice A3 1 c3))
      have u2 := (((Upd.setCell w13 (g + 1 + 1) 0 (.int .i64 b)).trans (Upd.setCell _ (g + 1 + 1) 1 (.int .i64 w))).trans (Upd.setCell _ (g + 1 + 1) 2 (.int .i64 lv))).trans (Upd.setCell _ (g + 1 + 1) 3 (.slice A3 1 c3))
      generalize (((w13.setCell ⟨g + 1 + 1, 0, none⟩ (.int .i64 b)).setCell ⟨g + 1 + 1, 1, none⟩ (.int .i64 w)).setCell ⟨g + 1 + 1, 2, none⟩ (.int .i64 lv)).setCell ⟨g + 1 + 1, 3, none⟩ (.slice A3 1 c3) = w14 at *
      clear d0 d1 d2 d3
      have d0 := z.cell 0
      have d1 := z.cell 1
      have d2 := z.cell 2
      have d3 := z.cell 3
      simp at d0 d1 d2 d3
      have h7 := h6.updX u2 (by omega)
      refine bodyPost_ret (v := .agg #[.int .i64 b, .int .i64 w, .int .i64 lv, .slice A3 1 c3]) (by simp [results, Try.results43, go_sem, d0, d1, d2, d3]) rfl ⟨A3, c3, by rw [HLL.out], by rw [HLL.out]; exact h7.isMs, by rw [HLL.out]; exact h7.cap, Upd.below hB1 u2 (by have := HG.out; omega)⟩
end Go.Proofs.Ytonloimepfojdaa
