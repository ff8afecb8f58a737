/- Page tables: with. -/
import Derived.Test.YtonloimepfojdaaWit0
import Derived.Deep.DeepCutAuto
namespace Go.Proofs.Ytonloimepfojdaa
open Go.RowKit
set_option linter.unusedVariables false
/-- Where a mapping of that index goes. -/
def fpos (x : Int) : List Mp → Nat
  | [] => 0
  | m :: r => if m.ix < x then fpos x r + 1 else 0
theorem fpos_le (x : Int) : ∀ ms : List Mp, fpos x ms ≤ ms.length
  | [] => Nat.le_refl _
  | m :: r => by
    have := fpos_le x r
    unfold fpos
    split
    · simp; omega
    · simp
def withM (ms : List Mp) (m : Mp) : List Mp := if (ms.drop (fpos m.ix ms)).head?.map (·.ix) = some m.ix then ms else ms.take (fpos m.ix ms) ++ m :: ms.drop (fpos m.ix ms)
theorem withM_eq {ms r : List Mp} {m m1 : Mp} {k : Nat} (h : fpos m.ix ms = k) (hd : ms.drop k = m1 :: r) (he : m1.ix = m.ix) : withM ms m = ms := by
  unfold withM
  rw [h, hd]
  exact if_pos (by simp [he])
theorem withM_ne {ms r : List Mp} {m m1 : Mp} {k : Nat} (h : fpos m.ix ms = k) (hd : ms.drop k = m1 :: r) (he : m1.ix ≠ m.ix) : withM ms m = ms.take k ++ m :: ms.drop k := by
  unfold withM
  rw [h, hd]
  exact if_neg (by simp [he])
structure Boxes (W w : World) (g : Nat) (b wd lv : Int) (A : Option Addr) (n c : Nat) (m : Array Value) : Prop where
  t2 : Row w g 43 #[.int .i64 b, .int .i64 wd, .int .i64 lv, .slice A n c]
  t3 : Row w (g + 1) 60 m
  t4 : Row w (g + 2) 43 #[.int .i64 0, .int .i64 0, .int .i64 0, .slice none 0 0]
  bel : Below W.heap.size W w
theorem Boxes.drew {W w : World} {g : Nat} {b wd lv : Int} {A : Option Addr} {n c : Nat} {m : Array Value} (h : Boxes W w g b wd lv A n c m) : Boxes W w.drew g b wd lv A n c m := ⟨h.t2, h.t3, h.t4, h.bel.drew⟩
/-- What the with hands back. -/
def WithPost (b w lv : Int) (ms : List Mp) (W : World) (e : Ending) (W' : World) : Prop := ∃ A' c', e = .returned (.agg #[.int .i64 b, .int .i64 w, .int .i64 lv, .slice A' ms.length c']) ∧ IsMs W' A' ms.length ms ∧ ms.length ≤ c' ∧ Below W.heap.size W W'
set_option maxRecDepth 20000 in
set_option maxHeartbeats 8000000 in
theorem with_some (b w lv : Int) (b1 o n c : Nat) (ms : List Mp) (ix bs rt co op pt : Int) (W : World) (hA : IsMs W (some ⟨b1, o, none⟩) n ms) (hn : n ≤ 100) (hc : n ≤ c) (hn0 : 0 < n) :
    Calls Try.prog 43 #[.agg #[.int .i64 b, .int .i64 w, .int .i64 lv, .slice (some ⟨b1, o, none⟩) n c], .agg #[.int .i64 ix, .int .i64 bs, .int .i64 rt, .int .i64 co, .int .i64 op, .int .i64 pt]] W (WithPost b w lv (withM ms ⟨ix, bs, rt, co, op, pt⟩) W) := by
  have HN := Lib.hid hA.1
  have hB := (((Below.refl W.heap.size W).alloc (Nat.le_refl _) (.cells #[.int .i64 b, .int .i64 w, .int .i64 lv, .slice (some ⟨b1, o, none⟩) n c] 43)).alloc (by simp) (.cells #[.int .i64 ix, .int .i64 bs, .int .i64 rt, .int .i64 co, .int .i64 op, .int .i64 pt] 60)).alloc (by simp; omega) (.cells #[.int .i64 0, .int .i64 0, .int .i64 0, .slice none 0 0] 43)
  have r2 := ((Row.born W 43 #[.int .i64 b, .int .i64 w, .int .i64 lv, .slice (some ⟨b1, o, none⟩) n c]).alloc (.cells #[.int .i64 ix, .int .i64 bs, .int .i64 rt, .int .i64 co, .int .i64 op, .int .i64 pt] 60)).alloc (.cells #[.int .i64 0, .int .i64 0, .int .i64 0, .slice none 0 0] 43)
  have r3 : Row ((W.alloc (.cells #[.int .i64 b, .int .i64 w, .int .i64 lv, .slice (some ⟨b1, o, none⟩) n c] 43)).alloc (.cells #[.int .i64 ix, .int .i64 bs, .int .i64 rt, .int .i64 co, .int .i64 op, .int .i64 pt] 60)) (W.heap.size + 1) 60 #[.int .i64 ix, .int .i64 bs, .int .i64 rt, .int .i64 co, .int .i64 op, .int .i64 pt] := by
    have h := Row.born (W.alloc (.cells #[.int .i64 b, .int .i64 w, .int .i64 lv, .slice (some ⟨b1, o, none⟩) n c] 43)) 60 #[.int .i64 ix, .int .i64 bs, .int .i64 rt, .int .i64 co, .int .i64 op, .int .i64 pt]
    simpa using h
  have r3 := r3.alloc (.cells #[.int .i64 0, .int .i64 0, .int .i64 0, .slice none 0 0] 43)
  have r4 : Row (((W.alloc (.cells #[.int .i64 b, .int .i64 w, .int .i64 lv, .slice (some ⟨b1, o, none⟩) n c] 43)).alloc (.cells #[.int .i64 ix, .int .i64 bs, .int .i64 rt, .int .i64 co, .int .i64 op, .int .i64 pt] 60)).alloc (.cells #[.int .i64 0, .int .i64 0, .int .i64 0, .slice none 0 0] 43)) (W.heap.size + 2) 43 #[.int .i64 0, .int .i64 0, .int .i64 0, .slice none 0 0] := by
    have h := Row.born ((W.alloc (.cells #[.int .i64 b, .int .i64 w, .int .i64 lv, .slice (some ⟨b1, o, none⟩) n c] 43)).alloc (.cells #[.int .i64 ix, .int .i64 bs, .int .i64 rt, .int .i64 co, .int .i64 op, .int .i64 pt] 60)) 43 #[.int .i64 0, .int .i64 0, .int .i64 0, .slice none 0 0]
    simpa using h
  go_enter Try.func43, Try.ntmps43
  go_upto_region 1 with (fail)
  have HX : Boxes W (((W.alloc (.cells #[.int .i64 b, .int .i64 w, .int .i64 lv, .slice (some ⟨b1, o, none⟩) n c] 43)).alloc (.cells #[.int .i64 ix, .int .i64 bs, .int .i64 rt, .int .i64 co, .int .i64 op, .int .i64 pt] 60)).alloc (.cells #[.int .i64 0, .int .i64 0, .int .i64 0, .slice none 0 0] 43)) W.heap.size b w lv (some ⟨b1, o, none⟩) n c #[.int .i64 ix, .int .i64 bs, .int .i64 rt, .int .i64 co, .int .i64 op, .int .i64 pt] := ⟨r2, r3, r4, hB⟩
  generalize ((W.alloc (.cells #[.int .i64 b, .int .i64 w, .int .i64 lv, .slice (some ⟨b1, o, none⟩) n c] 43)).alloc (.cells #[.int .i64 ix, .int .i64 bs, .int .i64 rt, .int .i64 co, .int .i64 op, .int .i64 pt] 60)).alloc (.cells #[.int .i64 0, .int .i64 0, .int .i64 0, .slice none 0 0] 43) = w1 at *
  obtain ⟨g, hg⟩ : ∃ g, W.heap.size = g := ⟨_, rfl⟩
  have HG := Lib.hid hg
  rw [hg] at HX ⊢
  clear r2 r3 r4 hB hg
  go_wp2
  go_loopw [5] (fun i wr => ∃ k : Nat, k ≤ n ∧ i = .int .i64 k ∧ Hid (fpos ix ms = k + fpos ix (ms.drop k)) ∧ Boxes W wr g b w lv (some ⟨b1, o, none⟩) n c #[.int .i64 ix, .int .i64 bs, .int .i64 rt, .int .i64 co, .int .i64 op, .int .i64 pt]) (fun i _ => n - (intOf i).toNat)
  case atStart => exact ⟨0, by omega, rfl, Lib.hid (by simp), HX⟩
  case round =>
    clear HX
    obtain ⟨k, hk, rfl, HK, HX⟩ := hrel
    go_upto_region 2 with (fail)
    refine wp_region_told (n := 59) (fun w' => w' = wr.drew) (fun _ _ => True) (by kernel_rfl) (by kernel_rfl) (by rfl) rfl ?_
    have HX := HX.drew
    generalize wr.drew = w2 at *
    have x2 := HX.t2
    have x3 := HX.t3
    have a3 := x2.cell 3
    have b0 := x3.cell 0
    simp at a3 b0
    clear x2 x3
    rcases Nat.lt_or_ge k n with hkn | hkn
    · have hd : decide (k < n) = true := by simp; omega
      obtain ⟨b1', o', m1, hA1, hdr, hm⟩ := (hA.below HX.bel).at_ k hkn
      injection hA1 with hA1
      injection hA1 with hA1 hA2 _
      subst hA1 hA2
      have m0 := hm.c0
      clear hm
      rcases Int.lt_or_le m1.ix ix with hi | hi
      · have hd2 : decide (m1.ix < ix) = true := by simp; omega
        repeat (first | (refine walk_pure (v := ?_) (fun _ => trivial) (fun _ => rfl) ?_ ?_; rotate_left; (focus (intro us w9 hS9 hF; subst hS9; go_simp; (try with_reducible rfl); done)); simp only [Act.put, List.setIfInBounds_toArray, List.set_cons_zero, List.set_cons_succ, Nat.reduceAdd]) | (refine walk_skip (fun _ => trivial) (fun _ => rfl) ?_; simp only [Act.put, List.setIfInBounds_toArray, List.set_cons_zero, List.set_cons_succ, Nat.reduceAdd]))
        refine walk_done fun us w9 hS9 hF => ?_
        subst hS9
        have HK2 : Hid (fpos ix ms = (k + 1) + fpos ix (ms.drop (k + 1))) := Lib.hid (by rw [HK.out, hdr]; show k + fpos ix (m1 :: ms.drop (k + 1)) = _; rw [fpos, if_pos hi]; omega)
        clear hF a3 b0 m0 hdr
        go_wp2
        exact ⟨⟨k + 1, by omega, by go_num, HK2, HX⟩, by simp [intOf]; omega⟩
      · have hd2 : decide (m1.ix < ix) = false := by simp; omega
        repeat (first | (refine walk_pure (v := ?_) (fun _ => trivial) (fun _ => rfl) ?_ ?_; rotate_left; (focus (intro us w9 hS9 hF; subst hS9; go_simp; (try with_reducible rfl); done)); simp only [Act.put, List.setIfInBounds_toArray, List.set_cons_zero, List.set_cons_succ, Nat.reduceAdd]) | (refine walk_skip (fun _ => trivial) (fun _ => rfl) ?_; simp only [Act.put, List.setIfInBounds_toArray, List.set_cons_zero, List.set_cons_succ, Nat.reduceAdd]))
        refine walk_done fun us w9 hS9 hF => ?_
        subst hS9
        have HF : Hid (fpos ix ms = k) := Lib.hid (by rw [HK.out, hdr]; show k + fpos ix (m1 :: ms.drop (k + 1)) = _; rw [fpos, if_neg (by omega)]; omega)
        clear hF a3 b0 m0 hd2
        go_upto_region 4 with (fail)
        refine wp_region_told (n := 59) (fun w' => w' = w9.drew) (fun _ _ => True) (by kernel_rfl) (by kernel_rfl) (by rfl) rfl ?_
        have HX := HX.drew
        generalize w9.drew = w3 at *
        have x2 := HX.t2
        have x3 := HX.t3
        have a3 := x2.cell 3
        have b0 := x3.cell 0
        simp at a3 b0
        clear x2 x3
        obtain ⟨b1', o', m2, hA2, hdr2, hm2⟩ := (hA.below HX.bel).at_ k hkn
        injection hA2 with hA2
        injection hA2 with hA2 hA3 _
        subst hA2 hA3
        obtain rfl : m2 = m1 := by rw [hdr] at hdr2; injection hdr2 with e _; exact e.symm
        have m0 := hm2.c0
        clear hm2 hdr2
        rcases (by omega : m2.ix = ix ∨ ix < m2.ix) with he | he
        · have hd2 : (m2.ix == ix) = true := by simp; omega
          have HM : Hid (withM ms ⟨ix, bs, rt, co, op, pt⟩ = ms) := Lib.hid (withM_eq HF.out hdr he)
          have HEI := Lib.hid he
          clear he
          repeat (first | (refine walk_pure (v := ?_) (fun _ => trivial) (fun _ => rfl) ?_ ?_; rotate_left; (focus (intro us w9 hS9 hF; subst hS9; go_simp; (try with_reducible rfl); done)); simp only [Act.put, List.setIfInBounds_toArray, List.set_cons_zero, List.set_cons_succ, Nat.reduceAdd]) | (refine walk_skip (fun _ => trivial) (fun _ => rfl) ?_; simp only [Act.put, List.setIfInBounds_toArray, List.set_cons_zero, List.set_cons_succ, Nat.reduceAdd]))
          refine walk_done fun us w9 hS9 hF => ?_
          subst hS9
          clear hF a3 b0 m0 hdr hi HF
          have x2 := HX.t2
          have x4 := HX.t4
          have a0 := x2.cell 0
          have a1 := x2.cell 1
          have a2 := x2.cell 2
          have a3 := x2.cell 3
          have d0 := x4.cell 0
          have d1 := x4.cell 1
          have d2 := x4.cell 2
          have d3 := x4.cell 3
          have df := x4.frozen
          simp at a0 a1 a2 a3 d0 d1 d2 d3
          go_wp2
          have y4 : Row w9 (g + 1 + 1) 43 #[.int .i64 0, .int .i64 0, .int .i64 0, .slice none 0 0] := x4
          have z := ((((y4.set 0 (.int .i64 b)).set 1 (.int .i64 w)).set 2 (.int .i64 lv)).set 3 (.slice (some ⟨b1, o, none⟩) n c))
          have u2 := (((Upd.setCell w9 (g + 1 + 1) 0 (.int .i64 b)).trans (Upd.setCell _ (g + 1 + 1) 1 (.int .i64 w))).trans (Upd.setCell _ (g + 1 + 1) 2 (.int .i64 lv))).trans (Upd.setCell _ (g + 1 + 1) 3 (.slice (some ⟨b1, o, none⟩) n c))
          generalize (((w9.setCell ⟨g + 1 + 1, 0, none⟩ (.int .i64 b)).setCell ⟨g + 1 + 1, 1, none⟩ (.int .i64 w)).setCell ⟨g + 1 + 1, 2, none⟩ (.int .i64 lv)).setCell ⟨g + 1 + 1, 3, none⟩ (.slice (some ⟨b1, o, none⟩) n c) = w14 at *
          clear d0 d1 d2 d3
          have d0 := z.cell 0
          have d1 := z.cell 1
          have d2 := z.cell 2
          have d3 := z.cell 3
          simp at d0 d1 d2 d3
          have hB14 := Upd.below HX.bel u2 (by have := HG.out; omega)
          exact bodyPost_ret (v := .agg #[.int .i64 b, .int .i64 w, .int .i64 lv, .slice (some ⟨b1, o, none⟩) n c]) (by simp [results, Try.results43, go_sem, d0, d1, d2, d3]) rfl ⟨some ⟨b1, o, none⟩, c, by rw [HM.out, ← HN.out], by rw [HM.out, ← HN.out]; exact hA.below hB14, by rw [HM.out, ← HN.out]; exact hc, hB14⟩
        · have hd2 : (m2.ix == ix) = false := by simp; omega
          repeat (first | (refine walk_pure (v := ?_) (fun _ => trivial) (fun _ => rfl) ?_ ?_; rotate_left; (focus (intro us w9 hS9 hF; subst hS9; go_simp; (try with_reducible rfl); done)); simp only [Act.put, List.setIfInBounds_toArray, List.set_cons_zero, List.set_cons_succ, Nat.reduceAdd]) | (refine walk_skip (fun _ => trivial) (fun _ => rfl) ?_; simp only [Act.put, List.setIfInBounds_toArray, List.set_cons_zero, List.set_cons_succ, Nat.reduceAdd]))
          refine walk_done fun us w9 hS9 hF => ?_
          subst hS9
          clear hF a3 b0 m0 hd2
          have HDR := Lib.hid hdr
          have HE := Lib.hid he
          clear hdr he hi
          have hd4 := hd
          go_upto_region 6 with (fail)
          clear hd4
          refine wp_region_tailN (n := 59) 7 (fun w' => Below w9.heap.size w9 w') (fun x y => Below x.heap.size x y) (by kernel_rfl) (by kernel_rfl) (by decide) (by rfl) (Below.refl _ _).drew ?_
          simp only [List.take_succ_cons, List.take_zero, List.drop_succ_cons, List.drop_zero]
          have x2 := HX.t2
          have x3 := HX.t3
          have x4 := HX.t4
          have hlg := x2.lt
          have hlg1 := x3.lt
          have hlg2 := x4.lt
          have a3 := x2.cell 3
          have b0 := x3.cell 0
          have b1' := x3.cell 1
          have b2' := x3.cell 2
          have b3' := x3.cell 3
          have b4' := x3.cell 4
          have b5' := x3.cell 5
          simp at a3 b0 b1' b2' b3' b4' b5'
          have hA6 := hA.below HX.bel
          have hkc0 : ¬ c < k := by omega
          refine tail_pure (fun w => Below.refl _ w) (v := .pointer (some ⟨g, 3, none⟩)) (fun _ => rfl) ?_ ?_; (focus (intro us w8 hS8 hF; clear hF; have q3 := (hS8.cell (p := ⟨g, 3, none⟩) hlg).trans a3; have p0 := (hS8.cell (p := ⟨g + 1, 0, none⟩) hlg1).trans b0; have p1 := (hS8.cell (p := ⟨g + 1, 1, none⟩) hlg1).trans b1'; have p2 := (hS8.cell (p := ⟨g + 1, 2, none⟩) hlg1).trans b2'; have p3 := (hS8.cell (p := ⟨g + 1, 3, none⟩) hlg1).trans b3'; have p4 := (hS8.cell (p := ⟨g + 1, 4, none⟩) hlg1).trans b4'; have p5 := (hS8.cell (p := ⟨g + 1, 5, none⟩) hlg1).trans b5'; clear hS8; go_simp; try (with_reducible rfl))); simp only [Act.put, List.setIfInBounds_toArray, List.set_cons_zero, List.set_cons_succ, Nat.reduceAdd]
          refine tail_pure (fun w => Below.refl _ w) (v := .slice (some ⟨b1, o, none⟩) n c) (fun _ => rfl) ?_ ?_; (focus (intro us w8 hS8 hF; clear hF; have q3 := (hS8.cell (p := ⟨g, 3, none⟩) hlg).trans a3; have p0 := (hS8.cell (p := ⟨g + 1, 0, none⟩) hlg1).trans b0; have p1 := (hS8.cell (p := ⟨g + 1, 1, none⟩) hlg1).trans b1'; have p2 := (hS8.cell (p := ⟨g + 1, 2, none⟩) hlg1).trans b2'; have p3 := (hS8.cell (p := ⟨g + 1, 3, none⟩) hlg1).trans b3'; have p4 := (hS8.cell (p := ⟨g + 1, 4, none⟩) hlg1).trans b4'; have p5 := (hS8.cell (p := ⟨g + 1, 5, none⟩) hlg1).trans b5'; clear hS8; go_simp; try (with_reducible rfl))); simp only [Act.put, List.setIfInBounds_toArray, List.set_cons_zero, List.set_cons_succ, Nat.reduceAdd]
          refine tail_pure (fun w => Below.refl _ w) (v := .int .i64 k) (fun _ => rfl) ?_ ?_; (focus (intro us w8 hS8 hF; clear hF; have q3 := (hS8.cell (p := ⟨g, 3, none⟩) hlg).trans a3; have p0 := (hS8.cell (p := ⟨g + 1, 0, none⟩) hlg1).trans b0; have p1 := (hS8.cell (p := ⟨g + 1, 1, none⟩) hlg1).trans b1'; have p2 := (hS8.cell (p := ⟨g + 1, 2, none⟩) hlg1).trans b2'; have p3 := (hS8.cell (p := ⟨g + 1, 3, none⟩) hlg1).trans b3'; have p4 := (hS8.cell (p := ⟨g + 1, 4, none⟩) hlg1).trans b4'; have p5 := (hS8.cell (p := ⟨g + 1, 5, none⟩) hlg1).trans b5'; clear hS8; go_simp; try (with_reducible rfl))); simp only [Act.put, List.setIfInBounds_toArray, List.set_cons_zero, List.set_cons_succ, Nat.reduceAdd]
          refine tail_pure (fun w => Below.refl _ w) (v := .slice (some ⟨b1, o, none⟩) k c) (fun _ => rfl) ?_ ?_; (focus (intro us w8 hS8 hF; clear hF; have q3 := (hS8.cell (p := ⟨g, 3, none⟩) hlg).trans a3; have p0 := (hS8.cell (p := ⟨g + 1, 0, none⟩) hlg1).trans b0; have p1 := (hS8.cell (p := ⟨g + 1, 1, none⟩) hlg1).trans b1'; have p2 := (hS8.cell (p := ⟨g + 1, 2, none⟩) hlg1).trans b2'; have p3 := (hS8.cell (p := ⟨g + 1, 3, none⟩) hlg1).trans b3'; have p4 := (hS8.cell (p := ⟨g + 1, 4, none⟩) hlg1).trans b4'; have p5 := (hS8.cell (p := ⟨g + 1, 5, none⟩) hlg1).trans b5'; clear hS8; go_simp; try (with_reducible rfl))); simp only [Act.put, List.setIfInBounds_toArray, List.set_cons_zero, List.set_cons_succ, Nat.reduceAdd]
          refine tail_free (fun u w' => ∃ A' c', u = .slice A' k c' ∧ OwnR w' w9.heap.size 60 6 A' k c' (msC (ms.take k))) (fun u x y hg ⟨A', c', e, h⟩ => ⟨A', c', e, h.below hg⟩) ?_ ?_; (focus (intro us w8 hS8 hF K hK; clear hF; rw [if_pos (by rfl)]; exact step_append_ms (c2 := c) Try.underlying41 info_map rfl (by omega) (OwnR.nil w8 w9.heap.size 60 6) ((hA6.below hS8).pre k hk) (by omega) hS8.size rfl rfl (fun A' c'' w' h2 h3 => hK _ _ ((hS8.grown h3 hS8.size (fun z hz => by cases hz))) ((Below.refl _ _).grown h3 (Nat.le_refl _) (fun z hz => by cases hz)) ⟨A', c'', by rw [Nat.zero_add], by rw [Nat.zero_add, List.nil_append] at h2; exact h2⟩))); simp only [Act.put, List.setIfInBounds_toArray, List.set_cons_zero, List.set_cons_succ, Nat.reduceAdd]
          refine tail_pure (fun w => Below.refl _ w) (v := .agg #[.int .i64 ix, .int .i64 bs, .int .i64 rt, .int .i64 co, .int .i64 op, .int .i64 pt]) (fun _ => rfl) ?_ ?_; (focus (intro us w8 hS8 hF; clear hF; have q3 := (hS8.cell (p := ⟨g, 3, none⟩) hlg).trans a3; have p0 := (hS8.cell (p := ⟨g + 1, 0, none⟩) hlg1).trans b0; have p1 := (hS8.cell (p := ⟨g + 1, 1, none⟩) hlg1).trans b1'; have p2 := (hS8.cell (p := ⟨g + 1, 2, none⟩) hlg1).trans b2'; have p3 := (hS8.cell (p := ⟨g + 1, 3, none⟩) hlg1).trans b3'; have p4 := (hS8.cell (p := ⟨g + 1, 4, none⟩) hlg1).trans b4'; have p5 := (hS8.cell (p := ⟨g + 1, 5, none⟩) hlg1).trans b5'; clear hS8; go_simp; try (with_reducible rfl))); simp only [Act.put, List.setIfInBounds_toArray, List.set_cons_zero, List.set_cons_succ, Nat.reduceAdd]
          refine tail_free (fun u w' => ∃ q, u = .slice (some ⟨q, 0, none⟩) 1 1 ∧ Row w' q 60 #[.int .i64 ix, .int .i64 bs, .int .i64 rt, .int .i64 co, .int .i64 op, .int .i64 pt]) (fun u x y hg ⟨q, e, h⟩ => ⟨q, e, h.below hg h.lt⟩) ?_ ?_; (focus (intro us w8 hS8 hF K hK; clear hF; rw [if_pos (by rfl)]; exact step_build_one Try.underlying41 info_map rfl (by omega) (by omega) rfl (hK _ _ (hS8.alloc hS8.size _) ((Below.refl _ _).alloc (Nat.le_refl _) _) ⟨w8.heap.size, rfl, Row.born _ _ _⟩))); simp only [Act.put, List.setIfInBounds_toArray, List.set_cons_zero, List.set_cons_succ, Nat.reduceAdd]
          refine tail_done fun us w10 hS10 hF => ?_
          obtain ⟨A', c', hu4, ho4⟩ := hF _ (List.mem_cons_of_mem _ (List.mem_cons_self ..))
          obtain ⟨q, hu6, hr6⟩ := hF _ (List.mem_cons_self ..)
          dsimp only at hu4 hu6
          clear hF a3 b0 b1' b2' b3' b4' b5'
          simp only [hu4, hu6]
          have hsz10 := hS10.size
          refine wp_append_one (P := Try.prog) (news := [.int .i64 ix, .int .i64 bs, .int .i64 rt, .int .i64 co, .int .i64 op, .int .i64 pt]) Try.underlying41 info_map rfl (by omega) ho4 hr6 rfl (by simp [Value.oneCell']) (by omega) (by omega) hsz10 rfl rfl ?_
          intro A2 c2 w11 h2 h3 _
          have hB11 := hS10.grown h3 hsz10 (fun z hz => (ho4.ge z hz).1)
          have x2 := x2.below hB11 hlg
          have x3 := x3.below hB11 hlg1
          have x4 := x4.below hB11 hlg2
          have hA11 := hA6.below hB11
          have hW0 := HX.bel.size
          have hBW := HX.bel.trans (hB11.mono hW0)
          have hsz11 := hB11.size
          generalize w9.heap.size = W0 at *
          clear hS10 hr6 ho4 h3 hu4 hu6 hB11 hA6 HX
          have a3 := x2.cell 3
          have af := x2.frozen 3
          simp at a3
          have hck : ¬ c = k := by omega
          go_upto_region 7 with (fail)
          go_upto_region 8 with ((at_builtin; (refine wp_append_ms (P := Try.prog) (c2 := c - k) Try.underlying41 info_map rfl (by omega) h2 (hA11.suf k hk) (by omega) hsz11 rfl rfl ?_); intro A3 c3 w12 h4 h5))
          have hB12 : Below W0 w11 w12 := (Below.refl _ _).grown h5 hsz11 (fun z hz => (h2.ge z hz).1)
          have x2 := x2.below hB12 hlg
          have x4 := x4.below hB12 hlg2
          have hBW := hBW.trans (hB12.mono hW0)
          clear h2 h5 hB12 x3 a3 af hA11
          have hW : withM ms ⟨ix, bs, rt, co, op, pt⟩ = ms.take k ++ ⟨ix, bs, rt, co, op, pt⟩ :: (ms.drop k) := by
            exact withM_ne HF.out HDR.out (by have := HE.out; dsimp only; omega)
          have hl : (withM ms ⟨ix, bs, rt, co, op, pt⟩).length = k + 1 + (n - k) := by rw [hW]; have := HN.out; simp; omega
          have h6 : OwnR w12 W0 60 6 A3 (k + 1 + (n - k)) c3 (msC (withM ms ⟨ix, bs, rt, co, op, pt⟩)) := by
            rw [hW, msC_append]
            have e : msC (⟨ix, bs, rt, co, op, pt⟩ :: (ms.drop k)) = [.int .i64 ix, .int .i64 bs, .int .i64 rt, .int .i64 co, .int .i64 op, .int .i64 pt] ++ msC ((ms.drop k)) := rfl
            rw [e, ← List.append_assoc]
            exact h4
          have HLL := Lib.hid hl
          clear h4 hW hl HF
          generalize withM ms ⟨ix, bs, rt, co, op, pt⟩ = mm at *
          generalize k + 1 + (n - k) = nn at *
          have a3 := x2.cell 3
          have af := x2.frozen 3
          simp at a3
          go_upto_region 9 with (fail)
          have u1 := Upd.setCell w12 g 3 (.slice A3 nn c3)
          have y2 := x2.set 3 (.slice A3 nn c3)
          have y4 := x4.upd u1 (by omega)
          have hB1 := Upd.below hBW u1 (by have := HG.out; omega)
          have h6 := h6.updX u1 (by omega)
          generalize w12.setCell ⟨g, 3, none⟩ (.slice A3 nn c3) = w13 at *
          clear x2 x4 a3 af u1 hBW
          have a0 := y2.cell 0
          have a1 := y2.cell 1
          have a2 := y2.cell 2
          have a3 := y2.cell 3
          have d0 := y4.cell 0
          have d1 := y4.cell 1
          have d2 := y4.cell 2
          have d3 := y4.cell 3
          have df := y4.frozen
          simp at a0 a1 a2 a3 d0 d1 d2 d3
          go_wp2
          all_goals
            have y4 : Row w13 (g + 1 + 1) 43 #[.int .i64 0, .int .i64 0, .int .i64 0, .slice none 0 0] := y4
            have z := ((((y4.set 0 (.int .i64 b)).set 1 (.int .i64 w)).set 2 (.int .i64 lv)).set 3 (.slice A3 nn c3))
            have u2 := (((Upd.setCell w13 (g + 1 + 1) 0 (.int .i64 b)).trans (Upd.setCell _ (g + 1 + 1) 1 (.int .i64 w))).trans (Upd.setCell _ (g + 1 + 1) 2 (.int .i64 lv))).trans (Upd.setCell _ (g + 1 + 1) 3 (.slice A3 nn c3))
            generalize (((w13.setCell ⟨g + 1 + 1, 0, none⟩ (.int .i64 b)).setCell ⟨g + 1 + 1, 1, none⟩ (.int .i64 w)).setCell ⟨g + 1 + 1, 2, none⟩ (.int .i64 lv)).setCell ⟨g + 1 + 1, 3, none⟩ (.slice A3 nn c3) = w14 at *
            clear d0 d1 d2 d3
            have d0 := z.cell 0
            have d1 := z.cell 1
            have d2 := z.cell 2
            have d3 := z.cell 3
            simp at d0 d1 d2 d3
            have h7 := h6.updX u2 (by omega)
            refine bodyPost_ret (v := .agg #[.int .i64 b, .int .i64 w, .int .i64 lv, .slice A3 nn c3]) (by simp [results, Try.results43, go_sem, d0, d1, d2, d3]) rfl ⟨A3, c3, by rw [HLL.out], by rw [HLL.out]; exact h7.isMs, by rw [HLL.out]; exact h7.cap, Upd.below hB1 u2 (by have := HG.out; omega)⟩
    · have hd : decide (k < n) = false := by simp; omega
      repeat (first | (refine walk_pure (v := ?_) (fun _ => trivial) (fun _ => rfl) ?_ ?_; rotate_left; (focus (intro us w9 hS9 hF; subst hS9; go_simp; (try with_reducible rfl); done)); simp only [Act.put, List.setIfInBounds_toArray, List.set_cons_zero, List.set_cons_succ, Nat.reduceAdd]) | (refine walk_skip (fun _ => trivial) (fun _ => rfl) ?_; simp only [Act.put, List.setIfInBounds_toArray, List.set_cons_zero, List.set_cons_succ, Nat.reduceAdd]))
      refine walk_done fun us w9 hS9 hF => ?_
      subst hS9
      have HF : Hid (fpos ix ms = k) := Lib.hid (by rw [HK.out, List.drop_eq_nil_of_le (by have := HN.out; omega)]; rfl)
      clear hF a3 b0
      go_upto_region 4 with (fail)
      refine wp_region_told (n := 59) (fun w' => w' = w9.drew) (fun _ _ => True) (by kernel_rfl) (by kernel_rfl) (by rfl) rfl ?_
      have HX := HX.drew
      generalize w9.drew = w3 at *
      have x2 := HX.t2
      have a3 := x2.cell 3
      simp at a3
      clear x2
      repeat (first | (refine walk_pure (v := ?_) (fun _ => trivial) (fun _ => rfl) ?_ ?_; rotate_left; (focus (intro us w9 hS9 hF; subst hS9; go_simp; (try with_reducible rfl); done)); simp only [Act.put, List.setIfInBounds_toArray, List.set_cons_zero, List.set_cons_succ, Nat.reduceAdd]) | (refine walk_skip (fun _ => trivial) (fun _ => rfl) ?_; simp only [Act.put, List.setIfInBounds_toArray, List.set_cons_zero, List.set_cons_succ, Nat.reduceAdd]))
      refine walk_done fun us w9 hS9 hF => ?_
      subst hS9
      clear hF a3
      have hd4 := hd
      go_upto_region 6 with (fail)
      clear hd4
      refine wp_region_tailN (n := 59) 7 (fun w' => Below w9.heap.size w9 w') (fun x y => Below x.heap.size x y) (by kernel_rfl) (by kernel_rfl) (by decide) (by rfl) (Below.refl _ _).drew ?_
      simp only [List.take_succ_cons, List.take_zero, List.drop_succ_cons, List.drop_zero]
      have x2 := HX.t2
      have x3 := HX.t3
      have x4 := HX.t4
      have hlg := x2.lt
      have hlg1 := x3.lt
      have hlg2 := x4.lt
      have a3 := x2.cell 3
      have b0 := x3.cell 0
      have b1' := x3.cell 1
      have b2' := x3.cell 2
      have b3' := x3.cell 3
      have b4' := x3.cell 4
      have b5' := x3.cell 5
      simp at a3 b0 b1' b2' b3' b4' b5'
      have hA6 := hA.below HX.bel
      have hkc0 : ¬ c < k := by omega
      refine tail_pure (fun w => Below.refl _ w) (v := .pointer (some ⟨g, 3, none⟩)) (fun _ => rfl) ?_ ?_; (focus (intro us w8 hS8 hF; clear hF; have q3 := (hS8.cell (p := ⟨g, 3, none⟩) hlg).trans a3; have p0 := (hS8.cell (p := ⟨g + 1, 0, none⟩) hlg1).trans b0; have p1 := (hS8.cell (p := ⟨g + 1, 1, none⟩) hlg1).trans b1'; have p2 := (hS8.cell (p := ⟨g + 1, 2, none⟩) hlg1).trans b2'; have p3 := (hS8.cell (p := ⟨g + 1, 3, none⟩) hlg1).trans b3'; have p4 := (hS8.cell (p := ⟨g + 1, 4, none⟩) hlg1).trans b4'; have p5 := (hS8.cell (p := ⟨g + 1, 5, none⟩) hlg1).trans b5'; clear hS8; go_simp; try (with_reducible rfl))); simp only [Act.put, List.setIfInBounds_toArray, List.set_cons_zero, List.set_cons_succ, Nat.reduceAdd]
      refine tail_pure (fun w => Below.refl _ w) (v := .slice (some ⟨b1, o, none⟩) n c) (fun _ => rfl) ?_ ?_; (focus (intro us w8 hS8 hF; clear hF; have q3 := (hS8.cell (p := ⟨g, 3, none⟩) hlg).trans a3; have p0 := (hS8.cell (p := ⟨g + 1, 0, none⟩) hlg1).trans b0; have p1 := (hS8.cell (p := ⟨g + 1, 1, none⟩) hlg1).trans b1'; have p2 := (hS8.cell (p := ⟨g + 1, 2, none⟩) hlg1).trans b2'; have p3 := (hS8.cell (p := ⟨g + 1, 3, none⟩) hlg1).trans b3'; have p4 := (hS8.cell (p := ⟨g + 1, 4, none⟩) hlg1).trans b4'; have p5 := (hS8.cell (p := ⟨g + 1, 5, none⟩) hlg1).trans b5'; clear hS8; go_simp; try (with_reducible rfl))); simp only [Act.put, List.setIfInBounds_toArray, List.set_cons_zero, List.set_cons_succ, Nat.reduceAdd]
      refine tail_pure (fun w => Below.refl _ w) (v := .int .i64 k) (fun _ => rfl) ?_ ?_; (focus (intro us w8 hS8 hF; clear hF; have q3 := (hS8.cell (p := ⟨g, 3, none⟩) hlg).trans a3; have p0 := (hS8.cell (p := ⟨g + 1, 0, none⟩) hlg1).trans b0; have p1 := (hS8.cell (p := ⟨g + 1, 1, none⟩) hlg1).trans b1'; have p2 := (hS8.cell (p := ⟨g + 1, 2, none⟩) hlg1).trans b2'; have p3 := (hS8.cell (p := ⟨g + 1, 3, none⟩) hlg1).trans b3'; have p4 := (hS8.cell (p := ⟨g + 1, 4, none⟩) hlg1).trans b4'; have p5 := (hS8.cell (p := ⟨g + 1, 5, none⟩) hlg1).trans b5'; clear hS8; go_simp; try (with_reducible rfl))); simp only [Act.put, List.setIfInBounds_toArray, List.set_cons_zero, List.set_cons_succ, Nat.reduceAdd]
      refine tail_pure (fun w => Below.refl _ w) (v := .slice (some ⟨b1, o, none⟩) k c) (fun _ => rfl) ?_ ?_; (focus (intro us w8 hS8 hF; clear hF; have q3 := (hS8.cell (p := ⟨g, 3, none⟩) hlg).trans a3; have p0 := (hS8.cell (p := ⟨g + 1, 0, none⟩) hlg1).trans b0; have p1 := (hS8.cell (p := ⟨g + 1, 1, none⟩) hlg1).trans b1'; have p2 := (hS8.cell (p := ⟨g + 1, 2, none⟩) hlg1).trans b2'; have p3 := (hS8.cell (p := ⟨g + 1, 3, none⟩) hlg1).trans b3'; have p4 := (hS8.cell (p := ⟨g + 1, 4, none⟩) hlg1).trans b4'; have p5 := (hS8.cell (p := ⟨g + 1, 5, none⟩) hlg1).trans b5'; clear hS8; go_simp; try (with_reducible rfl))); simp only [Act.put, List.setIfInBounds_toArray, List.set_cons_zero, List.set_cons_succ, Nat.reduceAdd]
      refine tail_free (fun u w' => ∃ A' c', u = .slice A' k c' ∧ OwnR w' w9.heap.size 60 6 A' k c' (msC (ms.take k))) (fun u x y hg ⟨A', c', e, h⟩ => ⟨A', c', e, h.below hg⟩) ?_ ?_; (focus (intro us w8 hS8 hF K hK; clear hF; rw [if_pos (by rfl)]; exact step_append_ms (c2 := c) Try.underlying41 info_map rfl (by omega) (OwnR.nil w8 w9.heap.size 60 6) ((hA6.below hS8).pre k hk) (by omega) hS8.size rfl rfl (fun A' c'' w' h2 h3 => hK _ _ ((hS8.grown h3 hS8.size (fun z hz => by cases hz))) ((Below.refl _ _).grown h3 (Nat.le_refl _) (fun z hz => by cases hz)) ⟨A', c'', by rw [Nat.zero_add], by rw [Nat.zero_add, List.nil_append] at h2; exact h2⟩))); simp only [Act.put, List.setIfInBounds_toArray, List.set_cons_zero, List.set_cons_succ, Nat.reduceAdd]
      refine tail_pure (fun w => Below.refl _ w) (v := .agg #[.int .i64 ix, .int .i64 bs, .int .i64 rt, .int .i64 co, .int .i64 op, .int .i64 pt]) (fun _ => rfl) ?_ ?_; (focus (intro us w8 hS8 hF; clear hF; have q3 := (hS8.cell (p := ⟨g, 3, none⟩) hlg).trans a3; have p0 := (hS8.cell (p := ⟨g + 1, 0, none⟩) hlg1).trans b0; have p1 := (hS8.cell (p := ⟨g + 1, 1, none⟩) hlg1).trans b1'; have p2 := (hS8.cell (p := ⟨g + 1, 2, none⟩) hlg1).trans b2'; have p3 := (hS8.cell (p := ⟨g + 1, 3, none⟩) hlg1).trans b3'; have p4 := (hS8.cell (p := ⟨g + 1, 4, none⟩) hlg1).trans b4'; have p5 := (hS8.cell (p := ⟨g + 1, 5, none⟩) hlg1).trans b5'; clear hS8; go_simp; try (with_reducible rfl))); simp only [Act.put, List.setIfInBounds_toArray, List.set_cons_zero, List.set_cons_succ, Nat.reduceAdd]
      refine tail_free (fun u w' => ∃ q, u = .slice (some ⟨q, 0, none⟩) 1 1 ∧ Row w' q 60 #[.int .i64 ix, .int .i64 bs, .int .i64 rt, .int .i64 co, .int .i64 op, .int .i64 pt]) (fun u x y hg ⟨q, e, h⟩ => ⟨q, e, h.below hg h.lt⟩) ?_ ?_; (focus (intro us w8 hS8 hF K hK; clear hF; rw [if_pos (by rfl)]; exact step_build_one Try.underlying41 info_map rfl (by omega) (by omega) rfl (hK _ _ (hS8.alloc hS8.size _) ((Below.refl _ _).alloc (Nat.le_refl _) _) ⟨w8.heap.size, rfl, Row.born _ _ _⟩))); simp only [Act.put, List.setIfInBounds_toArray, List.set_cons_zero, List.set_cons_succ, Nat.reduceAdd]
      refine tail_done fun us w10 hS10 hF => ?_
      obtain ⟨A', c', hu4, ho4⟩ := hF _ (List.mem_cons_of_mem _ (List.mem_cons_self ..))
      obtain ⟨q, hu6, hr6⟩ := hF _ (List.mem_cons_self ..)
      dsimp only at hu4 hu6
      clear hF a3 b0 b1' b2' b3' b4' b5'
      simp only [hu4, hu6]
      have hsz10 := hS10.size
      refine wp_append_one (P := Try.prog) (news := [.int .i64 ix, .int .i64 bs, .int .i64 rt, .int .i64 co, .int .i64 op, .int .i64 pt]) Try.underlying41 info_map rfl (by omega) ho4 hr6 rfl (by simp [Value.oneCell']) (by omega) (by omega) hsz10 rfl rfl ?_
      intro A2 c2 w11 h2 h3 _
      have hB11 := hS10.grown h3 hsz10 (fun z hz => (ho4.ge z hz).1)
      have x2 := x2.below hB11 hlg
      have x3 := x3.below hB11 hlg1
      have x4 := x4.below hB11 hlg2
      have hA11 := hA6.below hB11
      have hW0 := HX.bel.size
      have hBW := HX.bel.trans (hB11.mono hW0)
      have hsz11 := hB11.size
      generalize w9.heap.size = W0 at *
      clear hS10 hr6 ho4 h3 hu4 hu6 hB11 hA6 HX
      have a3 := x2.cell 3
      have af := x2.frozen 3
      simp at a3
      have hdn : ms.drop k = [] := List.drop_eq_nil_of_le (by have := HN.out; omega)
      clear hA
      go_upto_region 7 with (fail)
      go_upto_region 8 with ((at_builtin; (refine wp_append_ms (P := Try.prog) (c2 := c - k) Try.underlying41 info_map rfl (by omega) h2 (IsMs.empty _) (by omega) hsz11 rfl rfl ?_); intro A3 c3 w12 h4 h5))
      have hB12 : Below W0 w11 w12 := (Below.refl _ _).grown h5 hsz11 (fun z hz => (h2.ge z hz).1)
      have x2 := x2.below hB12 hlg
      have x4 := x4.below hB12 hlg2
      have hBW := hBW.trans (hB12.mono hW0)
      clear h2 h5 hB12 x3 a3 af hA11
      have hW : withM ms ⟨ix, bs, rt, co, op, pt⟩ = ms.take k ++ ⟨ix, bs, rt, co, op, pt⟩ :: [] := by
        unfold withM
        rw [HF.out, hdn]
        rfl
      have hl : (withM ms ⟨ix, bs, rt, co, op, pt⟩).length = k + 1 + 0 := by rw [hW]; have := HN.out; simp; omega
      have h6 : OwnR w12 W0 60 6 A3 (k + 1 + 0) c3 (msC (withM ms ⟨ix, bs, rt, co, op, pt⟩)) := by
        rw [hW, msC_append]
        have e : msC (⟨ix, bs, rt, co, op, pt⟩ :: []) = [.int .i64 ix, .int .i64 bs, .int .i64 rt, .int .i64 co, .int .i64 op, .int .i64 pt] ++ msC ([]) := rfl
        rw [e, ← List.append_assoc]
        exact h4
      have HLL := Lib.hid hl
      clear h4 hW hl HF
      generalize withM ms ⟨ix, bs, rt, co, op, pt⟩ = mm at *
      generalize k + 1 + 0 = nn at *
      have a3 := x2.cell 3
      have af := x2.frozen 3
      simp at a3
      go_upto_region 9 with (fail)
      have u1 := Upd.setCell w12 g 3 (.slice A3 nn c3)
      have y2 := x2.set 3 (.slice A3 nn c3)
      have y4 := x4.upd u1 (by omega)
      have hB1 := Upd.below hBW u1 (by have := HG.out; omega)
      have h6 := h6.updX u1 (by omega)
      generalize w12.setCell ⟨g, 3, none⟩ (.slice A3 nn c3) = w13 at *
      clear x2 x4 a3 af u1 hBW
      have a0 := y2.cell 0
      have a1 := y2.cell 1
      have a2 := y2.cell 2
      have a3 := y2.cell 3
      have d0 := y4.cell 0
      have d1 := y4.cell 1
      have d2 := y4.cell 2
      have d3 := y4.cell 3
      have df := y4.frozen
      simp at a0 a1 a2 a3 d0 d1 d2 d3
      go_wp2
      all_goals
        have y4 : Row w13 (g + 1 + 1) 43 #[.int .i64 0, .int .i64 0, .int .i64 0, .slice none 0 0] := y4
        have z := ((((y4.set 0 (.int .i64 b)).set 1 (.int .i64 w)).set 2 (.int .i64 lv)).set 3 (.slice A3 nn c3))
        have u2 := (((Upd.setCell w13 (g + 1 + 1) 0 (.int .i64 b)).trans (Upd.setCell _ (g + 1 + 1) 1 (.int .i64 w))).trans (Upd.setCell _ (g + 1 + 1) 2 (.int .i64 lv))).trans (Upd.setCell _ (g + 1 + 1) 3 (.slice A3 nn c3))
        generalize (((w13.setCell ⟨g + 1 + 1, 0, none⟩ (.int .i64 b)).setCell ⟨g + 1 + 1, 1, none⟩ (.int .i64 w)).setCell ⟨g + 1 + 1, 2, none⟩ (.int .i64 lv)).setCell ⟨g + 1 + 1, 3, none⟩ (.slice A3 nn c3) = w14 at *
        clear d0 d1 d2 d3
        have d0 := z.cell 0
        have d1 := z.cell 1
        have d2 := z.cell 2
        have d3 := z.cell 3
        simp at d0 d1 d2 d3
        have h7 := h6.updX u2 (by omega)
        refine bodyPost_ret (v := .agg #[.int .i64 b, .int .i64 w, .int .i64 lv, .slice A3 nn c3]) (by simp [results, Try.results43, go_sem, d0, d1, d2, d3]) rfl ⟨A3, c3, by rw [HLL.out], by rw [HLL.out]; exact h7.isMs, by rw [HLL.out]; exact h7.cap, Upd.below hB1 u2 (by have := HG.out; omega)⟩
end Go.Proofs.Ytonloimepfojdaa
