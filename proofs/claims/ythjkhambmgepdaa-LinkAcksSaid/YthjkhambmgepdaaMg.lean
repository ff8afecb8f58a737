/- Links: the test of an end; what the wire keeps; open and run. -/
import Derived.Test.YthjkhambmgepdaaMa
import Derived.Test.YthjkhambmgepdaaMb
import Derived.Test.YthjkhambmgepdaaMf
import Derived.Test.YthjkhambmgepdaaWd
import Derived.Test.YthjkhambmgepdaaW1
import Derived.Deep.CutBlock
import Derived.Deep.CutRange
namespace Go.Proofs.Ythjkhambmgepdaa
open Go
set_option linter.unusedVariables false
section
open Go.RowKit
def EndP (e : LE) (W : World) (en : Ending) (W' : World) : Prop := en = .returned (.bool (vE e)) ∧ Below W.heap.size W W'
theorem end_p {e : LE} {b : Bool} {W W' : World} (h : vE e = b) (hb : Below W.heap.size W W') : EndP e W (.returned (.bool b)) W' := ⟨by rw [h], hb⟩
set_option maxRecDepth 100000 in
set_option maxHeartbeats 8000000 in
theorem end_a (e : LE) (A B : Option Addr) (c d : Nat) (W : World) (ht : e.ty) (hH : Held W e A c B d) (h1 : vs e.n e.s e.a = false) : Calls Try.prog 106 #[.agg (LEV e A c B d)] W (EndP e W) := by
  have HE := Lib.hid (show vE e = false by simp [vE, soundB, h1])
  have HVS := Lib.hid h1
  clear h1
  have hB1 := (Below.refl W.heap.size W).alloc (Nat.le_refl _) (.cells (LEV e A c B d) 69)
  have r1 := Row.born W 69 (LEV e A c B d)
  have hH1 := hH.below hB1
  go_enter Try.func106, Try.ntmps106
  go_upto_region 1 with (fail)
  generalize W.alloc (.cells (LEV e A c B d) 69) = w1 at *
  obtain ⟨⟨c0, c1, c2, c3, c4⟩, ⟨c5, c6, c7, c8, c9⟩, -⟩ := end_cells r1
  go_wp2_with ((go_at_call 99; (with_reducible refine (sender_ref _ _ _ ht.s0 ht.s1 ht.a0 _).mono ?_); rintro en w2 ⟨rfl, hb2⟩; rw [HVS.out]; clear c0 c1 c2 c3 c4 c5 c6 c7 c8 c9; have r2 := r1.below hb2 r1.lt; have hB2 := hB1.trans (hb2.mono hB1.size); obtain ⟨⟨c0, c1, c2, c3, c4⟩, ⟨c5, c6, c7, c8, c9⟩, -⟩ := end_cells r2))
  go_ret
  exact end_p HE.out hB2
set_option maxRecDepth 100000 in
set_option maxHeartbeats 8000000 in
theorem end_b (e : LE) (A B : Option Addr) (c d : Nat) (W : World) (ht : e.ty) (hH : Held W e A c B d) (h1 : vs e.n e.s e.a = true) (h2 : vr e.rn e.rc = false) : Calls Try.prog 106 #[.agg (LEV e A c B d)] W (EndP e W) := by
  have HE := Lib.hid (show vE e = false by simp [vE, compB, h2])
  have HVS := Lib.hid h1
  have HVR := Lib.hid h2
  clear h1 h2
  have hB1 := (Below.refl W.heap.size W).alloc (Nat.le_refl _) (.cells (LEV e A c B d) 69)
  have r1 := Row.born W 69 (LEV e A c B d)
  have hH1 := hH.below hB1
  go_enter Try.func106, Try.ntmps106
  go_upto_region 1 with (fail)
  generalize W.alloc (.cells (LEV e A c B d) 69) = w1 at *
  obtain ⟨⟨c0, c1, c2, c3, c4⟩, ⟨c5, c6, c7, c8, c9⟩, -⟩ := end_cells r1
  go_wp2_with (first | (go_at_call 99; (with_reducible refine (sender_ref _ _ _ ht.s0 ht.s1 ht.a0 _).mono ?_); rintro en w2 ⟨rfl, hb2⟩; rw [HVS.out]; clear c0 c1 c2 c3 c4 c5 c6 c7 c8 c9; have r2 := r1.below hb2 r1.lt; have hB2 := hB1.trans (hb2.mono hB1.size); obtain ⟨⟨c0, c1, c2, c3, c4⟩, ⟨c5, c6, c7, c8, c9⟩, -⟩ := end_cells r2) | (go_at_call 100; (with_reducible refine (receiver_ref _ _ _).mono ?_); rintro en w3 ⟨rfl, hb3⟩; rw [HVR.out]; clear c0 c1 c2 c3 c4 c5 c6 c7 c8 c9; have r3 := r2.below hb3 r2.lt; have hB3 := hB2.trans (hb3.mono hB2.size); obtain ⟨⟨c0, c1, c2, c3, c4⟩, ⟨c5, c6, c7, c8, c9⟩, -⟩ := end_cells r3))
  go_ret
  exact end_p HE.out hB3
set_option maxRecDepth 100000 in
set_option maxHeartbeats 8000000 in
theorem end_c (e : LE) (A B : Option Addr) (c d : Nat) (W : World) (ht : e.ty) (hH : Held W e A c B d) (h1 : vs e.n e.s e.a = true) (h2 : vr e.rn e.rc = true) (h3 : e.n ≠ e.rn) : Calls Try.prog 106 #[.agg (LEV e A c B d)] W (EndP e W) := by
  have HE := Lib.hid (show vE e = false by unfold vE; rw [beq_eq_false_iff_ne.2 h3]; simp)
  have HVS := Lib.hid h1
  have HVR := Lib.hid h2
  have d3 : (e.n != e.rn) = true := by rw [bne_iff_ne]; exact h3
  clear h1 h2 h3
  have hB1 := (Below.refl W.heap.size W).alloc (Nat.le_refl _) (.cells (LEV e A c B d) 69)
  have r1 := Row.born W 69 (LEV e A c B d)
  have hH1 := hH.below hB1
  go_enter Try.func106, Try.ntmps106
  go_upto_region 1 with (fail)
  generalize W.alloc (.cells (LEV e A c B d) 69) = w1 at *
  obtain ⟨⟨c0, c1, c2, c3, c4⟩, ⟨c5, c6, c7, c8, c9⟩, -⟩ := end_cells r1
  go_wp2_with (first | (go_at_call 99; (with_reducible refine (sender_ref _ _ _ ht.s0 ht.s1 ht.a0 _).mono ?_); rintro en w2 ⟨rfl, hb2⟩; rw [HVS.out]; clear c0 c1 c2 c3 c4 c5 c6 c7 c8 c9; have r2 := r1.below hb2 r1.lt; have hB2 := hB1.trans (hb2.mono hB1.size); obtain ⟨⟨c0, c1, c2, c3, c4⟩, ⟨c5, c6, c7, c8, c9⟩, -⟩ := end_cells r2) | (go_at_call 100; (with_reducible refine (receiver_ref _ _ _).mono ?_); rintro en w3 ⟨rfl, hb3⟩; rw [HVR.out]; clear c0 c1 c2 c3 c4 c5 c6 c7 c8 c9; have r3 := r2.below hb3 r2.lt; have hB3 := hB2.trans (hb3.mono hB2.size); obtain ⟨⟨c0, c1, c2, c3, c4⟩, ⟨c5, c6, c7, c8, c9⟩, -⟩ := end_cells r3))
  go_ret
  exact end_p HE.out hB3
set_option maxRecDepth 100000 in
set_option maxHeartbeats 8000000 in
theorem end_d (e : LE) (A B : Option Addr) (c d : Nat) (W : World) (ht : e.ty) (hH : Held W e A c B d) (h1 : vs e.n e.s e.a = true) (h2 : vr e.rn e.rc = true) (h3 : e.n = e.rn) (h4 : 64 < e.q.length) : Calls Try.prog 106 #[.agg (LEV e A c B d)] W (EndP e W) := by
  have HE := Lib.hid (show vE e = false by unfold vE soundB; rw [decide_eq_false (by omega : ¬ e.q.length ≤ 64)]; simp)
  have HVS := Lib.hid h1
  have HVR := Lib.hid h2
  have d3 : (e.n != e.rn) = false := by rw [h3]; simp
  have d4 : decide (64 < e.q.length) = true := decide_eq_true h4
  clear h1 h2 h3
  have hB1 := (Below.refl W.heap.size W).alloc (Nat.le_refl _) (.cells (LEV e A c B d) 69)
  have r1 := Row.born W 69 (LEV e A c B d)
  have hH1 := hH.below hB1
  go_enter Try.func106, Try.ntmps106
  go_upto_region 1 with (fail)
  generalize W.alloc (.cells (LEV e A c B d) 69) = w1 at *
  obtain ⟨⟨c0, c1, c2, c3, c4⟩, ⟨c5, c6, c7, c8, c9⟩, -⟩ := end_cells r1
  go_wp2_with (first | (go_at_call 99; (with_reducible refine (sender_ref _ _ _ ht.s0 ht.s1 ht.a0 _).mono ?_); rintro en w2 ⟨rfl, hb2⟩; rw [HVS.out]; clear c0 c1 c2 c3 c4 c5 c6 c7 c8 c9; have r2 := r1.below hb2 r1.lt; have hB2 := hB1.trans (hb2.mono hB1.size); obtain ⟨⟨c0, c1, c2, c3, c4⟩, ⟨c5, c6, c7, c8, c9⟩, -⟩ := end_cells r2) | (go_at_call 100; (with_reducible refine (receiver_ref _ _ _).mono ?_); rintro en w3 ⟨rfl, hb3⟩; rw [HVR.out]; clear c0 c1 c2 c3 c4 c5 c6 c7 c8 c9; have r3 := r2.below hb3 r2.lt; have hB3 := hB2.trans (hb3.mono hB2.size); obtain ⟨⟨c0, c1, c2, c3, c4⟩, ⟨c5, c6, c7, c8, c9⟩, -⟩ := end_cells r3))
  go_ret
  exact end_p HE.out hB3
set_option maxRecDepth 100000 in
set_option maxHeartbeats 8000000 in
theorem end_e (e : LE) (A B : Option Addr) (c d : Nat) (W : World) (ht : e.ty) (hH : Held W e A c B d) (h1 : vs e.n e.s e.a = true) (h2 : vr e.rn e.rc = true) (h3 : e.n = e.rn) (h4 : e.q.length ≤ 64) (h5 : e.rc < e.told) : Calls Try.prog 106 #[.agg (LEV e A c B d)] W (EndP e W) := by
  have HE := Lib.hid (show vE e = false by unfold vE compB; rw [decide_eq_false (by omega : ¬ e.told ≤ e.rc)]; simp)
  have HVS := Lib.hid h1
  have HVR := Lib.hid h2
  have d3 : (e.n != e.rn) = false := by rw [h3]; simp
  have d4 : decide (64 < e.q.length) = false := decide_eq_false (by omega)
  have d5 : decide (e.rc < e.told) = true := decide_eq_true h5
  clear h1 h2 h3
  have hB1 := (Below.refl W.heap.size W).alloc (Nat.le_refl _) (.cells (LEV e A c B d) 69)
  have r1 := Row.born W 69 (LEV e A c B d)
  have hH1 := hH.below hB1
  go_enter Try.func106, Try.ntmps106
  go_upto_region 1 with (fail)
  generalize W.alloc (.cells (LEV e A c B d) 69) = w1 at *
  obtain ⟨⟨c0, c1, c2, c3, c4⟩, ⟨c5, c6, c7, c8, c9⟩, -⟩ := end_cells r1
  go_wp2_with (first | (go_at_call 99; (with_reducible refine (sender_ref _ _ _ ht.s0 ht.s1 ht.a0 _).mono ?_); rintro en w2 ⟨rfl, hb2⟩; rw [HVS.out]; clear c0 c1 c2 c3 c4 c5 c6 c7 c8 c9; have r2 := r1.below hb2 r1.lt; have hB2 := hB1.trans (hb2.mono hB1.size); obtain ⟨⟨c0, c1, c2, c3, c4⟩, ⟨c5, c6, c7, c8, c9⟩, -⟩ := end_cells r2) | (go_at_call 100; (with_reducible refine (receiver_ref _ _ _).mono ?_); rintro en w3 ⟨rfl, hb3⟩; rw [HVR.out]; clear c0 c1 c2 c3 c4 c5 c6 c7 c8 c9; have r3 := r2.below hb3 r2.lt; have hB3 := hB2.trans (hb3.mono hB2.size); obtain ⟨⟨c0, c1, c2, c3, c4⟩, ⟨c5, c6, c7, c8, c9⟩, -⟩ := end_cells r3))
  go_ret
  exact end_p HE.out hB3
set_option maxRecDepth 100000 in
set_option maxHeartbeats 8000000 in
theorem end_f (e : LE) (A B : Option Addr) (c d : Nat) (W : World) (ht : e.ty) (hH : Held W e A c B d) (h1 : vs e.n e.s e.a = true) (h2 : vr e.rn e.rc = true) (h3 : e.n = e.rn) (h4 : e.q.length ≤ 64) (h5 : e.told ≤ e.rc) : Calls Try.prog 106 #[.agg (LEV e A c B d)] W (EndP e W) := by
  have HS := Lib.hid (show vE e = (qOk (e.q.drop 0) && offOk e.off e.q && partOk e.want e.pt) by unfold vE soundB compB; rw [h1, h2, decide_eq_true h4, decide_eq_true h5, beq_iff_eq.2 h3]; simp)
  have HVS := Lib.hid h1
  have HVR := Lib.hid h2
  have d3 : (e.n != e.rn) = false := by rw [h3]; simp
  have d4 : decide (64 < e.q.length) = false := decide_eq_false (by omega)
  have d5 : decide (e.rc < e.told) = false := decide_eq_false (by omega)
  clear h1 h2 h3
  have hB1 := (Below.refl W.heap.size W).alloc (Nat.le_refl _) (.cells (LEV e A c B d) 69)
  have r1 := Row.born W 69 (LEV e A c B d)
  have hH1 := hH.below hB1
  go_enter Try.func106, Try.ntmps106
  go_upto_region 1 with (fail)
  generalize W.alloc (.cells (LEV e A c B d) 69) = w1 at *
  obtain ⟨⟨c0, c1, c2, c3, c4⟩, ⟨c5, c6, c7, c8, c9⟩, -⟩ := end_cells r1
  go_upto_region 4 with (first | (go_at_call 99; (with_reducible refine (sender_ref _ _ _ ht.s0 ht.s1 ht.a0 _).mono ?_); rintro en w2 ⟨rfl, hb2⟩; rw [HVS.out]; clear c0 c1 c2 c3 c4 c5 c6 c7 c8 c9; have r2 := r1.below hb2 r1.lt; have hB2 := hB1.trans (hb2.mono hB1.size); obtain ⟨⟨c0, c1, c2, c3, c4⟩, ⟨c5, c6, c7, c8, c9⟩, -⟩ := end_cells r2) | (go_at_call 100; (with_reducible refine (receiver_ref _ _ _).mono ?_); rintro en w3 ⟨rfl, hb3⟩; rw [HVR.out]; clear c0 c1 c2 c3 c4 c5 c6 c7 c8 c9; have r3 := r2.below hb3 r2.lt; have hB3 := hB2.trans (hb3.mono hB2.size); obtain ⟨⟨c0, c1, c2, c3, c4⟩, ⟨c5, c6, c7, c8, c9⟩, -⟩ := end_cells r3))
  have hq1 := (hH1.below (hb2.trans (hb3.mono hb2.size))).q
  have hH3 := hH1.below (hb2.trans (hb3.mono hb2.size))
  clear d3 d4 d5 hH1 hb2 hb3 r1 r2 hB1 hB2
  go_loop [3] (fun i => ∃ j : Nat, j ≤ e.q.length ∧ i = .int .i64 j ∧ Hid (vE e = (qOk (e.q.drop j) && offOk e.off e.q && partOk e.want e.pt))) (fun i => e.q.length - (intOf i).toNat)
  case atStart => exact ⟨0, by omega, rfl, HS⟩
  case round =>
    clear HS
    obtain ⟨j, hj, rfl, HS⟩ := hrel
    rcases Nat.lt_or_ge j e.q.length with hjl | hjl
    · have hd1 : decide (j < e.q.length) = true := by simpa using hjl
      have hji : (j : Int) < e.q.length := by omega
      obtain ⟨b, o, hA, hrow⟩ := hq1.2 (by omega)
      subst hA
      obtain ⟨Ar, Cr, x, -, -, -⟩ := hrow j hjl
      have hat := qOk_at hjl
      clear hrow
      generalize e.q[j].length = L at *
      by_cases hL : 1048576 < L
      · have hd2 : decide (1048576 < L) = true := by simpa using hL
        have HF := Lib.hid (show vE e = false by rw [HS.out, hat, decide_eq_false (by omega : ¬ L ≤ 1048576)]; simp)
        clear hat
        go_wp2
        go_ret
        exact end_p HF.out hB3
      · have hd2 : decide (1048576 < L) = false := by simpa using hL
        have HN := Lib.hid (show vE e = (qOk (e.q.drop (j + 1)) && offOk e.off e.q && partOk e.want e.pt) by rw [HS.out, hat, decide_eq_true (by omega : L ≤ 1048576)]; simp)
        clear hat HS
        go_wp2
        go_round
        case rel => exact ⟨j + 1, by omega, by go_num, HN⟩
        case measure => simp [intOf]; omega
    · have hd1 : decide (e.q.length < e.q.length) = false := by simp
      have hd3 : decide (j < e.q.length) = false := by simpa using hjl
      have HN := Lib.hid (show vE e = (offOk e.off e.q && partOk e.want e.pt) by rw [HS.out, List.drop_eq_nil_of_le hjl]; simp [qOk])
      clear HS
      go_upto_region 8 with (fail)
      have r3 : Row w3.drew W.heap.size 69 (LEV e A c B d) := r3
      have hq1 : IsM w3.drew A e.q.length e.q := hq1
      have hH3 : Held w3.drew e A c B d := ⟨hq1, hH3.qc, hH3.p, hH3.pc⟩
      have hB3 : Below W.heap.size W w3.drew := hB3.drew
      clear c0 c1 c2 c3 c4 c5 c6 c7 c8 c9
      obtain ⟨⟨c0, c1, c2, c3, c4⟩, ⟨c5, c6, c7, c8, c9⟩, -⟩ := end_cells r3
      have e0 := ht.o0
      have e1 := ht.o1
      by_cases hoff : e.off = -1
      · have ho : (e.off != -1) = false := by rw [hoff]; rfl
        have HN := Lib.hid (show vE e = partOk e.want e.pt by rw [HN.out]; unfold offOk; rw [hoff]; rfl)
        clear hoff
        refine wp_region_told (n := 89) (fun w' => w' = w3.drew) (fun _ _ => True) (by kernel_rfl) (by kernel_rfl) (by rfl) rfl ?_
        repeat (first | (refine walk_pure (v := ?_) (fun _ => trivial) (fun _ => rfl) ?_ ?_; rotate_left; (focus (intro us w9 hS9 hF; subst hS9; clear hF; go_simp; (try with_reducible rfl); done)); simp only [Act.put, List.setIfInBounds_toArray, List.set_cons_zero, List.set_cons_succ, Nat.reduceAdd]) | (refine walk_skip (fun _ => trivial) (fun _ => rfl) ?_; simp only [Act.put, List.setIfInBounds_toArray, List.set_cons_zero, List.set_cons_succ, Nat.reduceAdd]))
        refine walk_done fun us w9 hS9 hF => ?_
        subst hS9
        clear hF
        have hp0 := hH3.p.1
        by_cases hw : e.want = -1
        · have hw1 : (e.want == -1) = true := by rw [beq_iff_eq]; exact hw
          have HP := Lib.hid (show vE e = (e.pt.length == 0) by rw [HN.out]; unfold partOk; rw [if_pos hw])
          clear hw
          have hb0 : (((e.pt.length : Nat) : Int) == 0) = (e.pt.length == 0) := by rw [Bool.eq_iff_iff]; simp
          go_wp2
          go_ret
          exact end_p (HP.out.trans (by simp)) hB3
        · have hw1 : (e.want == -1) = false := by rw [beq_eq_false_iff_ne]; exact hw
          have w0 := ht.w0
          have w1' := ht.w1
          have hpl := ht.pl
          by_cases hm : e.want ≤ 1048576
          · have dm : decide (e.want ≤ 1048576) = true := decide_eq_true hm
            have HP := Lib.hid (show vE e = cutB e.pt.length e.want by rw [HN.out]; unfold partOk; rw [if_neg hw, dm]; rfl)
            clear hw hm
            go_wp2_with (go_at_call 139; refine (cut_ref _ _ (by omega) _).mono ?_; rintro en w8 ⟨rfl, h8⟩; rw [← h8]; clear h8)
            go_ret
            exact end_p HP.out hB3
          · have dm : decide (e.want ≤ 1048576) = false := decide_eq_false hm
            have HP := Lib.hid (show vE e = false by rw [HN.out]; unfold partOk; rw [if_neg hw, dm]; rfl)
            clear hw hm
            go_wp2
            go_ret
            exact end_p HP.out hB3
      · have ho : (e.off != -1) = true := by rw [bne_iff_ne]; exact hoff
        by_cases h0 : e.q.length = 0
        · have h1 : (e.q.length == 0) = true := by rw [h0]; rfl
          have HF := Lib.hid (show vE e = false by rw [HN.out]; unfold offOk; rw [decide_eq_false (by omega : ¬ 0 < e.q.length), beq_eq_false_iff_ne.2 hoff]; rfl)
          rw [h0] at c5
          clear hoff h0
          refine wp_region_told (n := 89) (fun w' => w' = w3.drew) (fun _ _ => True) (by kernel_rfl) (by kernel_rfl) (by rfl) rfl ?_
          repeat (first | (refine walk_pure (v := ?_) (fun _ => trivial) (fun _ => rfl) ?_ ?_; rotate_left; (focus (intro us w9 hS9 hF; subst hS9; clear hF; go_simp; (try with_reducible rfl); done)); simp only [Act.put, List.setIfInBounds_toArray, List.set_cons_zero, List.set_cons_succ, Nat.reduceAdd]) | (refine walk_skip (fun _ => trivial) (fun _ => rfl) ?_; simp only [Act.put, List.setIfInBounds_toArray, List.set_cons_zero, List.set_cons_succ, Nat.reduceAdd]))
          refine walk_done fun us w9 hS9 hF => ?_
          subst hS9
          clear hF
          go_wp2
          go_ret
          exact end_p HF.out hB3
        · have h1 : (((e.q.length : Nat) : Int) == 0) = false := by rw [beq_eq_false_iff_ne]; omega
          have h1' : (e.q.length == 0) = false := by rw [beq_eq_false_iff_ne]; omega
          have h2 : 0 < e.q.length := by omega
          have hi0 : (0 : Int) < e.q.length := by omega
          obtain ⟨b, o, hA, hrow⟩ := hq1.2 h2
          subst hA
          obtain ⟨Ar, Cr, x, -, -, -⟩ := hrow 0 h2
          have hhd := headD_len h2
          have HO := Lib.hid (show vE e = (cutB e.off e.q[0].length && partOk e.want e.pt) by rw [HN.out]; unfold offOk; rw [beq_eq_false_iff_ne.2 hoff, decide_eq_true h2, hhd]; simp)
          have x : w3.drew.cell? ⟨b, o, none⟩ = some (.slice Ar e.q[0].length Cr) := x
          clear hrow hhd hoff h0
          generalize e.q[0].length = L at *
          refine wp_region_told (n := 89) (fun w' => w' = w3.drew) (fun _ _ => True) (by kernel_rfl) (by kernel_rfl) (by rfl) rfl ?_
          repeat (first | (refine walk_pure (v := ?_) (fun _ => trivial) (fun _ => rfl) ?_ ?_; rotate_left; (focus (intro us w9 hS9 hF; subst hS9; clear hF; go_simp; (try with_reducible rfl); done)); simp only [Act.put, List.setIfInBounds_toArray, List.set_cons_zero, List.set_cons_succ, Nat.reduceAdd]) | (refine walk_skip (fun _ => trivial) (fun _ => rfl) ?_; simp only [Act.put, List.setIfInBounds_toArray, List.set_cons_zero, List.set_cons_succ, Nat.reduceAdd]))
          refine walk_fix (v := .bool (cutB e.off L)) ?_ ?_; (focus (intro us w9 hS9 hF K hK; subst hS9; clear hF; go_simp; refine (cut_ref _ _ e1 _).mono ?_; rintro e' w' ⟨rfl, rfl⟩; exact hK _ rfl trivial)); simp only [Act.put, List.setIfInBounds_toArray, List.set_cons_zero, List.set_cons_succ, Nat.reduceAdd]
          repeat (first | (refine walk_pure (v := ?_) (fun _ => trivial) (fun _ => rfl) ?_ ?_; rotate_left; (focus (intro us w9 hS9 hF; subst hS9; clear hF; go_simp; (try with_reducible rfl); done)); simp only [Act.put, List.setIfInBounds_toArray, List.set_cons_zero, List.set_cons_succ, Nat.reduceAdd]) | (refine walk_skip (fun _ => trivial) (fun _ => rfl) ?_; simp only [Act.put, List.setIfInBounds_toArray, List.set_cons_zero, List.set_cons_succ, Nat.reduceAdd]))
          refine walk_done fun us w9 hS9 hF => ?_
          subst hS9
          clear hF
          obtain ⟨cb, hcb⟩ : ∃ cb, cutB e.off L = cb := ⟨_, rfl⟩
          rw [hcb] at HO ⊢
          clear hcb
          cases cb
          · have HF := Lib.hid (show vE e = false by rw [HO.out]; rfl)
            go_wp2
            go_ret
            exact end_p HF.out hB3
          · have HN := Lib.hid (show vE e = partOk e.want e.pt by rw [HO.out]; rfl)
            have hp0 := hH3.p.1
            by_cases hw : e.want = -1
            · have hw1 : (e.want == -1) = true := by rw [beq_iff_eq]; exact hw
              have HP := Lib.hid (show vE e = (e.pt.length == 0) by rw [HN.out]; unfold partOk; rw [if_pos hw])
              clear hw
              have hb0 : (((e.pt.length : Nat) : Int) == 0) = (e.pt.length == 0) := by rw [Bool.eq_iff_iff]; simp
              go_wp2
              go_ret
              exact end_p (HP.out.trans (by simp)) hB3
            · have hw1 : (e.want == -1) = false := by rw [beq_eq_false_iff_ne]; exact hw
              have w0 := ht.w0
              have w1' := ht.w1
              have hpl := ht.pl
              by_cases hm : e.want ≤ 1048576
              · have dm : decide (e.want ≤ 1048576) = true := decide_eq_true hm
                have HP := Lib.hid (show vE e = cutB e.pt.length e.want by rw [HN.out]; unfold partOk; rw [if_neg hw, dm]; rfl)
                clear hw hm
                go_wp2_with (go_at_call 139; refine (cut_ref _ _ (by omega) _).mono ?_; rintro en w8 ⟨rfl, h8⟩; rw [← h8]; clear h8)
                go_ret
                exact end_p HP.out hB3
              · have dm : decide (e.want ≤ 1048576) = false := decide_eq_false hm
                have HP := Lib.hid (show vE e = false by rw [HN.out]; unfold partOk; rw [if_neg hw, dm]; rfl)
                clear hw hm
                go_wp2
                go_ret
                exact end_p HP.out hB3
theorem end_ref (e : LE) (A B : Option Addr) (c d : Nat) (W : World) (ht : e.ty) (hH : Held W e A c B d) : Calls Try.prog 106 #[.agg (LEV e A c B d)] W (EndP e W) := by
  cases h1 : vs e.n e.s e.a
  · exact end_a e A B c d W ht hH h1
  cases h2 : vr e.rn e.rc
  · exact end_b e A B c d W ht hH h1 h2
  by_cases h3 : e.n = e.rn
  · by_cases h4 : e.q.length ≤ 64
    · by_cases h5 : e.told ≤ e.rc
      · exact end_f e A B c d W ht hH h1 h2 h3 h4 h5
      · exact end_e e A B c d W ht hH h1 h2 h3 h4 (by omega)
    · exact end_d e A B c d W ht hH h1 h2 h3 (by omega)
  · exact end_c e A B c d W ht hH h1 h2 h3
end
section
open Go.RowKit
/-- How many lines a message of len bytes still takes, of which off bytes are sent. -/
def cntF (len : Nat) (off : Int) : Nat := if off < 0 then 1 + (len - 52 + 55) / 56 else (len - off.toNat + 55) / 56
def unsQ : List (List UInt8) → Nat
  | [] => 0
  | m :: t => cntF m.length (-1) + unsQ t
def uns (x : LE) : Nat := match x.q with
  | [] => 0
  | m :: t => cntF m.length x.off + unsQ t
def potD (x y : LE) (L : List Ln) : Nat := 4 * uns x + 2 * (x.s - y.told).toNat + L.length
def pot (S : WrS) : Nat := potD (S.E 0) (S.E 1) (S.Y 1) + potD (S.E 1) (S.E 0) (S.Y 0)
theorem uns_new {x : LE} (h : x.off = -1) : uns x = unsQ x.q := by
  unfold uns
  cases hq : x.q with
  | nil => rfl
  | cons m t => simp [unsQ, h]
theorem unsQ_snoc (m : List UInt8) : ∀ q : List (List UInt8), unsQ (q ++ [m]) = unsQ q + cntF m.length (-1)
  | [] => by simp [unsQ]
  | k :: t => by simp [unsQ, unsQ_snoc m t]; omega
theorem uns_enq (x : LE) (hx : Gd x) (m : List UInt8) : uns { x with q := x.q ++ [m] } = uns x + cntF m.length (-1) := by
  unfold uns
  cases hq : x.q with
  | nil =>
    rcases hx.ve.off with h | h
    · simp [h, unsQ]
    · have := h.1; rw [hq] at this; simp at this
  | cons k t =>
    simp [unsQ_snoc]
    omega
theorem uns_go {x : LE} (hx : Gd x) (hg : nxGo x = true) : uns (nxG x) + 1 = uns x := by
  obtain ⟨h0, -⟩ := nxGo_q hg
  obtain ⟨m, t, hq⟩ : ∃ m t, x.q = m :: t := by
    cases hq : x.q with
    | nil => rw [hq] at h0; simp at h0
    | cons m t => exact ⟨m, t, rfl⟩
  have hM : frM x = m := by unfold frM; rw [hq]; rfl
  have hux : uns x = cntF m.length x.off + unsQ t := by unfold uns; rw [hq]
  by_cases he : nxEnd x = true
  · have e1 : nxG x = { x with s := x.s + 1, off := -1, q := x.q.tail, told := x.rc } := by unfold nxG; rw [if_pos he, if_pos he]
    have hu : uns (nxG x) = unsQ t := by rw [uns_new (by rw [e1])]; rw [e1]; show unsQ x.q.tail = _; rw [hq]; rfl
    have hfs : frS x = m.length := by unfold nxEnd at he; rw [beq_iff_eq, hM] at he; exact he
    have h1 : cntF m.length x.off = 1 := by
      rcases hx.ve.off with h | ⟨_, h2, h3, _⟩
      · unfold frS at hfs
        rw [if_pos (by omega), hM] at hfs
        unfold cntF
        rw [if_pos (by omega)]
        omega
      · unfold frS at hfs
        rw [if_neg (by omega), hM] at hfs
        rw [hM] at h3
        unfold cntF
        rw [if_neg (by omega)]
        omega
    rw [hu, hux, h1]
    omega
  · have e1 : nxG x = { x with s := x.s + 1, off := (frS x : Int), told := x.rc } := by unfold nxG; rw [if_neg he, if_neg he]
    have hne : ¬ frS x = m.length := by unfold nxEnd at he; rw [hM] at he; simpa using he
    have hu : uns (nxG x) = cntF m.length (frS x : Int) + unsQ t := by rw [e1]; unfold uns; simp only [hq]
    have h1 : cntF m.length (frS x : Int) + 1 = cntF m.length x.off := by
      rcases hx.ve.off with h | ⟨_, h2, h3, _⟩
      · have hfs : frS x = min m.length 52 := by unfold frS; rw [if_pos (by omega), hM]
        unfold cntF
        rw [if_neg (by omega), if_pos (by omega)]
        omega
      · have hfs : frS x = min m.length (x.off.toNat + 56) := by unfold frS; rw [if_neg (by omega), hM]
        rw [hM] at h3
        unfold cntF
        rw [if_neg (by omega), if_neg (by omega)]
        omega
    rw [hu, hux]
    omega
theorem Dir.told_le {x y : LE} {L B : List Ln} {V : List (List UInt8)} {T : Nat} (h : Dir x y L B V T) (hy : Gd y) : y.told ≤ x.s := by
  have := h.rc
  have := hy.ve.told
  omega
/-- What holds of the wire; c bounds what has been done. -/
structure WInv (c : Nat) (S : WrS) : Prop where
  g : ∀ s, s < 2 → Gd (S.E s)
  d : ∀ s, s < 2 → Dir (S.E s) (S.E (1 - s)) (S.Y (1 - s)) (S.Y s) (S.V s) (S.T (1 - s))
  bs : ∀ s, s < 2 → (S.E s).s ≤ c
  bY : ∀ s, s < 2 → (S.Y s).length ≤ c
  bV : ∀ s, s < 2 → (S.V s).length ≤ c
  p : pot S ≤ 32 * c
theorem pot_sym (S : WrS) (s : Nat) (hs : s < 2) : pot S = potD (S.E s) (S.E (1 - s)) (S.Y (1 - s)) + potD (S.E (1 - s)) (S.E s) (S.Y s) := by
  rcases (by omega : s = 0 ∨ s = 1) with rfl | rfl
  · rfl
  · unfold pot; rw [Nat.add_comm]
theorem one_sub {s : Nat} (hs : s < 2) : 1 - s < 2 ∧ 1 - (1 - s) = s ∧ 1 - s ≠ s := by omega
theorem WInv.of {c : Nat} {S : WrS} (s : Nat) (hs : s < 2) (g0 : Gd (S.E s)) (g1 : Gd (S.E (1 - s))) (d0 : Dir (S.E s) (S.E (1 - s)) (S.Y (1 - s)) (S.Y s) (S.V s) (S.T (1 - s))) (d1 : Dir (S.E (1 - s)) (S.E s) (S.Y s) (S.Y (1 - s)) (S.V (1 - s)) (S.T s))
    (s0 : (S.E s).s ≤ c) (s1 : (S.E (1 - s)).s ≤ c) (y0 : (S.Y s).length ≤ c) (y1 : (S.Y (1 - s)).length ≤ c) (v0 : (S.V s).length ≤ c) (v1 : (S.V (1 - s)).length ≤ c) (hp : pot S ≤ 32 * c) : WInv c S := by
  obtain ⟨a, b, e⟩ := one_sub hs
  have hc : ∀ t, t < 2 → t = s ∨ t = 1 - s := fun t ht => by omega
  refine ⟨fun t ht => ?_, fun t ht => ?_, fun t ht => ?_, fun t ht => ?_, fun t ht => ?_, hp⟩ <;> rcases hc t ht with rfl | rfl
  · exact g0
  · exact g1
  · exact d0
  · rw [b]; exact d1
  · exact s0
  · exact s1
  · exact y0
  · exact y1
  · exact v0
  · exact v1
theorem WInv.mono {c c' : Nat} {S : WrS} (h : WInv c S) (hc : c ≤ c') : WInv c' S :=
  ⟨h.g, h.d, fun s hs => by have := h.bs s hs; omega, fun s hs => Nat.le_trans (h.bY s hs) hc, fun s hs => Nat.le_trans (h.bV s hs) hc, by have := h.p; omega⟩
theorem WInv.bT {c : Nat} {S : WrS} (h : WInv c S) {s : Nat} (hs : s < 2) : S.T s ≤ (S.V (1 - s)).length := by
  obtain ⟨a, b, e⟩ := one_sub hs
  have := (h.d (1 - s) a).got
  rwa [b] at this
theorem upd_same {α : Type} (f : Nat → α) (i : Nat) : upd f i (f i) = f := by
  funext k
  unfold upd
  split
  · next h => rw [h]
  · rfl
def enqS (S : WrS) (s : Nat) (m : List UInt8) : WrS := { S with E := upd S.E s { S.E s with q := (S.E s).q ++ [m] }, V := upd S.V s (S.V s ++ [m]) }
def trS (S : WrS) (s : Nat) : WrS := { S with E := upd S.E s (nxL (S.E s)), Y := upd S.Y (1 - s) (S.Y (1 - s) ++ [nxn (S.E s)]) }
def deS (S : WrS) (s : Nat) (l : Ln) (ls : List Ln) : WrS := { S with E := upd S.E s (dvG (S.E s) l.k l.f l.n l.a l.p), Y := upd S.Y s ls, T := upd S.T s (tkN (S.E s) l (S.T s)) }
theorem WInv.enq {c k : Nat} {S : WrS} (h : WInv c S) {s : Nat} (hs : s < 2) (hq : (S.E s).q.length < 64) {m : List UInt8} (hm : m.length ≤ 1048576) (hk : 4 * cntF m.length (-1) ≤ 32 * k) (hk1 : 1 ≤ k) : WInv (c + k) (enqS S s m) := by
  obtain ⟨a, b, e⟩ := one_sub hs
  have hE : (enqS S s m).E s = { S.E s with q := (S.E s).q ++ [m] } := upd_self _ _ _
  have hE1 : (enqS S s m).E (1 - s) = S.E (1 - s) := upd_other e
  have hV : (enqS S s m).V s = S.V s ++ [m] := upd_self _ _ _
  have hV1 : (enqS S s m).V (1 - s) = S.V (1 - s) := upd_other e
  have d1 := h.d (1 - s) a
  rw [b] at d1
  have hu := uns_enq (S.E s) (h.g s hs) m
  refine WInv.of s hs ?_ ?_ ?_ ?_ ?_ ?_ ?_ ?_ ?_ ?_ ?_
  · rw [hE]; exact (h.g s hs).enq hq hm
  · rw [hE1]; exact h.g _ a
  · rw [hE, hE1, hV]; exact (h.d s hs).enq m
  · rw [hE, hE1, hV1]; exact ⟨d1.same, d1.run, d1.ack⟩
  · rw [hE]; have := h.bs s hs; show (S.E s).s ≤ _; omega
  · rw [hE1]; have := h.bs _ a; omega
  · exact Nat.le_trans (h.bY s hs) (by omega)
  · exact Nat.le_trans (h.bY _ a) (by omega)
  · rw [hV]; have := h.bV s hs; simp; omega
  · rw [hV1]; exact Nat.le_trans (h.bV _ a) (by omega)
  · rw [pot_sym _ s hs, hE, hE1]
    have hp := h.p
    rw [pot_sym _ s hs] at hp
    have hY : (enqS S s m).Y = S.Y := rfl
    rw [hY]
    unfold potD at hp ⊢
    rw [hu]
    have e1 : ({ S.E s with q := (S.E s).q ++ [m] } : LE).s = (S.E s).s := rfl
    have e2 : ({ S.E s with q := (S.E s).q ++ [m] } : LE).told = (S.E s).told := rfl
    rw [e1, e2]
    omega
theorem pot_tr {c : Nat} {S : WrS} (h : WInv c S) {s : Nat} (hs : s < 2) (h0 : nxE (S.E s) = 0) : pot (trS S s) < pot S := by
  obtain ⟨a, b, e⟩ := one_sub hs
  have hE : (trS S s).E s = nxL (S.E s) := upd_self _ _ _
  have hE1 : (trS S s).E (1 - s) = S.E (1 - s) := upd_other e
  have hY : (trS S s).Y (1 - s) = S.Y (1 - s) ++ [nxn (S.E s)] := upd_self _ _ _
  have hY1 : (trS S s).Y s = S.Y s := upd_other (by omega)
  have d1 := h.d (1 - s) a
  rw [b] at d1
  rw [pot_sym _ s hs, pot_sym _ s hs, hE, hE1, hY, hY1]
  unfold potD
  rw [nxL_told h0, List.length_append, List.length_singleton]
  have hx := h.g s hs
  have hlt := d1.rc
  have htl := hx.ve.told
  have htl2 := (h.d s hs).told_le (h.g _ a)
  cases hg : nxGo (S.E s)
  · have e2 : nxL (S.E s) = { S.E s with told := (S.E s).rc } := by unfold nxL; rw [if_pos h0, hg]; rfl
    have hu : uns (nxL (S.E s)) = uns (S.E s) := by rw [e2]; rfl
    have hss : (nxL (S.E s)).s = (S.E s).s := by rw [e2]
    have hr : (S.E s).rn / 2 ≤ (S.E s).rc - (S.E s).told := by
      unfold nxE at h0
      rw [if_pos hx.v, hg] at h0
      simp only [Bool.false_eq_true, if_false] at h0
      by_cases h9 : (S.E s).rn / 2 ≤ (S.E s).rc - (S.E s).told
      · exact h9
      · rw [if_neg h9] at h0; cases h0
    have hn := vl_range (vr_vl hx.ve.vr)
    rw [hu, hss]
    omega
  · have e2 : nxL (S.E s) = nxG (S.E s) := by unfold nxL; rw [if_pos h0, hg]; rfl
    have hu := uns_go hx hg
    have hss : (nxL (S.E s)).s = (S.E s).s + 1 := by rw [e2]; rfl
    rw [e2] at hss ⊢
    rw [hss]
    omega
theorem WInv.tr {c : Nat} {S : WrS} (h : WInv c S) {s : Nat} (hs : s < 2) (h0 : nxE (S.E s) = 0) : WInv (c + 1) (trS S s) := by
  obtain ⟨a, b, e⟩ := one_sub hs
  have hpt := pot_tr h hs h0
  have hE : (trS S s).E s = nxL (S.E s) := upd_self _ _ _
  have hE1 : (trS S s).E (1 - s) = S.E (1 - s) := upd_other e
  have hY : (trS S s).Y (1 - s) = S.Y (1 - s) ++ [nxn (S.E s)] := upd_self _ _ _
  have hY1 : (trS S s).Y s = S.Y s := upd_other (by omega)
  have d1 := h.d (1 - s) a
  rw [b] at d1
  have hss : (nxL (S.E s)).s ≤ (S.E s).s + 1 := by
    unfold nxL
    rw [if_pos h0]
    split
    · exact Int.le_refl _
    · show (S.E s).s ≤ _; omega
  refine WInv.of s hs ?_ ?_ ?_ ?_ ?_ ?_ ?_ ?_ ?_ ?_ ?_
  · rw [hE]; exact (h.g s hs).tr h0
  · rw [hE1]; exact h.g _ a
  · rw [hE, hE1, hY, hY1]; exact (h.d s hs).tr (h.g s hs) h0
  · rw [hE, hE1, hY, hY1]; exact d1.told (h.g _ a) (h.g s hs) h0
  · rw [hE]; have := h.bs s hs; omega
  · rw [hE1]; have := h.bs _ a; omega
  · rw [hY1]; exact Nat.le_trans (h.bY s hs) (by omega)
  · rw [hY]; have := h.bY _ a; simp; omega
  · exact Nat.le_trans (h.bV s hs) (by omega)
  · exact Nat.le_trans (h.bV _ a) (by omega)
  · have := h.p; omega
theorem WInv.takes {c : Nat} {S : WrS} (h : WInv c S) (hc : c < 4611686018427387904) {s : Nat} (hs : s < 2) {l : Ln} {ls : List Ln} (hY : S.Y s = l :: ls) : Takes (S.E s) l (S.V (1 - s)) (S.T s) := by
  obtain ⟨a, b, e⟩ := one_sub hs
  have d0 := h.d (1 - s) a
  rw [b, hY] at d0
  have d1 := h.d s hs
  rw [hY] at d1
  exact Go.Proofs.Ythjkhambmgepdaa.takes d0 d1 (h.g s hs) (h.g _ a) (by have := h.bs _ a; omega)
theorem dv_uns (y : LE) (l : Ln) : uns (dvG y l.k l.f l.n l.a l.p) = uns y := by
  obtain ⟨k1, k2, k3, k4, k5, k6, k7⟩ := dv_keep y l
  unfold uns
  rw [k5, k6]
theorem pot_de {S : WrS} {s : Nat} (hs : s < 2) {l : Ln} {ls : List Ln} (hY : S.Y s = l :: ls) : pot (deS S s l ls) < pot S := by
  obtain ⟨a, b, e⟩ := one_sub hs
  have hE : (deS S s l ls).E s = dvG (S.E s) l.k l.f l.n l.a l.p := upd_self _ _ _
  have hE1 : (deS S s l ls).E (1 - s) = S.E (1 - s) := upd_other e
  have hY0 : (deS S s l ls).Y s = ls := upd_self _ _ _
  have hY1 : (deS S s l ls).Y (1 - s) = S.Y (1 - s) := upd_other e
  obtain ⟨k1, k2, k3, k4, k5, k6, k7⟩ := dv_keep (S.E s) l
  rw [pot_sym _ s hs, pot_sym _ s hs, hE, hE1, hY0, hY1, hY]
  unfold potD
  rw [dv_uns, k2, k7, List.length_cons]
  omega
theorem WInv.de {c : Nat} {S : WrS} (h : WInv c S) (hc : c < 4611686018427387904) {s : Nat} (hs : s < 2) {l : Ln} {ls : List Ln} (hY : S.Y s = l :: ls) : WInv c (deS S s l ls) := by
  obtain ⟨a, b, e⟩ := one_sub hs
  have tk := h.takes hc hs hY
  have hpt := pot_de hs hY
  have hE : (deS S s l ls).E s = dvG (S.E s) l.k l.f l.n l.a l.p := upd_self _ _ _
  have hE1 : (deS S s l ls).E (1 - s) = S.E (1 - s) := upd_other e
  have hY0 : (deS S s l ls).Y s = ls := upd_self _ _ _
  have hY1 : (deS S s l ls).Y (1 - s) = S.Y (1 - s) := upd_other e
  have hT0 : (deS S s l ls).T s = tkN (S.E s) l (S.T s) := upd_self _ _ _
  have hT1 : (deS S s l ls).T (1 - s) = S.T (1 - s) := upd_other e
  have d0 := h.d (1 - s) a
  rw [b, hY] at d0
  have d1 := h.d s hs
  rw [hY] at d1
  obtain ⟨k1, k2, k3, k4, k5, k6, k7⟩ := dv_keep (S.E s) l
  have hyl := h.bY s hs
  rw [hY] at hyl
  refine WInv.of s hs ?_ ?_ ?_ ?_ ?_ ?_ ?_ ?_ ?_ ?_ ?_
  · rw [hE]; exact (h.g s hs).de tk
  · rw [hE1]; exact h.g _ a
  · rw [hE, hE1, hY0, hY1, hT1]; exact d1.back
  · rw [hE, hE1, hY0, hY1, hT0]; exact d0.de
  · rw [hE, k2]; exact h.bs s hs
  · rw [hE1]; exact h.bs _ a
  · rw [hY0]; simp at hyl; omega
  · rw [hY1]; exact h.bY _ a
  · exact h.bV s hs
  · exact h.bV _ a
  · have := h.p; omega
/-- Where nothing is on its way and neither end transmits, nothing waits. -/
theorem still {c : Nat} {S : WrS} (h : WInv c S) (h0 : ∀ s, s < 2 → nxE (S.E s) = 17) (hY : ∀ s, s < 2 → S.Y s = []) {s : Nat} (hs : s < 2) : (S.E s).q = [] := by
  obtain ⟨a, b, e⟩ := one_sub hs
  have hd := h.d s hs
  have hx := h.g s hs
  have hy := h.g _ a
  have h1 := h0 s hs
  have h2 := h0 _ a
  obtain ⟨r, hr, hsy⟩ := hd.run
  rw [hY _ a] at hr
  have hr : rsOf (S.E (1 - s)) (S.T (1 - s)) = r := hr
  have hrc : (S.E (1 - s)).rc = (S.E s).s := by rw [← hsy.rc, ← hr]; rfl
  have hak := hd.ack
  rw [hY s hs] at hak
  have hak : (S.E s).a = (S.E (1 - s)).told := hak
  have hsame := hd.same
  cases hq : (S.E s).q with
  | nil => rfl
  | cons m t =>
    exfalso
    have hg : nxGo (S.E s) = false := by
      cases hg : nxGo (S.E s)
      · rfl
      · unfold nxE at h1
        rw [if_pos hx.v, hg] at h1
        simp only [if_true] at h1
        split at h1 <;> cases h1
    have hvs := vs_yes hx.ve.vs
    have hfr : fr (S.E s).n (S.E s).s (S.E s).a ≤ 0 := by
      unfold nxGo at hg
      rw [hq] at hg
      simpa using hg
    unfold fr at hfr
    rw [if_pos hx.ve.vs] at hfr
    have hrn := vl_range (vr_vl hy.ve.vr)
    unfold nxE at h2
    rw [if_pos hy.v] at h2
    split at h2
    · split at h2 <;> cases h2
    · rw [if_pos (by omega)] at h2
      cases h2
/-- Where nothing is on its way and nothing waits, all has come. -/
theorem all_come {c : Nat} {S : WrS} (h : WInv c S) (hY : ∀ s, s < 2 → S.Y s = []) (hq : ∀ s, s < 2 → (S.E s).q = []) {s : Nat} (hs : s < 2) : S.T s = (S.V (1 - s)).length ∧ idleE (S.E s) = true := by
  obtain ⟨a, b, e⟩ := one_sub hs
  have hd := h.d _ a
  rw [b] at hd
  obtain ⟨r, hr, hsy⟩ := hd.run
  rw [hY s hs] at hr
  have hr : rsOf (S.E s) (S.T s) = r := hr
  have hq1 := hq _ a
  have hql := hsy.q
  rw [hq1] at hql
  have hg := hsy.got
  have hgot : r.got = S.T s := by rw [← hr]; rfl
  have hl : ((S.V (1 - s)).drop r.got).length = 0 := by rw [← hql]; rfl
  rw [List.length_drop] at hl
  refine ⟨by omega, ?_⟩
  have hw : (S.E s).want = -1 := by
    have hwr : r.want = (S.E s).want := by rw [← hr]; rfl
    rcases hsy.st with ⟨_, h2, _⟩ | ⟨_, _, h3, _⟩
    · omega
    · rw [hq1] at h3; simp at h3
  unfold idleE
  rw [(h.g s hs).v, hq s hs, hw]
  rfl
/-- A new wire. -/
def newS (n : Int) : WrS := ⟨fun _ => newL n, fun _ => [], fun _ => [], fun _ => 0⟩
theorem newS_inv {n : Int} (hv : vl n = true) : WInv 0 (newS n) := by
  have hr := vl_range hv
  have h1 : vs n 0 0 = true := vs_mk ⟨hv, hr.1, hr.2, by omega, by omega, by omega⟩
  have h2 : vr n 0 = true := by simp [vr, hv]
  have hg : Gd (newL n) := ⟨vE_mk ⟨h1, Nat.zero_le _, fun m hm => (by cases hm), .inl rfl, h2, Int.le_refl _, rfl, rfl⟩, Int.le_refl _, Int.le_refl _⟩
  exact ⟨fun _ _ => hg, fun _ _ => ⟨rfl, ⟨⟨0, -1, [], 0⟩, rfl, ⟨rfl, Nat.le_refl _, rfl, .inl ⟨rfl, rfl, rfl⟩⟩⟩, rfl⟩, fun _ _ => Int.le_refl _, fun _ _ => Nat.le_refl _, fun _ _ => Nat.le_refl _, Nat.le_refl _⟩
end
section
open Go.RowKit Go.Deep Go.ChangeShapes Go.WideShapes
/-- A slice of structs of three integers that came in. -/
def IsTr (w : World) (A : Option Addr) (n : Nat) : Prop := ∀ i, i < n → ∃ b o x y z, A = some ⟨b, o, none⟩ ∧ w.cell? ⟨b, o + i * 3, none⟩ = some (.int .i64 x) ∧ w.cell? ⟨b, o + i * 3 + 1, none⟩ = some (.int .i64 y) ∧ w.cell? ⟨b, o + i * 3 + 2, none⟩ = some (.int .i64 z)
theorem IsTr.part {col : Nat → Nat} {w : World} {A : Option Addr} {n : Nat} (h : IsTr w A n) (hc : ∀ x, x < w.heap.size → col x = 0) : Part col 0 w (fun w => IsTr w A n) := fun w' hs hk i hi => by
  obtain ⟨b, o, x, y, z, e, h0, h1, h2⟩ := h i hi
  have hb := World.block_lt_of_cell? w ⟨b, o + i * 3, none⟩ h0
  have hs := hk b hb (hc b hb)
  exact ⟨b, o, x, y, z, e, (World.cell?_of_block (a := ⟨b, o + i * 3, none⟩) hs).trans h0, (World.cell?_of_block (a := ⟨b, o + i * 3 + 1, none⟩) hs).trans h1, (World.cell?_of_block (a := ⟨b, o + i * 3 + 2, none⟩) hs).trans h2⟩
section
variable {H : Type} {enc : TypeId × Value → H} {W : World} {base : Nat} {spare : Nat → Bool} {held : Bool}
set_option maxRecDepth 100000 in
theorem open_trips {t e : TypeId} {f0 f1 f2 : Field} {fuel : Nat} {A : Option Addr} {len cap : Nat} {x : DataW H × List MemPlace} (ht : Try.prog.underlying t = some (.slice e)) (he : Try.prog.underlying e = some (.struct #[f0, f1, f2]))
    (ce : Try.prog.cellsOf e = 3) (o0 : f0.offset = 0) (o1 : f1.offset = 1) (o2 : f2.offset = 2) (t0 : f0.type = 3) (t1 : f1.type = 3) (t2 : f2.type = 3)
    (h : DataW.trod enc Try.prog W base spare held fuel t [.slice A len cap] = some x) : IsTr W A len := by
  rcases open_slice ht h with ⟨hcs, _⟩ | ⟨a, len', cap', m, n, D, Pl, hcs, hb, hl, hm, hmm, hx, hall⟩
  · simp only [List.cons.injEq, and_true] at hcs
    injection hcs with e1 e2 e3
    intro i hi
    omega
  · simp only [List.cons.injEq, and_true] at hcs
    injection hcs with e1 e2 e3
    subst e1 e2 e3
    intro i hi
    have hlm : i < m := by rw [hmm]; split <;> omega
    obtain ⟨cs', h1, h2⟩ := hall i hlm
    rw [ce] at h1
    obtain ⟨_, hlen, hcell⟩ := World.cells?_some h1
    obtain ⟨xs, k, hk, hxy, _, hxl, hf⟩ := DataW.trod_struct he h2
    match xs, hxl, cs', hlen with
    | [y0, y1, y2], _, [v0, v1, v2], _ =>
      have g0 := hf 0 f0 rfl
      have g1 := hf 1 f1 rfl
      have g2 := hf 2 f2 rfl
      simp [o0, o1, o2, t0, t1, t2, cells3L] at g0 g1 g2
      obtain ⟨z0, q0, _, _⟩ := DataW.trod_int Try.underlying3 g0
      obtain ⟨z1, q1, _, _⟩ := DataW.trod_int Try.underlying3 g1
      obtain ⟨z2, q2, _, _⟩ := DataW.trod_int Try.underlying3 g2
      simp only [List.cons.injEq, and_true] at q0 q1 q2
      subst q0 q1 q2
      have c0 := hcell 0 (by omega)
      have c1 := hcell 1 (by omega)
      have c2 := hcell 2 (by omega)
      obtain ⟨_, h10, _⟩ := hall 0 (by omega)
      rw [ce] at h10
      obtain ⟨_, _, hcell0⟩ := World.cells?_some h10
      obtain ⟨b, o, spot⟩ := a
      have hspot : spot = none := by
        have h11 := hcell0 0 (by omega)
        rw [List.getElem?_eq_getElem (by omega)] at h11
        simpa [Addr.add] using World.cell?_spot h11
      subst hspot
      rw [Addr.add_mid, Addr.add_mid] at c0 c1 c2
      exact ⟨b, o, z0, z1, z2, rfl, by simpa using c0, by simpa using c1, by simpa using c2⟩
end
theorem and1 (x : Int) : bits .and .i64 x 1 = 0 ∨ bits .and .i64 x 1 = 1 := by
  show IntKind.i64.wrap ((BitVec.ofInt 64 x &&& BitVec.ofInt 64 1).toNat : Int) = 0 ∨ IntKind.i64.wrap ((BitVec.ofInt 64 x &&& BitVec.ofInt 64 1).toNat : Int) = 1
  have h : (BitVec.ofInt 64 x &&& BitVec.ofInt 64 1).toNat ≤ 1 := by
    rw [BitVec.toNat_and]
    exact Nat.and_le_right
  rw [IntKind.wrap_i64]
  omega
/-- Where a new wire's slices lie. -/
def newP : WrP := ⟨fun _ => none, fun _ => none, fun _ => 0, fun _ => 0, fun _ => none, fun _ => none, fun _ => none, fun _ => 0, fun _ => 0, fun _ => 0⟩
theorem newM {base g : Nat} {w : World} {n : Int} (hr : Row w g 94 (WCell (newS n) newP).toArray) (hb : base ≤ g) : WM base g (paint (fun _ => 0) g 1) w (newS n) newP := by
  have hc : paint (fun _ => 0) g 1 g = 1 := paint_self _ _ _
  have hn : ∀ b k, blk none = some b → paint (fun _ => 0) g 1 b = k := fun b k h => by cases h
  refine ⟨Part.row hr hc, hc, fun x hx => paint_other (by omega), fun x hx => paint_other (by have := hr.lt; omega), fun s hs w' _ _ => held_new n w', fun s hs => ⟨Part.own (OwnQ.nil _ _ _) (fun b h => hn b _ h), fun b h => hn b _ h⟩, fun s hs l hl => (by cases hl),
    fun s hs => ⟨[], ⟨Part.own (OwnQ.nil _ _ _) (fun b h => hn b _ h), fun b h => hn b _ h⟩, rfl, fun i hi => absurd hi (Nat.not_lt_zero _)⟩, fun s hs => ⟨[], ⟨Part.own (OwnQ.nil _ _ _) (fun b h => hn b _ h), fun b h => hn b _ h⟩⟩⟩
/-- What open leaves behind. -/
def OpnP (base : Nat) (t : Int) (W : World) (en : Ending) (W' : World) : Prop := ∃ g n col p, wrap64 (2 * 2 ^ (t % 6).toNat) = n ∧ vl n = true ∧ en = .returned (.tuple #[.pointer (some ⟨g, 0, none⟩), .bool true]) ∧ WM base g col W' (newS n) p ∧ (∀ x, x ≠ g → col x = 0) ∧ Below W.heap.size W W'
set_option maxRecDepth 100000 in
set_option maxHeartbeats 8000000 in
theorem wire_open (base : Nat) (t : Int) (W : World) (hb0 : base ≤ W.heap.size) : Calls Try.prog 57 #[.int .i64 t] W (OpnP base t W) := by
  have p0 : 0 ≤ t % 6 := Int.emod_nonneg _ (by omega)
  have p1 : t % 6 ≤ 5 := by have := Int.emod_lt_of_pos t (show (0 : Int) < 6 by omega); omega
  go_enter Try.func57, Try.ntmps57
  go_wp2_with fail
  refine (place _ _ (by omega) (by omega) _).mono ?_
  rintro e w' ⟨rfl, rfl⟩
  have HT : Hid (∀ n, wrap64 (2 * 2 ^ (t % 6).toNat) = n → wrap64 (2 * 2 ^ (t % 6).toNat) = n) := Lib.hid (fun _ h => h)
  obtain ⟨n, hn, hvl, n0, n1⟩ := lines_of (t % 6) p0 p1
  have HN := Lib.hid hn
  have HV := Lib.hid hvl
  go_upto_region 2 with (fail)
  rw [hn]
  clear hn hvl HT
  go_upto_region 3 with (first | (go_at_call 41; refine (new_is HV.out _).mono ?_; rintro en w1 ⟨rfl, hb⟩) | ((with_reducible refine wp_row_store (L := LEV (newL n) none 0 none 0) (Row.bornAt (g := w1.heap.size) rfl 69 _) ?_ (lev_info _ _ _ _ _) (lev_one _ _ _ _ _) ?_ ?_ ?_); rfl; rfl; rfl; intro wa ua ra))
  have hBW := Upd.below (hb.trans (((Below.refl w1.heap.size w1).alloc (Nat.le_refl _) (.cells ZE 69)).mono hb.size)) ua hb.size
  clear hb ua
  generalize w1.heap.size = g5 at *
  go_upto_region 4 with (first | (go_at_call 41; refine (new_is HV.out _).mono ?_; rintro en w1 ⟨rfl, hb⟩) | ((with_reducible refine wp_row_store (L := LEV (newL n) none 0 none 0) (Row.bornAt (g := w1.heap.size) rfl 69 _) ?_ (lev_info _ _ _ _ _) (lev_one _ _ _ _ _) ?_ ?_ ?_); rfl; rfl; rfl; intro wb ub rb))
  have hal := Upd.below (hb.trans (((Below.refl w1.heap.size w1).alloc (Nat.le_refl _) (.cells ZE 69)).mono hb.size)) ub hb.size
  have hBW2 := hBW.trans (hal.mono hBW.size)
  have ra := (show Row wa g5 69 (LEV (newL n) none 0 none 0) from ra).below hal ra.lt
  clear hb ub hal hBW
  generalize w1.heap.size = g7 at *
  have rb : Row wb g7 69 (LEV (newL n) none 0 none 0) := rb
  obtain ⟨⟨a0, a1, a2, a3, a4⟩, ⟨a5, a6, a7, a8, a9⟩, -⟩ := end_cells ra
  obtain ⟨⟨b0, b1, b2, b3, b4⟩, ⟨b5, b6, b7, b8, b9⟩, -⟩ := end_cells rb
  go_wp2
  have hg : base ≤ wb.heap.size := Nat.le_trans hb0 hBW2.size
  have hr : Row (wb.alloc (.cells (WCell (newS n) newP).toArray 94)) wb.heap.size 94 (WCell (newS n) newP).toArray := Row.born _ _ _
  have hB := hBW2.trans (((Below.refl wb.heap.size wb).alloc (Nat.le_refl _) (.cells (WCell (newS n) newP).toArray 94)).mono hBW2.size)
  refine bodyPost_ret (v := .tuple #[.pointer (some ⟨wb.heap.size, 0, none⟩), .bool true]) (by simp [results, Try.results57, go_sem]) rfl ?_
  exact ⟨wb.heap.size, n, _, newP, HN.out, HV.out, rfl, newM hr hg, fun x hx => paint_other hx, hB⟩
/-- What a script of steps leaves behind. -/
def RunP (base g : Nat) (col : Nat → Nat) (c : Nat) (w : World) (en : Ending) (W' : World) : Prop := en = .returned (.bool true) ∧ ∃ S' col' p', WInv c S' ∧ WM base g col' W' S' p' ∧ White col w W' ∧ ∀ x, x < w.heap.size → col x = 0 → col' x = 0
theorem Part.ofWhite {col col' : Nat → Nat} {w w' : World} {P : World → Prop} (h : Part col 0 w P) (hw : White col w w') (hc : ∀ x, x < w.heap.size → col x = 0 → col' x = 0) : Part col' 0 w' P := fun w2 hs hk => h w2 (Nat.le_trans hw.size hs) fun x hx h0 => (hk x (Nat.lt_of_lt_of_le hx hw.size) (hc x hx h0)).trans (hw.block x hx h0)
theorem White.step {col col1 : Nat → Nat} {w wr w' : World} (h : White col w wr) (hc : ∀ x, x < w.heap.size → col x = 0 → col1 x = 0) (h2 : White col1 wr w') : White col w w' :=
  ⟨h2.os.trans h.os, h2.tape.trans h.tape, h2.output.trans h.output, Nat.le_trans h.size h2.size, fun x hx h0 => (h2.block x (Nat.lt_of_lt_of_le hx h.size) (hc x hx h0)).trans (h.block x hx h0)⟩
theorem full_or {e : LE} (h : Gd e) : e.q.length = 64 ∨ e.q.length < 64 := by have := h.ve.ql; omega
theorem fill_cnt {n k : Nat} (h : n ≤ 399) : 4 * cntF (fillB n k).length (-1) ≤ 32 * 1 := by
  rw [fillB_len]
  unfold cntF
  rw [if_pos (by omega)]
  omega
theorem step_enq0 {base g : Nat} {col : Nat → Nat} {w : World} {S : WrS} {p : WrP} {c size : Nat} (hM : WM base g col w S p) (hI : WInv c S) (hc : c ≤ 100000) (hs : size ≤ 399) : Calls Try.prog 61 #[.pointer (some ⟨g, 0, none⟩), .int .i64 0, .int .i64 (size : Int)] w (RunP base g col (c + 1) w) := by
  have hg := hI.g 0 (by omega)
  have hV := hI.bV 0 (by omega)
  rcases full_or hg with hq | hq
  · refine (enq_full0 base g col w S p hM hg size (by omega) (by omega) hq).mono ?_
    rintro en W' ⟨h1, col', p', h2, h3, h4⟩
    exact ⟨h1, S, col', p', hI.mono (by omega), h2, h3, h4⟩
  · refine (enq_yes0 base g col w S p hM hg size (by omega) (by omega) hq).mono ?_
    rintro en W' ⟨h1, col', p', h2, h3, h4⟩
    exact ⟨h1, _, col', p', hI.enq (s := 0) (by omega) hq (m := fillB size (S.V 0).length) (by rw [fillB_len]; omega) (fill_cnt hs) (by omega), h2, h3, h4⟩
theorem step_tr0 {base g : Nat} {col : Nat → Nat} {w : World} {S : WrS} {p : WrP} {c : Nat} (hM : WM base g col w S p) (hI : WInv c S) (hc : c ≤ 100000) : Calls Try.prog 59 #[.pointer (some ⟨g, 0, none⟩), .int .i64 0] w (fun en W' => RunP base g col (c + 1) w en W' ∧ WStep base g col w (if nxE (S.E 0) = 0 then trS S 0 else S) en W') := by
  have hg := hI.g 0 (by omega)
  have hY := hI.bY 1 (by omega)
  rcases nx_zero hg (by have := hI.bs 0 (by omega); omega) with h0 | h0
  · refine (tr_go0 base g col w S p hM hg h0 (by omega)).mono ?_
    rintro en W' ⟨h1, col', p', h2, h3, h4⟩
    rw [if_pos h0]
    exact ⟨⟨h1, _, col', p', hI.tr (s := 0) (by omega) h0, h2, h3, h4⟩, h1, col', p', h2, h3, h4⟩
  · refine (tr_no0 base g col w S p hM hg h0).mono ?_
    rintro en W' ⟨h1, col', p', h2, h3, h4⟩
    rw [if_neg (by omega)]
    exact ⟨⟨h1, S, col', p', hI.mono (by omega), h2, h3, h4⟩, h1, col', p', h2, h3, h4⟩
def deT0 (S : WrS) : WrS := match S.Y 0 with
  | [] => S
  | l :: ls => deS S 0 l ls
theorem step_de0 {base g : Nat} {col : Nat → Nat} {w : World} {S : WrS} {p : WrP} {c : Nat} (hM : WM base g col w S p) (hI : WInv c S) (hc : c ≤ 100000) : Calls Try.prog 60 #[.pointer (some ⟨g, 0, none⟩), .int .i64 0] w (fun en W' => RunP base g col (c + 1) w en W' ∧ WStep base g col w (deT0 S) en W') := by
  have hg := hI.g 0 (by omega)
  cases hY : S.Y 0 with
  | nil =>
    refine (de_nil0 base g col w S p hM hY).mono ?_
    rintro en W' ⟨h1, col', p', h2, h3, h4⟩
    have e : deT0 S = S := by unfold deT0; rw [hY]
    rw [e]
    exact ⟨⟨h1, S, col', p', hI.mono (by omega), h2, h3, h4⟩, h1, col', p', h2, h3, h4⟩
  | cons l ls =>
    have e : deT0 S = deS S 0 l ls := by unfold deT0; rw [hY]
    have tk := hI.takes (s := 0) (by omega) (by omega) hY
    have hT := hI.bT (s := 0) (by omega)
    have hV := hI.bV 1 (by omega)
    have hT : S.T 0 ≤ (S.V 1).length := hT
    have hYl := hI.bY 0 (by omega)
    have hd := hI.de (s := 0) (by omega) (by omega) hY
    rw [e]
    cases hC : dvC (S.E 0) l.k l.f l.n l.p
    · refine (de_inc0 base g col w S p hM hg hY tk hC (by omega) (by omega) (by omega)).mono ?_
      rintro en W' ⟨h1, col', p', h2, h3, h4⟩
      have e2 : deS S 0 l ls = { S with E := upd S.E 0 (dvG (S.E 0) l.k l.f l.n l.a l.p), Y := upd S.Y 0 ls } := by
        unfold deS tkN
        rw [hC]
        simp only [Bool.false_eq_true, if_false, upd_same]
      rw [e2] at hd ⊢
      exact ⟨⟨h1, _, col', p', hd.mono (by omega), h2, h3, h4⟩, h1, col', p', h2, h3, h4⟩
    · refine (de_com0 base g col w S p hM hg hY tk hC (by omega) (by omega) (by omega)).mono ?_
      rintro en W' ⟨h1, col', p', h2, h3, h4⟩
      have e2 : deS S 0 l ls = { S with E := upd S.E 0 (dvG (S.E 0) l.k l.f l.n l.a l.p), Y := upd S.Y 0 ls, T := upd S.T 0 (S.T 0 + 1) } := by
        unfold deS tkN
        rw [hC]
        simp only [if_true]
      rw [e2] at hd ⊢
      exact ⟨⟨h1, _, col', p', hd.mono (by omega), h2, h3, h4⟩, h1, col', p', h2, h3, h4⟩
theorem step_enq1 {base g : Nat} {col : Nat → Nat} {w : World} {S : WrS} {p : WrP} {c size : Nat} (hM : WM base g col w S p) (hI : WInv c S) (hc : c ≤ 100000) (hs : size ≤ 399) : Calls Try.prog 61 #[.pointer (some ⟨g, 0, none⟩), .int .i64 1, .int .i64 (size : Int)] w (RunP base g col (c + 1) w) := by
  have hg := hI.g 1 (by omega)
  have hV := hI.bV 1 (by omega)
  rcases full_or hg with hq | hq
  · refine (enq_full1 base g col w S p hM hg size (by omega) (by omega) hq).mono ?_
    rintro en W' ⟨h1, col', p', h2, h3, h4⟩
    exact ⟨h1, S, col', p', hI.mono (by omega), h2, h3, h4⟩
  · refine (enq_yes1 base g col w S p hM hg size (by omega) (by omega) hq).mono ?_
    rintro en W' ⟨h1, col', p', h2, h3, h4⟩
    exact ⟨h1, _, col', p', hI.enq (s := 1) (by omega) hq (m := fillB size (S.V 1).length) (by rw [fillB_len]; omega) (fill_cnt hs) (by omega), h2, h3, h4⟩
theorem step_tr1 {base g : Nat} {col : Nat → Nat} {w : World} {S : WrS} {p : WrP} {c : Nat} (hM : WM base g col w S p) (hI : WInv c S) (hc : c ≤ 100000) : Calls Try.prog 59 #[.pointer (some ⟨g, 0, none⟩), .int .i64 1] w (fun en W' => RunP base g col (c + 1) w en W' ∧ WStep base g col w (if nxE (S.E 1) = 0 then trS S 1 else S) en W') := by
  have hg := hI.g 1 (by omega)
  have hY := hI.bY 0 (by omega)
  rcases nx_zero hg (by have := hI.bs 1 (by omega); omega) with h0 | h0
  · refine (tr_go1 base g col w S p hM hg h0 (by omega)).mono ?_
    rintro en W' ⟨h1, col', p', h2, h3, h4⟩
    rw [if_pos h0]
    exact ⟨⟨h1, _, col', p', hI.tr (s := 1) (by omega) h0, h2, h3, h4⟩, h1, col', p', h2, h3, h4⟩
  · refine (tr_no1 base g col w S p hM hg h0).mono ?_
    rintro en W' ⟨h1, col', p', h2, h3, h4⟩
    rw [if_neg (by omega)]
    exact ⟨⟨h1, S, col', p', hI.mono (by omega), h2, h3, h4⟩, h1, col', p', h2, h3, h4⟩
def deT1 (S : WrS) : WrS := match S.Y 1 with
  | [] => S
  | l :: ls => deS S 1 l ls
theorem step_de1 {base g : Nat} {col : Nat → Nat} {w : World} {S : WrS} {p : WrP} {c : Nat} (hM : WM base g col w S p) (hI : WInv c S) (hc : c ≤ 100000) : Calls Try.prog 60 #[.pointer (some ⟨g, 0, none⟩), .int .i64 1] w (fun en W' => RunP base g col (c + 1) w en W' ∧ WStep base g col w (deT1 S) en W') := by
  have hg := hI.g 1 (by omega)
  cases hY : S.Y 1 with
  | nil =>
    refine (de_nil1 base g col w S p hM hY).mono ?_
    rintro en W' ⟨h1, col', p', h2, h3, h4⟩
    have e : deT1 S = S := by unfold deT1; rw [hY]
    rw [e]
    exact ⟨⟨h1, S, col', p', hI.mono (by omega), h2, h3, h4⟩, h1, col', p', h2, h3, h4⟩
  | cons l ls =>
    have e : deT1 S = deS S 1 l ls := by unfold deT1; rw [hY]
    have tk := hI.takes (s := 1) (by omega) (by omega) hY
    have hT := hI.bT (s := 1) (by omega)
    have hV := hI.bV 0 (by omega)
    have hT : S.T 1 ≤ (S.V 0).length := hT
    have hYl := hI.bY 1 (by omega)
    have hd := hI.de (s := 1) (by omega) (by omega) hY
    rw [e]
    cases hC : dvC (S.E 1) l.k l.f l.n l.p
    · refine (de_inc1 base g col w S p hM hg hY tk hC (by omega) (by omega) (by omega)).mono ?_
      rintro en W' ⟨h1, col', p', h2, h3, h4⟩
      have e2 : deS S 1 l ls = { S with E := upd S.E 1 (dvG (S.E 1) l.k l.f l.n l.a l.p), Y := upd S.Y 1 ls } := by
        unfold deS tkN
        rw [hC]
        simp only [Bool.false_eq_true, if_false, upd_same]
      rw [e2] at hd ⊢
      exact ⟨⟨h1, _, col', p', hd.mono (by omega), h2, h3, h4⟩, h1, col', p', h2, h3, h4⟩
    · refine (de_com1 base g col w S p hM hg hY tk hC (by omega) (by omega) (by omega)).mono ?_
      rintro en W' ⟨h1, col', p', h2, h3, h4⟩
      have e2 : deS S 1 l ls = { S with E := upd S.E 1 (dvG (S.E 1) l.k l.f l.n l.a l.p), Y := upd S.Y 1 ls, T := upd S.T 1 (S.T 1 + 1) } := by
        unfold deS tkN
        rw [hC]
        simp only [if_true]
      rw [e2] at hd ⊢
      exact ⟨⟨h1, _, col', p', hd.mono (by omega), h2, h3, h4⟩, h1, col', p', h2, h3, h4⟩
set_option maxRecDepth 100000 in
set_option maxHeartbeats 8000000 in
theorem run_any (base g : Nat) (col : Nat → Nat) (w : World) (S : WrS) (p : WrP) (hM : WM base g col w S p) (A : Option Addr) (n cc c : Nat) (hI : WInv c S) (hc : c ≤ 1000) (hT : Part col 0 w (fun w => IsTr w A n)) : Calls Try.prog 58 #[.pointer (some ⟨g, 0, none⟩), .slice A n cc] w (RunP base g col (c + 400) w) := by
  have hlg := hM.lt
  go_enter Try.func58, Try.ntmps58
  go_upto_region 2 with (fail)
  go_loopw [5] (fun i wr => ∃ j : Nat, ∃ S1 col1 p1, i = .int .i64 j ∧ j ≤ 400 ∧ j ≤ n ∧ WInv (c + j) S1 ∧ WM base g col1 wr S1 p1 ∧ Part col1 0 wr (fun w => IsTr w A n) ∧ White col w wr ∧ (∀ x, x < w.heap.size → col x = 0 → col1 x = 0)) (fun i _ => 400 - (intOf i).toNat)
  case atStart => exact ⟨0, S, col, p, rfl, by omega, by omega, hI, hM, hT, White.refl _ _, fun _ _ h => h⟩
  case round =>
    clear hI hM hT
    obtain ⟨j, S1, col1, p1, rfl, hj, hjn, hI, hM, hT, hW, hC⟩ := hrel
    by_cases hd : j < n ∧ j < 400
    · obtain ⟨hjl, hj4⟩ := hd
      have d1 : decide (j < n) = true := decide_eq_true hjl
      have d1i : decide ((j : Int) < (n : Int)) = true := decide_eq_true (by omega)
      have d2 : decide (j < 400) = true := decide_eq_true hj4
      have d2i : decide ((j : Int) < 400) = true := decide_eq_true (by omega)
      have hji : (j : Int) < n := by omega
      have hj0 : (0 : Int) ≤ (j : Int) := by omega
      obtain ⟨b, o, x, y, z, hA, q0, q1, q2⟩ := hT.now j hjl
      subst hA
      go_upto_region 5 with (fail)
      have hal := (Below.refl wr.heap.size wr).alloc (Nat.le_refl _) (.cells #[.int .i64 x, .int .i64 y, .int .i64 z] 166)
      have rs := Row.born wr 166 #[.int .i64 x, .int .i64 y, .int .i64 z]
      have hMs := hM.below hal
      have hws := White.below (col := col1) hal
      generalize wr.heap.size = gs at *
      generalize wr.alloc (.cells #[.int .i64 x, .int .i64 y, .int .i64 z] 166) = ws at *
      have s0 : ws.cell? ⟨gs, 0, none⟩ = some (.int .i64 x) := rs.cell 0
      have s1 : ws.cell? ⟨gs, 1, none⟩ = some (.int .i64 y) := rs.cell 1
      have s2 : ws.cell? ⟨gs, 2, none⟩ = some (.int .i64 z) := rs.cell 2
      obtain ⟨sz, hsz0⟩ : ∃ sz : Nat, z % 400 = sz := ⟨(z % 400).toNat, by have := Int.emod_nonneg z (show (400 : Int) ≠ 0 by omega); omega⟩
      have hsz : sz ≤ 399 := by have := Int.emod_lt_of_pos z (show (0 : Int) < 400 by omega); omega
      have hk3 : x % 3 = 0 ∨ x % 3 = 1 ∨ x % 3 = 2 := by have h1 := Int.emod_nonneg x (show (3 : Int) ≠ 0 by omega); have h2 := Int.emod_lt_of_pos x (show (0 : Int) < 3 by omega); omega
      have HK3 := Lib.hid hk3
      have HSZ := Lib.hid hsz0
      have hand := and1 y
      obtain ⟨sd, hsd⟩ : ∃ sd, bits .and .i64 y 1 = sd := ⟨_, rfl⟩
      have HSD := Lib.hid (show sd = 0 ∨ sd = 1 by rw [← hsd]; exact hand)
      clear hk3 hsz0 hand hal hM rs q0 q1 q2 d1 d1i d2 d2i
      go_upto_block 2 with (go_at_call 20; refine (place _ _ (by omega) (by omega) _).mono ?_; rintro en w' ⟨rfl, h9⟩; rw [← h9]; clear h9)
      clear hsd
      go_cut [8] from 9 to 64 (fun u wx => u = .bool true ∧ ∃ S2 col2 p2, WInv (c + (j + 1)) S2 ∧ WM base g col2 wx S2 p2 ∧ White col1 ws wx ∧ ∀ x, x < ws.heap.size → col1 x = 0 → col2 x = 0)
      case first =>
        rcases HSD.out with h' | h' <;> subst h'
        · rcases HK3.out with hk | hk | hk
          · have hsz0 := HSZ.out
            go_wp2_with (first | (go_at_call 20; refine (place _ _ (by omega) (by omega) _).mono ?_; rintro en w' ⟨rfl, h9⟩; rw [← h9]; clear h9) | (go_at_call 61; refine (step_enq0 hMs hI (by omega) hsz).mono ?_; rintro en w9 ⟨rfl, S9, col9, p9, hI9, hM9, hw9, hc9⟩))
            go_meet
            exact ⟨rfl, S9, col9, p9, hI9, hM9, hw9, hc9⟩
          · skip
            go_wp2_with (first | (go_at_call 20; refine (place _ _ (by omega) (by omega) _).mono ?_; rintro en w' ⟨rfl, h9⟩; rw [← h9]; clear h9) | (go_at_call 59; refine (step_tr0 hMs hI (by omega)).mono ?_; rintro en w9 ⟨⟨rfl, S9, col9, p9, hI9, hM9, hw9, hc9⟩, -⟩))
            go_meet
            exact ⟨rfl, S9, col9, p9, hI9, hM9, hw9, hc9⟩
          · skip
            go_wp2_with (first | (go_at_call 20; refine (place _ _ (by omega) (by omega) _).mono ?_; rintro en w' ⟨rfl, h9⟩; rw [← h9]; clear h9) | (go_at_call 60; refine (step_de0 hMs hI (by omega)).mono ?_; rintro en w9 ⟨⟨rfl, S9, col9, p9, hI9, hM9, hw9, hc9⟩, -⟩))
            go_meet
            exact ⟨rfl, S9, col9, p9, hI9, hM9, hw9, hc9⟩
        · rcases HK3.out with hk | hk | hk
          · have hsz0 := HSZ.out
            go_wp2_with (first | (go_at_call 20; refine (place _ _ (by omega) (by omega) _).mono ?_; rintro en w' ⟨rfl, h9⟩; rw [← h9]; clear h9) | (go_at_call 61; refine (step_enq1 hMs hI (by omega) hsz).mono ?_; rintro en w9 ⟨rfl, S9, col9, p9, hI9, hM9, hw9, hc9⟩))
            go_meet
            exact ⟨rfl, S9, col9, p9, hI9, hM9, hw9, hc9⟩
          · skip
            go_wp2_with (first | (go_at_call 20; refine (place _ _ (by omega) (by omega) _).mono ?_; rintro en w' ⟨rfl, h9⟩; rw [← h9]; clear h9) | (go_at_call 59; refine (step_tr1 hMs hI (by omega)).mono ?_; rintro en w9 ⟨⟨rfl, S9, col9, p9, hI9, hM9, hw9, hc9⟩, -⟩))
            go_meet
            exact ⟨rfl, S9, col9, p9, hI9, hM9, hw9, hc9⟩
          · skip
            go_wp2_with (first | (go_at_call 20; refine (place _ _ (by omega) (by omega) _).mono ?_; rintro en w' ⟨rfl, h9⟩; rw [← h9]; clear h9) | (go_at_call 60; refine (step_de1 hMs hI (by omega)).mono ?_; rintro en w9 ⟨⟨rfl, S9, col9, p9, hI9, hM9, hw9, hc9⟩, -⟩))
            go_meet
            exact ⟨rfl, S9, col9, p9, hI9, hM9, hw9, hc9⟩
      case rest =>
      clear hI hMs s0 s1 s2 HSD HK3 HSZ
      obtain ⟨rfl, S2, col2, p2, hI, hM, hw2, hc2⟩ := hcut
      have HV0 := Lib.hid (hI.g 0 (by omega)).v
      have HV1 := Lib.hid (hI.g 1 (by omega)).v
      have ty0 := (hI.g 0 (by omega)).ty
      have ty1 := (hI.g 1 (by omega)).ty
      obtain ⟨⟨y0, y1, v0, v1, t0, t1⟩, fz, e0, e1⟩ := hM.cells
      go_upto_region 3 with (first | ((with_reducible refine wp_load_g ?_ e0 Try.underlying69 rfl (lev_info _ _ _ _ _) ?_ ?_); rfl; rfl) | ((with_reducible refine wp_load_g ?_ e1 Try.underlying69 rfl (lev_info _ _ _ _ _) ?_ ?_); rfl; rfl) | (go_at_call 106; (with_reducible refine (end_ref _ _ _ _ _ _ ty0 (hM.held 0 (by omega)).now).mono ?_); rintro en w8 ⟨rfl, hb8⟩; rw [HV0.out]; have hM8 := hM.below hb8; clear y0 y1 v0 v1 t0 t1 fz e0 e1; obtain ⟨⟨y0, y1, v0, v1, t0, t1⟩, fz, e0, e1⟩ := hM8.cells) | (go_at_call 106; (with_reducible refine (end_ref _ _ _ _ _ _ ty1 (hM8.held 1 (by omega)).now).mono ?_); rintro en w9 ⟨rfl, hb9⟩; rw [HV1.out]))
      have hw3 := (hws.trans hw2).trans ((White.below (col := col1) hb8).trans (White.below hb9))
      have hM9 := hM8.below hb9
      have hT9 := hT.ofWhite hw3 (fun x hx h0 => hc2 x (Nat.lt_of_lt_of_le hx hws.size) h0)
      have hC9 := fun x (hx : x < w.heap.size) (h0 : col x = 0) => hc2 x (Nat.lt_of_lt_of_le hx (Nat.le_trans hW.size hws.size)) (hC x hx h0)
      have hW9 := hW.step hC hw3
      clear hT hw2 hws hM hM8 hb8 hb9 hw3 y0 y1 v0 v1 t0 t1 fz e0 e1
      go_wp2
      exact ⟨⟨j + 1, S2, col2, p2, by go_num, by omega, by omega, hI, hM9, hT9, hW9, hC9⟩, by simp [intOf]; omega⟩
    · rcases Nat.lt_or_ge j n with hjl | hjl
      · obtain rfl : j = 400 := by omega
        have d1 : decide (400 < n) = true := decide_eq_true hjl
        have d1i : decide ((400 : Int) < (n : Int)) = true := decide_eq_true (by omega)
        have d1j : decide (((400 : Nat) : Int) < (n : Int)) = true := decide_eq_true (by omega)
        go_wp2
        go_ret
        exact ⟨rfl, S1, col1, p1, hI, hM, hW, hC⟩
      · obtain rfl : j = n := by omega
        have d1 : decide (j < j) = false := decide_eq_false (by omega)
        have d1i : decide ((j : Int) < (j : Int)) = false := decide_eq_false (by omega)
        go_wp2
        go_ret
        exact ⟨rfl, S1, col1, p1, hI.mono (by omega), hM, hW, hC⟩
end
end Go.Proofs.Ythjkhambmgepdaa
