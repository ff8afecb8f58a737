/- Links: complete, valid, Pending, Idle. -/
import Derived.Test.YthjkhambmgepdaaLa
namespace Go.Proofs.Ythjkhambmgepdaa
open Go.RowKit
set_option linter.unusedVariables false
def CompP (e : LE) (W : World) (en : Ending) (W' : World) : Prop := en = .returned (.bool (compB e)) ∧ Below W.heap.size W W'
theorem comp_mk {e : LE} {b : Bool} {W W' : World} (h : compB e = b) (hb : Below W.heap.size W W') : CompP e W (.returned (.bool b)) W' := ⟨by rw [h], hb⟩
set_option maxRecDepth 100000 in
set_option maxHeartbeats 4000000 in
theorem comp_vl (g : Nat) (e : LE) (A B : Option Addr) (c d : Nat) (W : World) (ht : e.ty) (hr : Row W g 155 (LBV e A c B d)) (hv : vl e.rn = false) : Calls Try.prog 137 #[.pointer (some ⟨g, 5, none⟩)] W (CompP e W) := by
  have HC := Lib.hid (show compB e = false by simp [compB, vr, hv])
  have e1 : nsE e.rn = 6 := by simp [nsE, hv]
  have hlt := hr.lt
  go_enter Try.func137, Try.ntmps137
  obtain ⟨-, ⟨c5, c6, c7, c8, c9⟩, fz⟩ := both_cells hr
  go_upto_region 2 with (go_at_call 28; refine (receiver_any _ _).mono ?_; rintro e1 w1 ⟨rfl, hb⟩)
  clear c5 c6 c7 c8 c9 fz
  have r3 := Row.born w1 35 #[.int .i64 (nsN e.rn), .int .u64 0]
  have hBa := hb.trans (((Below.refl w1.heap.size w1).alloc (Nat.le_refl _) (.cells #[.int .i64 (nsN e.rn), .int .u64 0] 35)).mono hb.size)
  generalize w1.alloc (.cells #[.int .i64 (nsN e.rn), .int .u64 0] 35) = w2 at *
  have r3 : Row w2.drew w1.heap.size 35 #[.int .i64 (nsN e.rn), .int .u64 0] := r3
  have hr2 := hr.below hBa hlt
  have hr2 : Row w2.drew g 155 (LBV e A c B d) := hr2
  have hBa : Below W.heap.size W w2.drew := hBa.drew
  obtain ⟨-, ⟨c5, c6, c7, c8, c9⟩, fz⟩ := both_cells hr2
  obtain ⟨⟨d0, d1⟩, fd⟩ := two_cells r3
  refine wp_region_told (n := 74) (fun w' => w' = w2.drew) (fun _ _ => True) (by kernel_rfl) (by kernel_rfl) (by rfl) rfl ?_
  repeat (first | (refine walk_pure (v := ?_) (fun _ => trivial) (fun _ => rfl) ?_ ?_; rotate_left; (focus (intro us w9 hS9 hF; subst hS9; go_simp; (try with_reducible rfl); done)); simp only [Act.put, List.setIfInBounds_toArray, List.set_cons_zero, List.set_cons_succ, Nat.reduceAdd]) | (refine walk_skip (fun _ => trivial) (fun _ => rfl) ?_; simp only [Act.put, List.setIfInBounds_toArray, List.set_cons_zero, List.set_cons_succ, Nat.reduceAdd]))
  refine walk_done fun us w9 hS9 hF => ?_; subst hS9; clear hF
  go_wp2
  go_ret
  exact comp_mk HC.out hBa
set_option maxRecDepth 100000 in
set_option maxHeartbeats 4000000 in
theorem comp_rc (g : Nat) (e : LE) (A B : Option Addr) (c d : Nat) (W : World) (ht : e.ty) (hr : Row W g 155 (LBV e A c B d)) (hv : vl e.rn = true) (h : 4611686018427387904 < e.rc) : Calls Try.prog 137 #[.pointer (some ⟨g, 5, none⟩)] W (CompP e W) := by
  have HC := Lib.hid (show compB e = false by unfold compB vr; rw [decide_eq_false (by omega : ¬ e.rc ≤ 4611686018427387904)]; simp)
  have e1 : nsE e.rn = 0 := by simp [nsE, hv]
  have d1 : decide (4611686018427387904 < e.rc) = true := by simpa using h
  clear hv
  have hlt := hr.lt
  go_enter Try.func137, Try.ntmps137
  obtain ⟨-, ⟨c5, c6, c7, c8, c9⟩, fz⟩ := both_cells hr
  go_upto_region 2 with (go_at_call 28; refine (receiver_any _ _).mono ?_; rintro e1 w1 ⟨rfl, hb⟩)
  clear c5 c6 c7 c8 c9 fz
  have r3 := Row.born w1 35 #[.int .i64 (nsN e.rn), .int .u64 0]
  have hBa := hb.trans (((Below.refl w1.heap.size w1).alloc (Nat.le_refl _) (.cells #[.int .i64 (nsN e.rn), .int .u64 0] 35)).mono hb.size)
  generalize w1.alloc (.cells #[.int .i64 (nsN e.rn), .int .u64 0] 35) = w2 at *
  have r3 : Row w2.drew w1.heap.size 35 #[.int .i64 (nsN e.rn), .int .u64 0] := r3
  have hr2 := hr.below hBa hlt
  have hr2 : Row w2.drew g 155 (LBV e A c B d) := hr2
  have hBa : Below W.heap.size W w2.drew := hBa.drew
  obtain ⟨-, ⟨c5, c6, c7, c8, c9⟩, fz⟩ := both_cells hr2
  obtain ⟨⟨d0, d1⟩, fd⟩ := two_cells r3
  refine wp_region_told (n := 74) (fun w' => w' = w2.drew) (fun _ _ => True) (by kernel_rfl) (by kernel_rfl) (by rfl) rfl ?_
  repeat (first | (refine walk_pure (v := ?_) (fun _ => trivial) (fun _ => rfl) ?_ ?_; rotate_left; (focus (intro us w9 hS9 hF; subst hS9; go_simp; (try with_reducible rfl); done)); simp only [Act.put, List.setIfInBounds_toArray, List.set_cons_zero, List.set_cons_succ, Nat.reduceAdd]) | (refine walk_skip (fun _ => trivial) (fun _ => rfl) ?_; simp only [Act.put, List.setIfInBounds_toArray, List.set_cons_zero, List.set_cons_succ, Nat.reduceAdd]))
  refine walk_done fun us w9 hS9 hF => ?_; subst hS9; clear hF
  go_wp2
  go_ret
  exact comp_mk HC.out hBa
set_option maxRecDepth 100000 in
set_option maxHeartbeats 4000000 in
theorem comp_told (g : Nat) (e : LE) (A B : Option Addr) (c d : Nat) (W : World) (ht : e.ty) (hr : Row W g 155 (LBV e A c B d)) (hv : vl e.rn = true) (h : e.rc ≤ 4611686018427387904) (h2 : e.rc < e.told) : Calls Try.prog 137 #[.pointer (some ⟨g, 5, none⟩)] W (CompP e W) := by
  have HC := Lib.hid (show compB e = false by unfold compB; rw [decide_eq_false (by omega : ¬ e.told ≤ e.rc)]; simp)
  have e1 : nsE e.rn = 0 := by simp [nsE, hv]
  have d1 : decide (4611686018427387904 < e.rc) = false := by simpa using h
  have d2 : decide (e.rc < e.told) = true := by simpa using h2
  clear hv
  have hlt := hr.lt
  go_enter Try.func137, Try.ntmps137
  obtain ⟨-, ⟨c5, c6, c7, c8, c9⟩, fz⟩ := both_cells hr
  go_upto_region 2 with (go_at_call 28; refine (receiver_any _ _).mono ?_; rintro e1 w1 ⟨rfl, hb⟩)
  clear c5 c6 c7 c8 c9 fz
  have r3 := Row.born w1 35 #[.int .i64 (nsN e.rn), .int .u64 0]
  have hBa := hb.trans (((Below.refl w1.heap.size w1).alloc (Nat.le_refl _) (.cells #[.int .i64 (nsN e.rn), .int .u64 0] 35)).mono hb.size)
  generalize w1.alloc (.cells #[.int .i64 (nsN e.rn), .int .u64 0] 35) = w2 at *
  have r3 : Row w2.drew w1.heap.size 35 #[.int .i64 (nsN e.rn), .int .u64 0] := r3
  have hr2 := hr.below hBa hlt
  have hr2 : Row w2.drew g 155 (LBV e A c B d) := hr2
  have hBa : Below W.heap.size W w2.drew := hBa.drew
  obtain ⟨-, ⟨c5, c6, c7, c8, c9⟩, fz⟩ := both_cells hr2
  obtain ⟨⟨d0, d1⟩, fd⟩ := two_cells r3
  refine wp_region_told (n := 74) (fun w' => w' = w2.drew) (fun _ _ => True) (by kernel_rfl) (by kernel_rfl) (by rfl) rfl ?_
  repeat (first | (refine walk_pure (v := ?_) (fun _ => trivial) (fun _ => rfl) ?_ ?_; rotate_left; (focus (intro us w9 hS9 hF; subst hS9; go_simp; (try with_reducible rfl); done)); simp only [Act.put, List.setIfInBounds_toArray, List.set_cons_zero, List.set_cons_succ, Nat.reduceAdd]) | (refine walk_skip (fun _ => trivial) (fun _ => rfl) ?_; simp only [Act.put, List.setIfInBounds_toArray, List.set_cons_zero, List.set_cons_succ, Nat.reduceAdd]))
  refine walk_done fun us w9 hS9 hF => ?_; subst hS9; clear hF
  go_wp2
  go_ret
  exact comp_mk HC.out hBa
set_option maxRecDepth 100000 in
set_option maxHeartbeats 4000000 in
theorem comp_ok (g : Nat) (e : LE) (A B : Option Addr) (c d : Nat) (W : World) (ht : e.ty) (hr : Row W g 155 (LBV e A c B d)) (hv : vl e.rn = true) (h : e.rc ≤ 4611686018427387904) (h2 : e.told ≤ e.rc) : Calls Try.prog 137 #[.pointer (some ⟨g, 5, none⟩)] W (CompP e W) := by
  have e1 : nsE e.rn = 0 := by simp [nsE, hv]
  have e2 : nsN e.rn = e.rn := by simp [nsN, hv]
  have d1 : decide (4611686018427387904 < e.rc) = false := by simpa using h
  have d2 : decide (e.rc < e.told) = false := by simpa using h2
  have HC := Lib.hid (show compB e = partOk e.want e.pt by unfold compB vr; rw [hv, decide_eq_true h, decide_eq_true h2]; simp)
  have E2 := Lib.hid e2
  clear hv e2
  have hlt := hr.lt
  go_enter Try.func137, Try.ntmps137
  obtain ⟨-, ⟨c5, c6, c7, c8, c9⟩, fz⟩ := both_cells hr
  go_upto_region 2 with (go_at_call 28; refine (receiver_any _ _).mono ?_; rintro e1 w1 ⟨rfl, hb⟩)
  clear c5 c6 c7 c8 c9 fz
  have r3 := Row.born w1 35 #[.int .i64 (nsN e.rn), .int .u64 0]
  have hBa := hb.trans (((Below.refl w1.heap.size w1).alloc (Nat.le_refl _) (.cells #[.int .i64 (nsN e.rn), .int .u64 0] 35)).mono hb.size)
  generalize w1.alloc (.cells #[.int .i64 (nsN e.rn), .int .u64 0] 35) = w2 at *
  have r3 : Row w2.drew w1.heap.size 35 #[.int .i64 (nsN e.rn), .int .u64 0] := r3
  have hr2 := hr.below hBa hlt
  have hr2 : Row w2.drew g 155 (LBV e A c B d) := hr2
  have hBa : Below W.heap.size W w2.drew := hBa.drew
  obtain ⟨-, ⟨c5, c6, c7, c8, c9⟩, fz⟩ := both_cells hr2
  rw [E2.out] at r3
  obtain ⟨⟨d0, d1⟩, fd⟩ := two_cells r3
  refine wp_region_told (n := 74) (fun w' => w' = w2.drew) (fun _ _ => True) (by kernel_rfl) (by kernel_rfl) (by rfl) rfl ?_
  repeat (first | (refine walk_pure (v := ?_) (fun _ => trivial) (fun _ => rfl) ?_ ?_; rotate_left; (focus (intro us w9 hS9 hF; subst hS9; go_simp; (try with_reducible rfl); done)); simp only [Act.put, List.setIfInBounds_toArray, List.set_cons_zero, List.set_cons_succ, Nat.reduceAdd]) | (refine walk_skip (fun _ => trivial) (fun _ => rfl) ?_; simp only [Act.put, List.setIfInBounds_toArray, List.set_cons_zero, List.set_cons_succ, Nat.reduceAdd]))
  refine walk_done fun us w9 hS9 hF => ?_; subst hS9; clear hF
  by_cases hw : e.want = -1
  · have hw1 : (e.want == -1) = true := by simpa using hw
    have HP := Lib.hid (show compB e = (e.pt.length == 0) by rw [HC.out]; unfold partOk; rw [if_pos hw])
    clear hw
    cases hl : e.pt.length == 0
    · have hl1 : ((e.pt.length : Int) == 0) = false := by rw [beq_eq_false_iff_ne] at hl ⊢; omega
      have HQ := Lib.hid (HP.out.trans hl)
      clear hl
      go_wp2
      go_ret
      exact comp_mk HQ.out hBa
    · have hl1 : ((e.pt.length : Int) == 0) = true := by rw [beq_iff_eq] at hl ⊢; omega
      have HQ := Lib.hid (HP.out.trans hl)
      clear hl
      go_wp2
      go_ret
      exact comp_mk HQ.out hBa
  · have hw1 : (e.want == -1) = false := by simpa using hw
    have HP := Lib.hid (show compB e = (decide (e.want ≤ 1048576) && cutB e.pt.length e.want) by rw [HC.out]; unfold partOk; rw [if_neg hw])
    clear hw
    go_upto_region 6 with (fail)
    have c7 : w2.drew.drew.cell? ⟨g, 7, none⟩ = some (.int .i64 e.want) := c7
    have c8 : w2.drew.drew.cell? ⟨g, 8, none⟩ = some (.slice B e.pt.length d) := c8
    have hBa : Below W.heap.size W w2.drew.drew := hBa.drew
    have hpl : (e.pt.length : Int) < 9223372036854775808 := by have := ht.pl; omega
    by_cases hm : e.want ≤ 1048576
    · have hm1 : decide (e.want ≤ 1048576) = true := decide_eq_true hm
      have HQ := Lib.hid (show compB e = cutB e.pt.length e.want by rw [HP.out, hm1]; rfl)
      refine wp_region_told (n := 74) (fun w' => w' = w2.drew.drew) (fun _ _ => True) (by kernel_rfl) (by kernel_rfl) (by rfl) rfl ?_
      repeat (first | (refine walk_pure (v := ?_) (fun _ => trivial) (fun _ => rfl) ?_ ?_; rotate_left; (focus (intro us w9 hS9 hF; subst hS9; go_simp; (try with_reducible rfl); done)); simp only [Act.put, List.setIfInBounds_toArray, List.set_cons_zero, List.set_cons_succ, Nat.reduceAdd]) | (refine walk_skip (fun _ => trivial) (fun _ => rfl) ?_; simp only [Act.put, List.setIfInBounds_toArray, List.set_cons_zero, List.set_cons_succ, Nat.reduceAdd]))
      refine walk_fix (v := .bool (cutB e.pt.length e.want)) ?_ ?_; (focus (intro us w9 hS9 hF K hK; subst hS9; go_simp; refine (is_cut _ _ hpl _).mono ?_; rintro e' w' ⟨rfl, rfl⟩; exact hK _ rfl trivial)); simp only [Act.put, List.setIfInBounds_toArray, List.set_cons_zero, List.set_cons_succ, Nat.reduceAdd]
      repeat (first | (refine walk_pure (v := ?_) (fun _ => trivial) (fun _ => rfl) ?_ ?_; rotate_left; (focus (intro us w9 hS9 hF; subst hS9; go_simp; (try with_reducible rfl); done)); simp only [Act.put, List.setIfInBounds_toArray, List.set_cons_zero, List.set_cons_succ, Nat.reduceAdd]) | (refine walk_skip (fun _ => trivial) (fun _ => rfl) ?_; simp only [Act.put, List.setIfInBounds_toArray, List.set_cons_zero, List.set_cons_succ, Nat.reduceAdd]))
      refine walk_done fun us w9 hS9 hF => ?_; subst hS9; clear hF
      go_wp2
      go_ret
      exact comp_mk HQ.out hBa
    · have hm1 : decide (e.want ≤ 1048576) = false := decide_eq_false hm
      have HQ := Lib.hid (show compB e = false by rw [HP.out, hm1]; rfl)
      refine wp_region_told (n := 74) (fun w' => w' = w2.drew.drew) (fun _ _ => True) (by kernel_rfl) (by kernel_rfl) (by rfl) rfl ?_
      repeat (first | (refine walk_pure (v := ?_) (fun _ => trivial) (fun _ => rfl) ?_ ?_; rotate_left; (focus (intro us w9 hS9 hF; subst hS9; go_simp; (try with_reducible rfl); done)); simp only [Act.put, List.setIfInBounds_toArray, List.set_cons_zero, List.set_cons_succ, Nat.reduceAdd]) | (refine walk_skip (fun _ => trivial) (fun _ => rfl) ?_; simp only [Act.put, List.setIfInBounds_toArray, List.set_cons_zero, List.set_cons_succ, Nat.reduceAdd]))
      refine walk_done fun us w9 hS9 hF => ?_; subst hS9; clear hF
      go_wp2
      go_ret
      exact comp_mk HQ.out hBa
theorem comp_any (g : Nat) (e : LE) (A B : Option Addr) (c d : Nat) (W : World) (ht : e.ty) (hr : Row W g 155 (LBV e A c B d)) : Calls Try.prog 137 #[.pointer (some ⟨g, 5, none⟩)] W (CompP e W) := by
  cases hv : vl e.rn
  · exact comp_vl g e A B c d W ht hr hv
  · by_cases h : e.rc ≤ 4611686018427387904
    · by_cases h2 : e.told ≤ e.rc
      · exact comp_ok g e A B c d W ht hr hv h h2
      · exact comp_told g e A B c d W ht hr hv h (by omega)
    · exact comp_rc g e A B c d W ht hr hv (by omega)
theorem end_cells {w : World} {g : Nat} {e : LE} {A B : Option Addr} {c d : Nat} (h : Row w g 69 (LEV e A c B d)) :
    (w.cell? ⟨g, 0, none⟩ = some (.int .i64 e.n) ∧ w.cell? ⟨g, 1, none⟩ = some (.int .u64 e.s) ∧ w.cell? ⟨g, 2, none⟩ = some (.int .u64 e.a) ∧ w.cell? ⟨g, 3, none⟩ = some (.int .i64 e.rn) ∧ w.cell? ⟨g, 4, none⟩ = some (.int .u64 e.rc)) ∧
    (w.cell? ⟨g, 5, none⟩ = some (.slice A e.q.length c) ∧ w.cell? ⟨g, 6, none⟩ = some (.int .i64 e.off) ∧ w.cell? ⟨g, 7, none⟩ = some (.int .i64 e.want) ∧ w.cell? ⟨g, 8, none⟩ = some (.slice B e.pt.length d) ∧ w.cell? ⟨g, 9, none⟩ = some (.int .u64 e.told)) ∧ ∀ i, w.frozen? ⟨g, i, none⟩ = false :=
  ⟨⟨h.cell 0, h.cell 1, h.cell 2, h.cell 3, h.cell 4⟩, ⟨h.cell 5, h.cell 6, h.cell 7, h.cell 8, h.cell 9⟩, h.frozen⟩
def ValP (e : LE) (W : World) (en : Ending) (W' : World) : Prop := en = .returned (.bool (vE e)) ∧ Below W.heap.size W W'
theorem val_mk {e : LE} {b : Bool} {W W' : World} (h : vE e = b) (hb : Below W.heap.size W W') : ValP e W (.returned (.bool b)) W' := ⟨by rw [h], hb⟩
theorem sound_is {g : Nat} {e : LE} {A B : Option Addr} {c d : Nat} {W : World} {b : Bool} (hs : soundB e = b) (ht : e.ty) (hr : Row W g 155 (LBV e A c B d)) (hH : Held W e A c B d) : Calls Try.prog 136 #[.pointer (some ⟨g, 0, none⟩)] W (fun en W' => en = .returned (.bool b) ∧ Below W.heap.size W W') :=
  (sound_any g e A B c d W ht hr hH).mono fun en W' h => by rw [← hs]; exact h
theorem comp_is {g : Nat} {e : LE} {A B : Option Addr} {c d : Nat} {W : World} {b : Bool} (hs : compB e = b) (ht : e.ty) (hr : Row W g 155 (LBV e A c B d)) : Calls Try.prog 137 #[.pointer (some ⟨g, 5, none⟩)] W (fun en W' => en = .returned (.bool b) ∧ Below W.heap.size W W') :=
  (comp_any g e A B c d W ht hr).mono fun en W' h => by rw [← hs]; exact h
set_option maxRecDepth 100000 in
set_option maxHeartbeats 4000000 in
theorem valid_s (e : LE) (A B : Option Addr) (c d : Nat) (W : World) (ht : e.ty) (hH : Held W e A c B d) (hs : soundB e = false) : Calls Try.prog 101 #[.agg (LEV e A c B d)] W (ValP e W) := by
  have HS := Lib.hid hs
  have HV := Lib.hid (show vE e = false by simp [vE, hs])
  clear hs
  have hB1 := (Below.refl W.heap.size W).alloc (Nat.le_refl _) (.cells (LEV e A c B d) 69)
  have r1 := Row.born W 69 (LEV e A c B d)
  have hs1 : (W.alloc (.cells (LEV e A c B d) 69)).heap.size = W.heap.size + 1 := by simp
  go_enter Try.func101, Try.ntmps101
  go_upto_region 1 with (fail)
  generalize W.alloc (.cells (LEV e A c B d) 69) = w1 at *
  obtain ⟨⟨c0, c1, c2, c3, c4⟩, ⟨c5, c6, c7, c8, c9⟩, -⟩ := end_cells r1
  go_upto_region 2 with (fail)
  have hBw := hB1.alloc hB1.size (.cells (LBV e A c B d) 155)
  have hr : Row (w1.alloc (.cells (LBV e A c B d) 155)) w1.heap.size 155 (LBV e A c B d) := Row.born w1 155 (LBV e A c B d)
  change Code.wp _ _ _ _ (w1.alloc (.cells (LBV e A c B d) 155))
  clear c0 c1 c2 c3 c4 c5 c6 c7 c8 c9 r1
  generalize w1.alloc (.cells (LBV e A c B d) 155) = w2 at *
  rw [hs1] at hr
  clear hs1
  have hH2 := hH.below hBw
  obtain ⟨⟨c0, -, -, -, -⟩, ⟨c5, -, -, -, -⟩, fz⟩ := both_cells hr
  have hlt := hr.lt
  refine wp_region_told (n := 47) (fun w' => Below w2.heap.size w2 w') (fun _ _ => True) (by kernel_rfl) (by kernel_rfl) (by rfl) (Below.refl _ _).drew ?_
  repeat (first | (refine walk_pure (v := ?_) (fun _ => trivial) (fun _ => rfl) ?_ ?_; rotate_left; (focus (intro us w9 hS9 hF; have b0 := (hS9.cell (p := ⟨W.heap.size + 1, 0, none⟩) hlt).trans c0; have b5 := (hS9.cell (p := ⟨W.heap.size + 1, 5, none⟩) hlt).trans c5; clear hF; go_simp; (try with_reducible rfl); done)); simp only [Act.put, List.setIfInBounds_toArray, List.set_cons_zero, List.set_cons_succ, Nat.reduceAdd]) | (refine walk_skip (fun _ => trivial) (fun _ => rfl) ?_; simp only [Act.put, List.setIfInBounds_toArray, List.set_cons_zero, List.set_cons_succ, Nat.reduceAdd]))
  refine walk_fix (v := .bool false) ?_ ?_; (focus (intro us w9 hS9 hF K hK; clear hF; go_simp; refine (sound_is HS.out ht (hr.below hS9 hlt) (hH2.below hS9)).mono ?_; rintro e' w' ⟨rfl, hb⟩; exact hK _ (below_on hS9 hb) trivial)); simp only [Act.put, List.setIfInBounds_toArray, List.set_cons_zero, List.set_cons_succ, Nat.reduceAdd]
  repeat (first | (refine walk_pure (v := ?_) (fun _ => trivial) (fun _ => rfl) ?_ ?_; rotate_left; (focus (intro us w9 hS9 hF; have b0 := (hS9.cell (p := ⟨W.heap.size + 1, 0, none⟩) hlt).trans c0; have b5 := (hS9.cell (p := ⟨W.heap.size + 1, 5, none⟩) hlt).trans c5; clear hF; go_simp; (try with_reducible rfl); done)); simp only [Act.put, List.setIfInBounds_toArray, List.set_cons_zero, List.set_cons_succ, Nat.reduceAdd]) | (refine walk_skip (fun _ => trivial) (fun _ => rfl) ?_; simp only [Act.put, List.setIfInBounds_toArray, List.set_cons_zero, List.set_cons_succ, Nat.reduceAdd]))
  refine walk_done fun us w9 hS9 hF => ?_
  clear hF
  go_wp2
  go_ret
  exact val_mk HV.out (hBw.trans (hS9.mono hBw.size))
set_option maxRecDepth 100000 in
set_option maxHeartbeats 4000000 in
theorem valid_c (e : LE) (A B : Option Addr) (c d : Nat) (W : World) (ht : e.ty) (hH : Held W e A c B d) (hs : soundB e = true) (hc : compB e = false) : Calls Try.prog 101 #[.agg (LEV e A c B d)] W (ValP e W) := by
  have HS := Lib.hid hs
  have HC := Lib.hid hc
  have HV := Lib.hid (show vE e = false by simp [vE, hc])
  clear hs hc
  have hB1 := (Below.refl W.heap.size W).alloc (Nat.le_refl _) (.cells (LEV e A c B d) 69)
  have r1 := Row.born W 69 (LEV e A c B d)
  have hs1 : (W.alloc (.cells (LEV e A c B d) 69)).heap.size = W.heap.size + 1 := by simp
  go_enter Try.func101, Try.ntmps101
  go_upto_region 1 with (fail)
  generalize W.alloc (.cells (LEV e A c B d) 69) = w1 at *
  obtain ⟨⟨c0, c1, c2, c3, c4⟩, ⟨c5, c6, c7, c8, c9⟩, -⟩ := end_cells r1
  go_upto_region 2 with (fail)
  have hBw := hB1.alloc hB1.size (.cells (LBV e A c B d) 155)
  have hr : Row (w1.alloc (.cells (LBV e A c B d) 155)) w1.heap.size 155 (LBV e A c B d) := Row.born w1 155 (LBV e A c B d)
  change Code.wp _ _ _ _ (w1.alloc (.cells (LBV e A c B d) 155))
  clear c0 c1 c2 c3 c4 c5 c6 c7 c8 c9 r1
  generalize w1.alloc (.cells (LBV e A c B d) 155) = w2 at *
  rw [hs1] at hr
  clear hs1
  have hH2 := hH.below hBw
  obtain ⟨⟨c0, -, -, -, -⟩, ⟨c5, -, -, -, -⟩, fz⟩ := both_cells hr
  have hlt := hr.lt
  refine wp_region_told (n := 47) (fun w' => Below w2.heap.size w2 w') (fun _ _ => True) (by kernel_rfl) (by kernel_rfl) (by rfl) (Below.refl _ _).drew ?_
  repeat (first | (refine walk_pure (v := ?_) (fun _ => trivial) (fun _ => rfl) ?_ ?_; rotate_left; (focus (intro us w9 hS9 hF; have b0 := (hS9.cell (p := ⟨W.heap.size + 1, 0, none⟩) hlt).trans c0; have b5 := (hS9.cell (p := ⟨W.heap.size + 1, 5, none⟩) hlt).trans c5; clear hF; go_simp; (try with_reducible rfl); done)); simp only [Act.put, List.setIfInBounds_toArray, List.set_cons_zero, List.set_cons_succ, Nat.reduceAdd]) | (refine walk_skip (fun _ => trivial) (fun _ => rfl) ?_; simp only [Act.put, List.setIfInBounds_toArray, List.set_cons_zero, List.set_cons_succ, Nat.reduceAdd]))
  refine walk_fix (v := .bool true) ?_ ?_; (focus (intro us w9 hS9 hF K hK; clear hF; go_simp; refine (sound_is HS.out ht (hr.below hS9 hlt) (hH2.below hS9)).mono ?_; rintro e' w' ⟨rfl, hb⟩; exact hK _ (below_on hS9 hb) trivial)); simp only [Act.put, List.setIfInBounds_toArray, List.set_cons_zero, List.set_cons_succ, Nat.reduceAdd]
  repeat (first | (refine walk_pure (v := ?_) (fun _ => trivial) (fun _ => rfl) ?_ ?_; rotate_left; (focus (intro us w9 hS9 hF; have b0 := (hS9.cell (p := ⟨W.heap.size + 1, 0, none⟩) hlt).trans c0; have b5 := (hS9.cell (p := ⟨W.heap.size + 1, 5, none⟩) hlt).trans c5; clear hF; go_simp; (try with_reducible rfl); done)); simp only [Act.put, List.setIfInBounds_toArray, List.set_cons_zero, List.set_cons_succ, Nat.reduceAdd]) | (refine walk_skip (fun _ => trivial) (fun _ => rfl) ?_; simp only [Act.put, List.setIfInBounds_toArray, List.set_cons_zero, List.set_cons_succ, Nat.reduceAdd]))
  refine walk_fix (v := .bool false) ?_ ?_; (focus (intro us w9 hS9 hF K hK; clear hF; go_simp; refine (comp_is HC.out ht (hr.below hS9 hlt)).mono ?_; rintro e' w' ⟨rfl, hb⟩; exact hK _ (below_on hS9 hb) trivial)); simp only [Act.put, List.setIfInBounds_toArray, List.set_cons_zero, List.set_cons_succ, Nat.reduceAdd]
  repeat (first | (refine walk_pure (v := ?_) (fun _ => trivial) (fun _ => rfl) ?_ ?_; rotate_left; (focus (intro us w9 hS9 hF; have b0 := (hS9.cell (p := ⟨W.heap.size + 1, 0, none⟩) hlt).trans c0; have b5 := (hS9.cell (p := ⟨W.heap.size + 1, 5, none⟩) hlt).trans c5; clear hF; go_simp; (try with_reducible rfl); done)); simp only [Act.put, List.setIfInBounds_toArray, List.set_cons_zero, List.set_cons_succ, Nat.reduceAdd]) | (refine walk_skip (fun _ => trivial) (fun _ => rfl) ?_; simp only [Act.put, List.setIfInBounds_toArray, List.set_cons_zero, List.set_cons_succ, Nat.reduceAdd]))
  refine walk_done fun us w9 hS9 hF => ?_
  clear hF
  go_wp2
  go_ret
  exact val_mk HV.out (hBw.trans (hS9.mono hBw.size))
set_option maxRecDepth 100000 in
set_option maxHeartbeats 4000000 in
theorem valid_t (e : LE) (A B : Option Addr) (c d : Nat) (W : World) (ht : e.ty) (hH : Held W e A c B d) (hs : soundB e = true) (hc : compB e = true) : Calls Try.prog 101 #[.agg (LEV e A c B d)] W (ValP e W) := by
  have HS := Lib.hid hs
  have HC := Lib.hid hc
  have HV := Lib.hid (show vE e = (e.n == e.rn) by simp [vE, hs, hc])
  clear hs hc
  have hB1 := (Below.refl W.heap.size W).alloc (Nat.le_refl _) (.cells (LEV e A c B d) 69)
  have r1 := Row.born W 69 (LEV e A c B d)
  have hs1 : (W.alloc (.cells (LEV e A c B d) 69)).heap.size = W.heap.size + 1 := by simp
  go_enter Try.func101, Try.ntmps101
  go_upto_region 1 with (fail)
  generalize W.alloc (.cells (LEV e A c B d) 69) = w1 at *
  obtain ⟨⟨c0, c1, c2, c3, c4⟩, ⟨c5, c6, c7, c8, c9⟩, -⟩ := end_cells r1
  go_upto_region 2 with (fail)
  have hBw := hB1.alloc hB1.size (.cells (LBV e A c B d) 155)
  have hr : Row (w1.alloc (.cells (LBV e A c B d) 155)) w1.heap.size 155 (LBV e A c B d) := Row.born w1 155 (LBV e A c B d)
  change Code.wp _ _ _ _ (w1.alloc (.cells (LBV e A c B d) 155))
  clear c0 c1 c2 c3 c4 c5 c6 c7 c8 c9 r1
  generalize w1.alloc (.cells (LBV e A c B d) 155) = w2 at *
  rw [hs1] at hr
  clear hs1
  have hH2 := hH.below hBw
  obtain ⟨⟨c0, -, -, -, -⟩, ⟨c5, -, -, -, -⟩, fz⟩ := both_cells hr
  have hlt := hr.lt
  refine wp_region_told (n := 47) (fun w' => Below w2.heap.size w2 w') (fun _ _ => True) (by kernel_rfl) (by kernel_rfl) (by rfl) (Below.refl _ _).drew ?_
  repeat (first | (refine walk_pure (v := ?_) (fun _ => trivial) (fun _ => rfl) ?_ ?_; rotate_left; (focus (intro us w9 hS9 hF; have b0 := (hS9.cell (p := ⟨W.heap.size + 1, 0, none⟩) hlt).trans c0; have b5 := (hS9.cell (p := ⟨W.heap.size + 1, 5, none⟩) hlt).trans c5; clear hF; go_simp; (try with_reducible rfl); done)); simp only [Act.put, List.setIfInBounds_toArray, List.set_cons_zero, List.set_cons_succ, Nat.reduceAdd]) | (refine walk_skip (fun _ => trivial) (fun _ => rfl) ?_; simp only [Act.put, List.setIfInBounds_toArray, List.set_cons_zero, List.set_cons_succ, Nat.reduceAdd]))
  refine walk_fix (v := .bool true) ?_ ?_; (focus (intro us w9 hS9 hF K hK; clear hF; go_simp; refine (sound_is HS.out ht (hr.below hS9 hlt) (hH2.below hS9)).mono ?_; rintro e' w' ⟨rfl, hb⟩; exact hK _ (below_on hS9 hb) trivial)); simp only [Act.put, List.setIfInBounds_toArray, List.set_cons_zero, List.set_cons_succ, Nat.reduceAdd]
  repeat (first | (refine walk_pure (v := ?_) (fun _ => trivial) (fun _ => rfl) ?_ ?_; rotate_left; (focus (intro us w9 hS9 hF; have b0 := (hS9.cell (p := ⟨W.heap.size + 1, 0, none⟩) hlt).trans c0; have b5 := (hS9.cell (p := ⟨W.heap.size + 1, 5, none⟩) hlt).trans c5; clear hF; go_simp; (try with_reducible rfl); done)); simp only [Act.put, List.setIfInBounds_toArray, List.set_cons_zero, List.set_cons_succ, Nat.reduceAdd]) | (refine walk_skip (fun _ => trivial) (fun _ => rfl) ?_; simp only [Act.put, List.setIfInBounds_toArray, List.set_cons_zero, List.set_cons_succ, Nat.reduceAdd]))
  refine walk_fix (v := .bool true) ?_ ?_; (focus (intro us w9 hS9 hF K hK; clear hF; go_simp; refine (comp_is HC.out ht (hr.below hS9 hlt)).mono ?_; rintro e' w' ⟨rfl, hb⟩; exact hK _ (below_on hS9 hb) trivial)); simp only [Act.put, List.setIfInBounds_toArray, List.set_cons_zero, List.set_cons_succ, Nat.reduceAdd]
  repeat (first | (refine walk_pure (v := ?_) (fun _ => trivial) (fun _ => rfl) ?_ ?_; rotate_left; (focus (intro us w9 hS9 hF; have b0 := (hS9.cell (p := ⟨W.heap.size + 1, 0, none⟩) hlt).trans c0; have b5 := (hS9.cell (p := ⟨W.heap.size + 1, 5, none⟩) hlt).trans c5; clear hF; go_simp; (try with_reducible rfl); done)); simp only [Act.put, List.setIfInBounds_toArray, List.set_cons_zero, List.set_cons_succ, Nat.reduceAdd]) | (refine walk_skip (fun _ => trivial) (fun _ => rfl) ?_; simp only [Act.put, List.setIfInBounds_toArray, List.set_cons_zero, List.set_cons_succ, Nat.reduceAdd]))
  refine walk_done fun us w9 hS9 hF => ?_
  clear hF
  go_wp2
  go_ret
  exact val_mk HV.out (hBw.trans (hS9.mono hBw.size))
theorem valid_any (e : LE) (A B : Option Addr) (c d : Nat) (W : World) (ht : e.ty) (hH : Held W e A c B d) : Calls Try.prog 101 #[.agg (LEV e A c B d)] W (ValP e W) := by
  cases hs : soundB e
  · exact valid_s e A B c d W ht hH hs
  · cases hc : compB e
    · exact valid_c e A B c d W ht hH hs hc
    · exact valid_t e A B c d W ht hH hs hc
end Go.Proofs.Ythjkhambmgepdaa
