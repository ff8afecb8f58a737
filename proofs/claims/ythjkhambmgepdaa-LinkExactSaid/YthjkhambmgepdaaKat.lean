/- Texts Fj, without what this claim does not use. -/
import Derived.Test.YthjkhambmgepdaaKaq
namespace Go.Proofs.Ythjkhambmgepdaa
section
open Go.RowKit
set_option linter.unusedVariables false
set_option linter.unusedSimpArgs false
/-- Is a data line the one that is due, as the reference says it. -/
def duB (e : LE) (el fl : Bool) (len : Int) (p : List UInt8) : Bool := (el == ep e.rn e.rc) && (fl == decide (e.want < 0)) && decide (0 ≤ len) && decide (len ≤ 56) && clr len p && (if fl then decide (4 ≤ len) && decide (acH p ≤ 1048576) && (len == 4 + min (acH p : Int) 52) else len == min (e.want - e.pt.length) 56)
def DuP (e : LE) (el fl : Bool) (len : Int) (p : List UInt8) (W : World) (en : Ending) (W' : World) : Prop := en = .returned (.bool (duB e el fl len p)) ∧ Below W.heap.size W W'
theorem du_mk {e : LE} {el fl : Bool} {len : Int} {p : List UInt8} {b : Bool} (h : duB e el fl len p = b) {W W' : World} (hb : Below W.heap.size W W') : DuP e el fl len p W (.returned (.bool b)) W' := ⟨by rw [h], hb⟩
theorem fixR_pay {p : List UInt8} (hp : p.length = 56) : fixR p 0 4 = (acH p, 0) := by
  unfold fixR
  rw [if_neg (by omega), if_neg (by have : (0 : Int).toNat = 0 := rfl; omega)]
  simp [seg, acH]
set_option maxRecDepth 100000 in
set_option maxHeartbeats 8000000 in
theorem announced (k : Int) (el fl : Bool) (len ack : Int) (p : List UInt8) (W : World) (hl : p.length = 56) : Calls Try.prog 110 #[.agg (LV k el fl len ack p)] W (fun en W' => en = .returned (.int .u64 (acH p)) ∧ Below W.heap.size W W') := by
  have hB1 := (Below.refl W.heap.size W).alloc (Nat.le_refl _) (.cells (LV k el fl len ack p) 40)
  have r1 := Row.born W 40 (LV k el fl len ack p)
  go_enter Try.func110, Try.ntmps110
  go_upto_region 1 with (fail)
  generalize W.alloc (.cells (LV k el fl len ack p) 40) = w1 at *
  have hI := pay_isB r1 hl
  have hu := uint_ref (some ⟨W.heap.size, 5, none⟩) 56 56 p 0 4 w1 hI (by omega) (by omega) (by omega) (by omega) (by omega)
  unfold FixPost at hu
  rw [fixR_pay hl] at hu
  have HU := Lib.hid hu
  clear hu
  go_wp2_with (go_at_call 141; refine HU.out.mono ?_; rintro en w2 ⟨rfl, rfl⟩)
  go_ret
  exact ⟨rfl, hB1⟩
set_option maxRecDepth 100000 in
set_option maxHeartbeats 8000000 in
theorem due_a (e : LE) (A B : Option Addr) (c d : Nat) (k : Int) (el fl : Bool) (len ack : Int) (p : List UInt8) (W : World) (ht : e.ty) (hve : VE e) (hl : p.length = 56) (h1 : (el == ep e.rn e.rc) = false) : Calls Try.prog 109 #[.agg (LEV e A c B d), .agg (LV k el fl len ack p)] W (DuP e el fl len p W) := by
  have HDU := Lib.hid (show duB e el fl len p = false by simp [duB, h1])
  have hB1 := ((Below.refl W.heap.size W).alloc (Nat.le_refl _) (.cells (LEV e A c B d) 69)).alloc (by simp) (.cells (LV k el fl len ack p) 40)
  have r1 := (Row.born W 69 (LEV e A c B d)).alloc (.cells (LV k el fl len ack p) 40)
  have rl : Row ((W.alloc (.cells (LEV e A c B d) 69)).alloc (.cells (LV k el fl len ack p) 40)) (W.heap.size + 1) 40 (LV k el fl len ack p) := by
    have h := Row.born (W.alloc (.cells (LEV e A c B d) 69)) 40 (LV k el fl len ack p)
    rwa [show (W.alloc (.cells (LEV e A c B d) 69)).heap.size = W.heap.size + 1 by simp] at h
  obtain ⟨n0, n1⟩ := vl_range (vr_vl hve.vr)
  have hep := fun w => epoch_ref e.rc e.rn ht.r0 ht.r1 n0 n1 w
  have HEP := Lib.hid hep
  clear hep
  generalize hev : ep e.rn e.rc = ev at *
  go_enter Try.func109, Try.ntmps109
  go_upto_region 1 with (fail)
  change Code.wp _ _ _ _ ((W.alloc (.cells (LEV e A c B d) 69)).alloc (.cells (LV k el fl len ack p) 40))
  generalize ((W.alloc (.cells (LEV e A c B d) 69)).alloc (.cells (LV k el fl len ack p) 40)) = w1 at *
  have hl1 := r1.lt
  have hl2 := rl.lt
  have n1 : (el != ev) = true := by rw [show (el != ev) = !(el == ev) from rfl, h1]; rfl
  refine wp_region_told (n := 70) (fun w' => Below w1.heap.size w1 w') (fun _ _ => True) (by kernel_rfl) (by kernel_rfl) (by rfl) (Below.refl _ _).drew ?_
  repeat (first | (refine walk_pure (v := ?_) (fun _ => trivial) (fun _ => rfl) ?_ ?_; rotate_left; (focus (intro us w9 hS9 hF; clear hF; have r1 := r1.below hS9 hl1; have rl := rl.below hS9 hl2; obtain ⟨⟨c0, c1, c2, c3, c4⟩, ⟨c5, c6, c7, c8, c9⟩, fz⟩ := end_cells r1; obtain ⟨l0, l1, l2, l3, l4⟩ := line_cells rl; clear r1 rl; go_simp; (try with_reducible rfl); done)); simp only [Act.put, List.setIfInBounds_toArray, List.set_cons_zero, List.set_cons_succ, Nat.reduceAdd]) | (refine walk_skip (fun _ => trivial) (fun _ => rfl) ?_; simp only [Act.put, List.setIfInBounds_toArray, List.set_cons_zero, List.set_cons_succ, Nat.reduceAdd]))
  refine walk_fix (v := .bool ev) ?_ ?_; (focus (intro us w9 hS9 hF K hK; clear hF; go_simp; refine (HEP.out w9).mono ?_; rintro en w' ⟨rfl, hbw⟩; exact hK _ (hbw ▸ hS9) trivial)); simp only [Act.put, List.setIfInBounds_toArray, List.set_cons_zero, List.set_cons_succ, Nat.reduceAdd]
  repeat (first | (refine walk_pure (v := ?_) (fun _ => trivial) (fun _ => rfl) ?_ ?_; rotate_left; (focus (intro us w9 hS9 hF; clear hF; have r1 := r1.below hS9 hl1; have rl := rl.below hS9 hl2; obtain ⟨⟨c0, c1, c2, c3, c4⟩, ⟨c5, c6, c7, c8, c9⟩, fz⟩ := end_cells r1; obtain ⟨l0, l1, l2, l3, l4⟩ := line_cells rl; clear r1 rl; go_simp; (try with_reducible rfl); done)); simp only [Act.put, List.setIfInBounds_toArray, List.set_cons_zero, List.set_cons_succ, Nat.reduceAdd]) | (refine walk_skip (fun _ => trivial) (fun _ => rfl) ?_; simp only [Act.put, List.setIfInBounds_toArray, List.set_cons_zero, List.set_cons_succ, Nat.reduceAdd]))
  refine walk_done fun us w9 hS9 hF => ?_
  clear hF
  have hB9 := hB1.trans (hS9.mono hB1.size)
  go_wp2
  go_ret
  exact du_mk HDU.out hB9
set_option maxRecDepth 100000 in
set_option maxHeartbeats 8000000 in
theorem due_b (e : LE) (A B : Option Addr) (c d : Nat) (k : Int) (el fl : Bool) (len ack : Int) (p : List UInt8) (W : World) (ht : e.ty) (hve : VE e) (hl : p.length = 56) (h1 : (el == ep e.rn e.rc) = true) (h2 : (fl == decide (e.want < 0)) = false) : Calls Try.prog 109 #[.agg (LEV e A c B d), .agg (LV k el fl len ack p)] W (DuP e el fl len p W) := by
  have HDU := Lib.hid (show duB e el fl len p = false by simp [duB, h2])
  have hB1 := ((Below.refl W.heap.size W).alloc (Nat.le_refl _) (.cells (LEV e A c B d) 69)).alloc (by simp) (.cells (LV k el fl len ack p) 40)
  have r1 := (Row.born W 69 (LEV e A c B d)).alloc (.cells (LV k el fl len ack p) 40)
  have rl : Row ((W.alloc (.cells (LEV e A c B d) 69)).alloc (.cells (LV k el fl len ack p) 40)) (W.heap.size + 1) 40 (LV k el fl len ack p) := by
    have h := Row.born (W.alloc (.cells (LEV e A c B d) 69)) 40 (LV k el fl len ack p)
    rwa [show (W.alloc (.cells (LEV e A c B d) 69)).heap.size = W.heap.size + 1 by simp] at h
  obtain ⟨n0, n1⟩ := vl_range (vr_vl hve.vr)
  have hep := fun w => epoch_ref e.rc e.rn ht.r0 ht.r1 n0 n1 w
  have HEP := Lib.hid hep
  clear hep
  generalize hev : ep e.rn e.rc = ev at *
  go_enter Try.func109, Try.ntmps109
  go_upto_region 1 with (fail)
  change Code.wp _ _ _ _ ((W.alloc (.cells (LEV e A c B d) 69)).alloc (.cells (LV k el fl len ack p) 40))
  generalize ((W.alloc (.cells (LEV e A c B d) 69)).alloc (.cells (LV k el fl len ack p) 40)) = w1 at *
  have hl1 := r1.lt
  have hl2 := rl.lt
  have n1 : (el != ev) = false := by rw [show (el != ev) = !(el == ev) from rfl, h1]; rfl
  have n2 : (fl != decide (e.want < 0)) = true := by rw [show (fl != decide (e.want < 0)) = !(fl == decide (e.want < 0)) from rfl, h2]; rfl
  refine wp_region_told (n := 70) (fun w' => Below w1.heap.size w1 w') (fun _ _ => True) (by kernel_rfl) (by kernel_rfl) (by rfl) (Below.refl _ _).drew ?_
  repeat (first | (refine walk_pure (v := ?_) (fun _ => trivial) (fun _ => rfl) ?_ ?_; rotate_left; (focus (intro us w9 hS9 hF; clear hF; have r1 := r1.below hS9 hl1; have rl := rl.below hS9 hl2; obtain ⟨⟨c0, c1, c2, c3, c4⟩, ⟨c5, c6, c7, c8, c9⟩, fz⟩ := end_cells r1; obtain ⟨l0, l1, l2, l3, l4⟩ := line_cells rl; clear r1 rl; go_simp; (try with_reducible rfl); done)); simp only [Act.put, List.setIfInBounds_toArray, List.set_cons_zero, List.set_cons_succ, Nat.reduceAdd]) | (refine walk_skip (fun _ => trivial) (fun _ => rfl) ?_; simp only [Act.put, List.setIfInBounds_toArray, List.set_cons_zero, List.set_cons_succ, Nat.reduceAdd]))
  refine walk_fix (v := .bool ev) ?_ ?_; (focus (intro us w9 hS9 hF K hK; clear hF; go_simp; refine (HEP.out w9).mono ?_; rintro en w' ⟨rfl, hbw⟩; exact hK _ (hbw ▸ hS9) trivial)); simp only [Act.put, List.setIfInBounds_toArray, List.set_cons_zero, List.set_cons_succ, Nat.reduceAdd]
  repeat (first | (refine walk_pure (v := ?_) (fun _ => trivial) (fun _ => rfl) ?_ ?_; rotate_left; (focus (intro us w9 hS9 hF; clear hF; have r1 := r1.below hS9 hl1; have rl := rl.below hS9 hl2; obtain ⟨⟨c0, c1, c2, c3, c4⟩, ⟨c5, c6, c7, c8, c9⟩, fz⟩ := end_cells r1; obtain ⟨l0, l1, l2, l3, l4⟩ := line_cells rl; clear r1 rl; go_simp; (try with_reducible rfl); done)); simp only [Act.put, List.setIfInBounds_toArray, List.set_cons_zero, List.set_cons_succ, Nat.reduceAdd]) | (refine walk_skip (fun _ => trivial) (fun _ => rfl) ?_; simp only [Act.put, List.setIfInBounds_toArray, List.set_cons_zero, List.set_cons_succ, Nat.reduceAdd]))
  refine walk_done fun us w9 hS9 hF => ?_
  clear hF
  have hB9 := hB1.trans (hS9.mono hB1.size)
  go_wp2
  go_ret
  exact du_mk HDU.out hB9
set_option maxRecDepth 100000 in
set_option maxHeartbeats 8000000 in
theorem due_c (e : LE) (A B : Option Addr) (c d : Nat) (k : Int) (el fl : Bool) (len ack : Int) (p : List UInt8) (W : World) (ht : e.ty) (hve : VE e) (hl : p.length = 56) (h1 : (el == ep e.rn e.rc) = true) (h2 : (fl == decide (e.want < 0)) = true) (h3 : len < 0) : Calls Try.prog 109 #[.agg (LEV e A c B d), .agg (LV k el fl len ack p)] W (DuP e el fl len p W) := by
  have HDU := Lib.hid (show duB e el fl len p = false by unfold duB; rw [decide_eq_false (by omega : ¬ 0 ≤ len)]; simp)
  have hB1 := ((Below.refl W.heap.size W).alloc (Nat.le_refl _) (.cells (LEV e A c B d) 69)).alloc (by simp) (.cells (LV k el fl len ack p) 40)
  have r1 := (Row.born W 69 (LEV e A c B d)).alloc (.cells (LV k el fl len ack p) 40)
  have rl : Row ((W.alloc (.cells (LEV e A c B d) 69)).alloc (.cells (LV k el fl len ack p) 40)) (W.heap.size + 1) 40 (LV k el fl len ack p) := by
    have h := Row.born (W.alloc (.cells (LEV e A c B d) 69)) 40 (LV k el fl len ack p)
    rwa [show (W.alloc (.cells (LEV e A c B d) 69)).heap.size = W.heap.size + 1 by simp] at h
  obtain ⟨n0, n1⟩ := vl_range (vr_vl hve.vr)
  have hep := fun w => epoch_ref e.rc e.rn ht.r0 ht.r1 n0 n1 w
  have HEP := Lib.hid hep
  clear hep
  generalize hev : ep e.rn e.rc = ev at *
  go_enter Try.func109, Try.ntmps109
  go_upto_region 1 with (fail)
  change Code.wp _ _ _ _ ((W.alloc (.cells (LEV e A c B d) 69)).alloc (.cells (LV k el fl len ack p) 40))
  generalize ((W.alloc (.cells (LEV e A c B d) 69)).alloc (.cells (LV k el fl len ack p) 40)) = w1 at *
  have hl1 := r1.lt
  have hl2 := rl.lt
  have n1 : (el != ev) = false := by rw [show (el != ev) = !(el == ev) from rfl, h1]; rfl
  have n2 : (fl != decide (e.want < 0)) = false := by rw [show (fl != decide (e.want < 0)) = !(fl == decide (e.want < 0)) from rfl, h2]; rfl
  have d3 : decide (len < 0) = true := decide_eq_true h3
  refine wp_region_told (n := 70) (fun w' => Below w1.heap.size w1 w') (fun _ _ => True) (by kernel_rfl) (by kernel_rfl) (by rfl) (Below.refl _ _).drew ?_
  repeat (first | (refine walk_pure (v := ?_) (fun _ => trivial) (fun _ => rfl) ?_ ?_; rotate_left; (focus (intro us w9 hS9 hF; clear hF; have r1 := r1.below hS9 hl1; have rl := rl.below hS9 hl2; obtain ⟨⟨c0, c1, c2, c3, c4⟩, ⟨c5, c6, c7, c8, c9⟩, fz⟩ := end_cells r1; obtain ⟨l0, l1, l2, l3, l4⟩ := line_cells rl; clear r1 rl; go_simp; (try with_reducible rfl); done)); simp only [Act.put, List.setIfInBounds_toArray, List.set_cons_zero, List.set_cons_succ, Nat.reduceAdd]) | (refine walk_skip (fun _ => trivial) (fun _ => rfl) ?_; simp only [Act.put, List.setIfInBounds_toArray, List.set_cons_zero, List.set_cons_succ, Nat.reduceAdd]))
  refine walk_fix (v := .bool ev) ?_ ?_; (focus (intro us w9 hS9 hF K hK; clear hF; go_simp; refine (HEP.out w9).mono ?_; rintro en w' ⟨rfl, hbw⟩; exact hK _ (hbw ▸ hS9) trivial)); simp only [Act.put, List.setIfInBounds_toArray, List.set_cons_zero, List.set_cons_succ, Nat.reduceAdd]
  repeat (first | (refine walk_pure (v := ?_) (fun _ => trivial) (fun _ => rfl) ?_ ?_; rotate_left; (focus (intro us w9 hS9 hF; clear hF; have r1 := r1.below hS9 hl1; have rl := rl.below hS9 hl2; obtain ⟨⟨c0, c1, c2, c3, c4⟩, ⟨c5, c6, c7, c8, c9⟩, fz⟩ := end_cells r1; obtain ⟨l0, l1, l2, l3, l4⟩ := line_cells rl; clear r1 rl; go_simp; (try with_reducible rfl); done)); simp only [Act.put, List.setIfInBounds_toArray, List.set_cons_zero, List.set_cons_succ, Nat.reduceAdd]) | (refine walk_skip (fun _ => trivial) (fun _ => rfl) ?_; simp only [Act.put, List.setIfInBounds_toArray, List.set_cons_zero, List.set_cons_succ, Nat.reduceAdd]))
  refine walk_done fun us w9 hS9 hF => ?_
  clear hF
  have hB9 := hB1.trans (hS9.mono hB1.size)
  go_wp2
  go_ret
  exact du_mk HDU.out hB9
set_option maxRecDepth 100000 in
set_option maxHeartbeats 8000000 in
theorem due_d (e : LE) (A B : Option Addr) (c d : Nat) (k : Int) (el fl : Bool) (len ack : Int) (p : List UInt8) (W : World) (ht : e.ty) (hve : VE e) (hl : p.length = 56) (h1 : (el == ep e.rn e.rc) = true) (h2 : (fl == decide (e.want < 0)) = true) (h3 : 56 < len) : Calls Try.prog 109 #[.agg (LEV e A c B d), .agg (LV k el fl len ack p)] W (DuP e el fl len p W) := by
  have HDU := Lib.hid (show duB e el fl len p = false by unfold duB; rw [decide_eq_false (by omega : ¬ len ≤ 56)]; simp)
  have hB1 := ((Below.refl W.heap.size W).alloc (Nat.le_refl _) (.cells (LEV e A c B d) 69)).alloc (by simp) (.cells (LV k el fl len ack p) 40)
  have r1 := (Row.born W 69 (LEV e A c B d)).alloc (.cells (LV k el fl len ack p) 40)
  have rl : Row ((W.alloc (.cells (LEV e A c B d) 69)).alloc (.cells (LV k el fl len ack p) 40)) (W.heap.size + 1) 40 (LV k el fl len ack p) := by
    have h := Row.born (W.alloc (.cells (LEV e A c B d) 69)) 40 (LV k el fl len ack p)
    rwa [show (W.alloc (.cells (LEV e A c B d) 69)).heap.size = W.heap.size + 1 by simp] at h
  obtain ⟨n0, n1⟩ := vl_range (vr_vl hve.vr)
  have hep := fun w => epoch_ref e.rc e.rn ht.r0 ht.r1 n0 n1 w
  have HEP := Lib.hid hep
  clear hep
  generalize hev : ep e.rn e.rc = ev at *
  go_enter Try.func109, Try.ntmps109
  go_upto_region 1 with (fail)
  change Code.wp _ _ _ _ ((W.alloc (.cells (LEV e A c B d) 69)).alloc (.cells (LV k el fl len ack p) 40))
  generalize ((W.alloc (.cells (LEV e A c B d) 69)).alloc (.cells (LV k el fl len ack p) 40)) = w1 at *
  have hl1 := r1.lt
  have hl2 := rl.lt
  have n1 : (el != ev) = false := by rw [show (el != ev) = !(el == ev) from rfl, h1]; rfl
  have n2 : (fl != decide (e.want < 0)) = false := by rw [show (fl != decide (e.want < 0)) = !(fl == decide (e.want < 0)) from rfl, h2]; rfl
  have d3 : decide (len < 0) = false := decide_eq_false (by omega)
  have d4 : decide (56 < len) = true := decide_eq_true h3
  refine wp_region_told (n := 70) (fun w' => Below w1.heap.size w1 w') (fun _ _ => True) (by kernel_rfl) (by kernel_rfl) (by rfl) (Below.refl _ _).drew ?_
  repeat (first | (refine walk_pure (v := ?_) (fun _ => trivial) (fun _ => rfl) ?_ ?_; rotate_left; (focus (intro us w9 hS9 hF; clear hF; have r1 := r1.below hS9 hl1; have rl := rl.below hS9 hl2; obtain ⟨⟨c0, c1, c2, c3, c4⟩, ⟨c5, c6, c7, c8, c9⟩, fz⟩ := end_cells r1; obtain ⟨l0, l1, l2, l3, l4⟩ := line_cells rl; clear r1 rl; go_simp; (try with_reducible rfl); done)); simp only [Act.put, List.setIfInBounds_toArray, List.set_cons_zero, List.set_cons_succ, Nat.reduceAdd]) | (refine walk_skip (fun _ => trivial) (fun _ => rfl) ?_; simp only [Act.put, List.setIfInBounds_toArray, List.set_cons_zero, List.set_cons_succ, Nat.reduceAdd]))
  refine walk_fix (v := .bool ev) ?_ ?_; (focus (intro us w9 hS9 hF K hK; clear hF; go_simp; refine (HEP.out w9).mono ?_; rintro en w' ⟨rfl, hbw⟩; exact hK _ (hbw ▸ hS9) trivial)); simp only [Act.put, List.setIfInBounds_toArray, List.set_cons_zero, List.set_cons_succ, Nat.reduceAdd]
  repeat (first | (refine walk_pure (v := ?_) (fun _ => trivial) (fun _ => rfl) ?_ ?_; rotate_left; (focus (intro us w9 hS9 hF; clear hF; have r1 := r1.below hS9 hl1; have rl := rl.below hS9 hl2; obtain ⟨⟨c0, c1, c2, c3, c4⟩, ⟨c5, c6, c7, c8, c9⟩, fz⟩ := end_cells r1; obtain ⟨l0, l1, l2, l3, l4⟩ := line_cells rl; clear r1 rl; go_simp; (try with_reducible rfl); done)); simp only [Act.put, List.setIfInBounds_toArray, List.set_cons_zero, List.set_cons_succ, Nat.reduceAdd]) | (refine walk_skip (fun _ => trivial) (fun _ => rfl) ?_; simp only [Act.put, List.setIfInBounds_toArray, List.set_cons_zero, List.set_cons_succ, Nat.reduceAdd]))
  refine walk_done fun us w9 hS9 hF => ?_
  clear hF
  have hB9 := hB1.trans (hS9.mono hB1.size)
  go_wp2
  go_ret
  exact du_mk HDU.out hB9
set_option maxRecDepth 100000 in
set_option maxHeartbeats 8000000 in
theorem due_n (e : LE) (A B : Option Addr) (c d : Nat) (k : Int) (el fl : Bool) (m : Nat) (ack : Int) (p : List UInt8) (W : World) (ht : e.ty) (hve : VE e) (hl : p.length = 56) (h1 : (el == ep e.rn e.rc) = true) (h2 : (fl == decide (e.want < 0)) = true) (hm : m ≤ 56) (h4 : clr m p = false) : Calls Try.prog 109 #[.agg (LEV e A c B d), .agg (LV k el fl m ack p)] W (DuP e el fl m p W) := by
  have HDU := Lib.hid (show duB e el fl m p = false by simp [duB, h4])
  have hB1 := ((Below.refl W.heap.size W).alloc (Nat.le_refl _) (.cells (LEV e A c B d) 69)).alloc (by simp) (.cells (LV k el fl m ack p) 40)
  have r1 := (Row.born W 69 (LEV e A c B d)).alloc (.cells (LV k el fl m ack p) 40)
  have rl : Row ((W.alloc (.cells (LEV e A c B d) 69)).alloc (.cells (LV k el fl m ack p) 40)) (W.heap.size + 1) 40 (LV k el fl m ack p) := by
    have h := Row.born (W.alloc (.cells (LEV e A c B d) 69)) 40 (LV k el fl m ack p)
    rwa [show (W.alloc (.cells (LEV e A c B d) 69)).heap.size = W.heap.size + 1 by simp] at h
  obtain ⟨n0, n1⟩ := vl_range (vr_vl hve.vr)
  have hep := fun w => epoch_ref e.rc e.rn ht.r0 ht.r1 n0 n1 w
  have HEP := Lib.hid hep
  clear hep
  generalize hev : ep e.rn e.rc = ev at *
  go_enter Try.func109, Try.ntmps109
  go_upto_region 1 with (fail)
  change Code.wp _ _ _ _ ((W.alloc (.cells (LEV e A c B d) 69)).alloc (.cells (LV k el fl m ack p) 40))
  generalize ((W.alloc (.cells (LEV e A c B d) 69)).alloc (.cells (LV k el fl m ack p) 40)) = w1 at *
  have hl1 := r1.lt
  have hl2 := rl.lt
  have n1 : (el != ev) = false := by rw [show (el != ev) = !(el == ev) from rfl, h1]; rfl
  have n2 : (fl != decide (e.want < 0)) = false := by rw [show (fl != decide (e.want < 0)) = !(fl == decide (e.want < 0)) from rfl, h2]; rfl
  have d3 : decide ((m : Int) < 0) = false := decide_eq_false (by omega)
  have d4 : decide (56 < (m : Int)) = false := decide_eq_false (by omega)
  refine wp_region_told (n := 70) (fun w' => Below w1.heap.size w1 w') (fun _ _ => True) (by kernel_rfl) (by kernel_rfl) (by rfl) (Below.refl _ _).drew ?_
  repeat (first | (refine walk_pure (v := ?_) (fun _ => trivial) (fun _ => rfl) ?_ ?_; rotate_left; (focus (intro us w9 hS9 hF; clear hF; have r1 := r1.below hS9 hl1; have rl := rl.below hS9 hl2; obtain ⟨⟨c0, c1, c2, c3, c4⟩, ⟨c5, c6, c7, c8, c9⟩, fz⟩ := end_cells r1; obtain ⟨l0, l1, l2, l3, l4⟩ := line_cells rl; clear r1 rl; go_simp; (try with_reducible rfl); done)); simp only [Act.put, List.setIfInBounds_toArray, List.set_cons_zero, List.set_cons_succ, Nat.reduceAdd]) | (refine walk_skip (fun _ => trivial) (fun _ => rfl) ?_; simp only [Act.put, List.setIfInBounds_toArray, List.set_cons_zero, List.set_cons_succ, Nat.reduceAdd]))
  refine walk_fix (v := .bool ev) ?_ ?_; (focus (intro us w9 hS9 hF K hK; clear hF; go_simp; refine (HEP.out w9).mono ?_; rintro en w' ⟨rfl, hbw⟩; exact hK _ (hbw ▸ hS9) trivial)); simp only [Act.put, List.setIfInBounds_toArray, List.set_cons_zero, List.set_cons_succ, Nat.reduceAdd]
  repeat (first | (refine walk_pure (v := ?_) (fun _ => trivial) (fun _ => rfl) ?_ ?_; rotate_left; (focus (intro us w9 hS9 hF; clear hF; have r1 := r1.below hS9 hl1; have rl := rl.below hS9 hl2; obtain ⟨⟨c0, c1, c2, c3, c4⟩, ⟨c5, c6, c7, c8, c9⟩, fz⟩ := end_cells r1; obtain ⟨l0, l1, l2, l3, l4⟩ := line_cells rl; clear r1 rl; go_simp; (try with_reducible rfl); done)); simp only [Act.put, List.setIfInBounds_toArray, List.set_cons_zero, List.set_cons_succ, Nat.reduceAdd]) | (refine walk_skip (fun _ => trivial) (fun _ => rfl) ?_; simp only [Act.put, List.setIfInBounds_toArray, List.set_cons_zero, List.set_cons_succ, Nat.reduceAdd]))
  refine walk_pure (v := .agg (LV k el fl m ack p)) (fun _ => trivial) (fun _ => rfl) ?_ ?_; (focus (intro us w9 hS9 hF; exact exec_load_g (rl.below hS9 hl2).range Try.underlying40 rfl (line_info _ _ _ _ _ hl) rfl)); simp only [Act.put, List.setIfInBounds_toArray, List.set_cons_zero, List.set_cons_succ, Nat.reduceAdd]
  refine walk_fix (v := .bool (clr m p)) ?_ ?_; (focus (intro us w9 hS9 hF K hK; clear hF; go_simp; refine (clear0 k el fl m ack p hm hl w9).mono ?_; rintro en w' ⟨rfl, hbw⟩; exact hK _ (below_on hS9 hbw) trivial)); simp only [Act.put, List.setIfInBounds_toArray, List.set_cons_zero, List.set_cons_succ, Nat.reduceAdd]
  repeat (first | (refine walk_pure (v := ?_) (fun _ => trivial) (fun _ => rfl) ?_ ?_; rotate_left; (focus (intro us w9 hS9 hF; clear hF; have r1 := r1.below hS9 hl1; have rl := rl.below hS9 hl2; obtain ⟨⟨c0, c1, c2, c3, c4⟩, ⟨c5, c6, c7, c8, c9⟩, fz⟩ := end_cells r1; obtain ⟨l0, l1, l2, l3, l4⟩ := line_cells rl; clear r1 rl; go_simp; (try with_reducible rfl); done)); simp only [Act.put, List.setIfInBounds_toArray, List.set_cons_zero, List.set_cons_succ, Nat.reduceAdd]) | (refine walk_skip (fun _ => trivial) (fun _ => rfl) ?_; simp only [Act.put, List.setIfInBounds_toArray, List.set_cons_zero, List.set_cons_succ, Nat.reduceAdd]))
  refine walk_done fun us w9 hS9 hF => ?_
  clear hF
  have hB9 := hB1.trans (hS9.mono hB1.size)
  go_wp2
  go_ret
  exact du_mk HDU.out hB9
set_option maxRecDepth 100000 in
set_option maxHeartbeats 8000000 in
theorem due_s (e : LE) (A B : Option Addr) (c d : Nat) (k : Int) (el : Bool) (m : Nat) (ack : Int) (p : List UInt8) (W : World) (ht : e.ty) (hve : VE e) (hl : p.length = 56) (h1 : (el == ep e.rn e.rc) = true) (h2 : (false == decide (e.want < 0)) = true) (hm : m ≤ 56) (h4 : clr m p = true) : Calls Try.prog 109 #[.agg (LEV e A c B d), .agg (LV k el false m ack p)] W (DuP e el false m p W) := by
  obtain ⟨M, hM⟩ : ∃ M : Int, min (e.want - (e.pt.length : Int)) 56 = M := ⟨_, rfl⟩
  have HDU := Lib.hid (show duB e el false m p = ((m : Int) == M) by rw [← hM];  unfold duB; rw [h1, h2, h4, decide_eq_true (by omega : (0 : Int) ≤ (m : Int)), decide_eq_true (by omega : (m : Int) ≤ 56)]; rfl)
  have hpp := hve.part
  have w0 : 0 ≤ e.want := by simpa using h2
  have hwr : IntKind.i64.wrap (e.want - e.pt.length) = e.want - e.pt.length := by rw [IntKind.wrap_i64]; have := ht.pl; have := ht.w1; omega
  have hB1 := ((Below.refl W.heap.size W).alloc (Nat.le_refl _) (.cells (LEV e A c B d) 69)).alloc (by simp) (.cells (LV k el false m ack p) 40)
  have r1 := (Row.born W 69 (LEV e A c B d)).alloc (.cells (LV k el false m ack p) 40)
  have rl : Row ((W.alloc (.cells (LEV e A c B d) 69)).alloc (.cells (LV k el false m ack p) 40)) (W.heap.size + 1) 40 (LV k el false m ack p) := by
    have h := Row.born (W.alloc (.cells (LEV e A c B d) 69)) 40 (LV k el false m ack p)
    rwa [show (W.alloc (.cells (LEV e A c B d) 69)).heap.size = W.heap.size + 1 by simp] at h
  obtain ⟨n0, n1⟩ := vl_range (vr_vl hve.vr)
  have hep := fun w => epoch_ref e.rc e.rn ht.r0 ht.r1 n0 n1 w
  have HEP := Lib.hid hep
  clear hep
  generalize hev : ep e.rn e.rc = ev at *
  go_enter Try.func109, Try.ntmps109
  go_upto_region 1 with (fail)
  change Code.wp _ _ _ _ ((W.alloc (.cells (LEV e A c B d) 69)).alloc (.cells (LV k el false m ack p) 40))
  generalize ((W.alloc (.cells (LEV e A c B d) 69)).alloc (.cells (LV k el false m ack p) 40)) = w1 at *
  have hl1 := r1.lt
  have hl2 := rl.lt
  have n1 : (el != ev) = false := by rw [show (el != ev) = !(el == ev) from rfl, h1]; rfl
  have n2 : (false != decide (e.want < 0)) = false := by rw [show (false != decide (e.want < 0)) = !(false == decide (e.want < 0)) from rfl, h2]; rfl
  have d3 : decide ((m : Int) < 0) = false := decide_eq_false (by omega)
  have d4 : decide (56 < (m : Int)) = false := decide_eq_false (by omega)
  refine wp_region_told (n := 70) (fun w' => Below w1.heap.size w1 w') (fun _ _ => True) (by kernel_rfl) (by kernel_rfl) (by rfl) (Below.refl _ _).drew ?_
  repeat (first | (refine walk_pure (v := ?_) (fun _ => trivial) (fun _ => rfl) ?_ ?_; rotate_left; (focus (intro us w9 hS9 hF; clear hF; have r1 := r1.below hS9 hl1; have rl := rl.below hS9 hl2; obtain ⟨⟨c0, c1, c2, c3, c4⟩, ⟨c5, c6, c7, c8, c9⟩, fz⟩ := end_cells r1; obtain ⟨l0, l1, l2, l3, l4⟩ := line_cells rl; clear r1 rl; go_simp; (try with_reducible rfl); done)); simp only [Act.put, List.setIfInBounds_toArray, List.set_cons_zero, List.set_cons_succ, Nat.reduceAdd]) | (refine walk_skip (fun _ => trivial) (fun _ => rfl) ?_; simp only [Act.put, List.setIfInBounds_toArray, List.set_cons_zero, List.set_cons_succ, Nat.reduceAdd]))
  refine walk_fix (v := .bool ev) ?_ ?_; (focus (intro us w9 hS9 hF K hK; clear hF; go_simp; refine (HEP.out w9).mono ?_; rintro en w' ⟨rfl, hbw⟩; exact hK _ (hbw ▸ hS9) trivial)); simp only [Act.put, List.setIfInBounds_toArray, List.set_cons_zero, List.set_cons_succ, Nat.reduceAdd]
  repeat (first | (refine walk_pure (v := ?_) (fun _ => trivial) (fun _ => rfl) ?_ ?_; rotate_left; (focus (intro us w9 hS9 hF; clear hF; have r1 := r1.below hS9 hl1; have rl := rl.below hS9 hl2; obtain ⟨⟨c0, c1, c2, c3, c4⟩, ⟨c5, c6, c7, c8, c9⟩, fz⟩ := end_cells r1; obtain ⟨l0, l1, l2, l3, l4⟩ := line_cells rl; clear r1 rl; go_simp; (try with_reducible rfl); done)); simp only [Act.put, List.setIfInBounds_toArray, List.set_cons_zero, List.set_cons_succ, Nat.reduceAdd]) | (refine walk_skip (fun _ => trivial) (fun _ => rfl) ?_; simp only [Act.put, List.setIfInBounds_toArray, List.set_cons_zero, List.set_cons_succ, Nat.reduceAdd]))
  refine walk_pure (v := .agg (LV k el false m ack p)) (fun _ => trivial) (fun _ => rfl) ?_ ?_; (focus (intro us w9 hS9 hF; exact exec_load_g (rl.below hS9 hl2).range Try.underlying40 rfl (line_info _ _ _ _ _ hl) rfl)); simp only [Act.put, List.setIfInBounds_toArray, List.set_cons_zero, List.set_cons_succ, Nat.reduceAdd]
  refine walk_fix (v := .bool (clr m p)) ?_ ?_; (focus (intro us w9 hS9 hF K hK; clear hF; go_simp; refine (clear0 k el false m ack p hm hl w9).mono ?_; rintro en w' ⟨rfl, hbw⟩; exact hK _ (below_on hS9 hbw) trivial)); simp only [Act.put, List.setIfInBounds_toArray, List.set_cons_zero, List.set_cons_succ, Nat.reduceAdd]
  repeat (first | (refine walk_pure (v := ?_) (fun _ => trivial) (fun _ => rfl) ?_ ?_; rotate_left; (focus (intro us w9 hS9 hF; clear hF; have r1 := r1.below hS9 hl1; have rl := rl.below hS9 hl2; obtain ⟨⟨c0, c1, c2, c3, c4⟩, ⟨c5, c6, c7, c8, c9⟩, fz⟩ := end_cells r1; obtain ⟨l0, l1, l2, l3, l4⟩ := line_cells rl; clear r1 rl; go_simp; (try with_reducible rfl); done)); simp only [Act.put, List.setIfInBounds_toArray, List.set_cons_zero, List.set_cons_succ, Nat.reduceAdd]) | (refine walk_skip (fun _ => trivial) (fun _ => rfl) ?_; simp only [Act.put, List.setIfInBounds_toArray, List.set_cons_zero, List.set_cons_succ, Nat.reduceAdd]))
  refine walk_done fun us w9 hS9 hF => ?_
  clear hF
  have hB9 := hB1.trans (hS9.mono hB1.size)
  have r1 := r1.below hS9 hl1
  have rl := rl.below hS9 hl2
  obtain ⟨⟨c0, c1, c2, c3, c4⟩, ⟨c5, c6, c7, c8, c9⟩, fz⟩ := end_cells r1
  obtain ⟨l0, l1, l2, l3, l4⟩ := line_cells rl
  go_wp2
  all_goals
    go_ret
    exact du_mk (HDU.out.trans (by first | (rw [show M = 56 by omega]; done) | (rw [show M = e.want - e.pt.length by omega]; done))) hB9
set_option maxRecDepth 100000 in
set_option maxHeartbeats 8000000 in
theorem due_f1 (e : LE) (A B : Option Addr) (c d : Nat) (k : Int) (el : Bool) (m : Nat) (ack : Int) (p : List UInt8) (W : World) (ht : e.ty) (hve : VE e) (hl : p.length = 56) (h1 : (el == ep e.rn e.rc) = true) (h2 : (true == decide (e.want < 0)) = true) (hm : m ≤ 56) (h4 : clr m p = true) (h5 : m < 4) : Calls Try.prog 109 #[.agg (LEV e A c B d), .agg (LV k el true m ack p)] W (DuP e el true m p W) := by
  obtain ⟨M, hM⟩ : ∃ M : Int, min (acH p : Int) 52 = M := ⟨_, rfl⟩
  have HDU := Lib.hid (show duB e el true m p = false by unfold duB; rw [if_pos rfl, decide_eq_false (by omega : ¬ (4 : Int) ≤ (m : Int))]; simp)
  have d5 : decide ((4 : Int) ≤ (m : Int)) = false := decide_eq_false (by omega)
  have hB1 := ((Below.refl W.heap.size W).alloc (Nat.le_refl _) (.cells (LEV e A c B d) 69)).alloc (by simp) (.cells (LV k el true m ack p) 40)
  have r1 := (Row.born W 69 (LEV e A c B d)).alloc (.cells (LV k el true m ack p) 40)
  have rl : Row ((W.alloc (.cells (LEV e A c B d) 69)).alloc (.cells (LV k el true m ack p) 40)) (W.heap.size + 1) 40 (LV k el true m ack p) := by
    have h := Row.born (W.alloc (.cells (LEV e A c B d) 69)) 40 (LV k el true m ack p)
    rwa [show (W.alloc (.cells (LEV e A c B d) 69)).heap.size = W.heap.size + 1 by simp] at h
  obtain ⟨n0, n1⟩ := vl_range (vr_vl hve.vr)
  have hep := fun w => epoch_ref e.rc e.rn ht.r0 ht.r1 n0 n1 w
  have HEP := Lib.hid hep
  clear hep
  generalize hev : ep e.rn e.rc = ev at *
  go_enter Try.func109, Try.ntmps109
  go_upto_region 1 with (fail)
  change Code.wp _ _ _ _ ((W.alloc (.cells (LEV e A c B d) 69)).alloc (.cells (LV k el true m ack p) 40))
  generalize ((W.alloc (.cells (LEV e A c B d) 69)).alloc (.cells (LV k el true m ack p) 40)) = w1 at *
  have hl1 := r1.lt
  have hl2 := rl.lt
  have n1 : (el != ev) = false := by rw [show (el != ev) = !(el == ev) from rfl, h1]; rfl
  have n2 : (true != decide (e.want < 0)) = false := by rw [show (true != decide (e.want < 0)) = !(true == decide (e.want < 0)) from rfl, h2]; rfl
  have d3 : decide ((m : Int) < 0) = false := decide_eq_false (by omega)
  have d4 : decide (56 < (m : Int)) = false := decide_eq_false (by omega)
  refine wp_region_told (n := 70) (fun w' => Below w1.heap.size w1 w') (fun _ _ => True) (by kernel_rfl) (by kernel_rfl) (by rfl) (Below.refl _ _).drew ?_
  repeat (first | (refine walk_pure (v := ?_) (fun _ => trivial) (fun _ => rfl) ?_ ?_; rotate_left; (focus (intro us w9 hS9 hF; clear hF; have r1 := r1.below hS9 hl1; have rl := rl.below hS9 hl2; obtain ⟨⟨c0, c1, c2, c3, c4⟩, ⟨c5, c6, c7, c8, c9⟩, fz⟩ := end_cells r1; obtain ⟨l0, l1, l2, l3, l4⟩ := line_cells rl; clear r1 rl; go_simp; (try with_reducible rfl); done)); simp only [Act.put, List.setIfInBounds_toArray, List.set_cons_zero, List.set_cons_succ, Nat.reduceAdd]) | (refine walk_skip (fun _ => trivial) (fun _ => rfl) ?_; simp only [Act.put, List.setIfInBounds_toArray, List.set_cons_zero, List.set_cons_succ, Nat.reduceAdd]))
  refine walk_fix (v := .bool ev) ?_ ?_; (focus (intro us w9 hS9 hF K hK; clear hF; go_simp; refine (HEP.out w9).mono ?_; rintro en w' ⟨rfl, hbw⟩; exact hK _ (hbw ▸ hS9) trivial)); simp only [Act.put, List.setIfInBounds_toArray, List.set_cons_zero, List.set_cons_succ, Nat.reduceAdd]
  repeat (first | (refine walk_pure (v := ?_) (fun _ => trivial) (fun _ => rfl) ?_ ?_; rotate_left; (focus (intro us w9 hS9 hF; clear hF; have r1 := r1.below hS9 hl1; have rl := rl.below hS9 hl2; obtain ⟨⟨c0, c1, c2, c3, c4⟩, ⟨c5, c6, c7, c8, c9⟩, fz⟩ := end_cells r1; obtain ⟨l0, l1, l2, l3, l4⟩ := line_cells rl; clear r1 rl; go_simp; (try with_reducible rfl); done)); simp only [Act.put, List.setIfInBounds_toArray, List.set_cons_zero, List.set_cons_succ, Nat.reduceAdd]) | (refine walk_skip (fun _ => trivial) (fun _ => rfl) ?_; simp only [Act.put, List.setIfInBounds_toArray, List.set_cons_zero, List.set_cons_succ, Nat.reduceAdd]))
  refine walk_pure (v := .agg (LV k el true m ack p)) (fun _ => trivial) (fun _ => rfl) ?_ ?_; (focus (intro us w9 hS9 hF; exact exec_load_g (rl.below hS9 hl2).range Try.underlying40 rfl (line_info _ _ _ _ _ hl) rfl)); simp only [Act.put, List.setIfInBounds_toArray, List.set_cons_zero, List.set_cons_succ, Nat.reduceAdd]
  refine walk_fix (v := .bool (clr m p)) ?_ ?_; (focus (intro us w9 hS9 hF K hK; clear hF; go_simp; refine (clear0 k el true m ack p hm hl w9).mono ?_; rintro en w' ⟨rfl, hbw⟩; exact hK _ (below_on hS9 hbw) trivial)); simp only [Act.put, List.setIfInBounds_toArray, List.set_cons_zero, List.set_cons_succ, Nat.reduceAdd]
  repeat (first | (refine walk_pure (v := ?_) (fun _ => trivial) (fun _ => rfl) ?_ ?_; rotate_left; (focus (intro us w9 hS9 hF; clear hF; have r1 := r1.below hS9 hl1; have rl := rl.below hS9 hl2; obtain ⟨⟨c0, c1, c2, c3, c4⟩, ⟨c5, c6, c7, c8, c9⟩, fz⟩ := end_cells r1; obtain ⟨l0, l1, l2, l3, l4⟩ := line_cells rl; clear r1 rl; go_simp; (try with_reducible rfl); done)); simp only [Act.put, List.setIfInBounds_toArray, List.set_cons_zero, List.set_cons_succ, Nat.reduceAdd]) | (refine walk_skip (fun _ => trivial) (fun _ => rfl) ?_; simp only [Act.put, List.setIfInBounds_toArray, List.set_cons_zero, List.set_cons_succ, Nat.reduceAdd]))
  refine walk_done fun us w9 hS9 hF => ?_
  clear hF
  have hB9 := hB1.trans (hS9.mono hB1.size)
  have r1 := r1.below hS9 hl1
  have rl := rl.below hS9 hl2
  obtain ⟨⟨c0, c1, c2, c3, c4⟩, ⟨c5, c6, c7, c8, c9⟩, fz⟩ := end_cells r1
  obtain ⟨l0, l1, l2, l3, l4⟩ := line_cells rl
  generalize hah : acH p = ah at *
  go_wp2_with (first | ((with_reducible refine wp_load_g ?_ rl.range Try.underlying40 rfl (line_info _ _ _ _ _ hl) ?_ ?_); rfl; rfl) | (go_at_call 110; (with_reducible refine (announced k el true m ack p _ hl).mono ?_); rintro en w3 ⟨rfl, hb3⟩; have rl := rl.below hb3 rl.lt; have hB9 := hB9.trans (hb3.mono hB9.size); obtain ⟨l0, l1, l2, l3, l4⟩ := line_cells rl))
  all_goals
    go_ret
    exact du_mk HDU.out hB9
set_option maxRecDepth 100000 in
set_option maxHeartbeats 8000000 in
theorem due_f2 (e : LE) (A B : Option Addr) (c d : Nat) (k : Int) (el : Bool) (m : Nat) (ack : Int) (p : List UInt8) (W : World) (ht : e.ty) (hve : VE e) (hl : p.length = 56) (h1 : (el == ep e.rn e.rc) = true) (h2 : (true == decide (e.want < 0)) = true) (hm : m ≤ 56) (h4 : clr m p = true) (h5 : 4 ≤ m) (h6 : 1048576 < acH p) : Calls Try.prog 109 #[.agg (LEV e A c B d), .agg (LV k el true m ack p)] W (DuP e el true m p W) := by
  obtain ⟨M, hM⟩ : ∃ M : Int, min (acH p : Int) 52 = M := ⟨_, rfl⟩
  have HDU := Lib.hid (show duB e el true m p = false by unfold duB; rw [if_pos rfl, decide_eq_false (by omega : ¬ acH p ≤ 1048576)]; simp)
  have d5 : decide ((4 : Int) ≤ (m : Int)) = true := decide_eq_true (by omega)
  have d6 : decide ((acH p : Int) ≤ 1048576) = false := decide_eq_false (by omega)
  have d6n : decide (acH p ≤ 1048576) = false := decide_eq_false (by omega)
  have hB1 := ((Below.refl W.heap.size W).alloc (Nat.le_refl _) (.cells (LEV e A c B d) 69)).alloc (by simp) (.cells (LV k el true m ack p) 40)
  have r1 := (Row.born W 69 (LEV e A c B d)).alloc (.cells (LV k el true m ack p) 40)
  have rl : Row ((W.alloc (.cells (LEV e A c B d) 69)).alloc (.cells (LV k el true m ack p) 40)) (W.heap.size + 1) 40 (LV k el true m ack p) := by
    have h := Row.born (W.alloc (.cells (LEV e A c B d) 69)) 40 (LV k el true m ack p)
    rwa [show (W.alloc (.cells (LEV e A c B d) 69)).heap.size = W.heap.size + 1 by simp] at h
  obtain ⟨n0, n1⟩ := vl_range (vr_vl hve.vr)
  have hep := fun w => epoch_ref e.rc e.rn ht.r0 ht.r1 n0 n1 w
  have HEP := Lib.hid hep
  clear hep
  generalize hev : ep e.rn e.rc = ev at *
  go_enter Try.func109, Try.ntmps109
  go_upto_region 1 with (fail)
  change Code.wp _ _ _ _ ((W.alloc (.cells (LEV e A c B d) 69)).alloc (.cells (LV k el true m ack p) 40))
  generalize ((W.alloc (.cells (LEV e A c B d) 69)).alloc (.cells (LV k el true m ack p) 40)) = w1 at *
  have hl1 := r1.lt
  have hl2 := rl.lt
  have n1 : (el != ev) = false := by rw [show (el != ev) = !(el == ev) from rfl, h1]; rfl
  have n2 : (true != decide (e.want < 0)) = false := by rw [show (true != decide (e.want < 0)) = !(true == decide (e.want < 0)) from rfl, h2]; rfl
  have d3 : decide ((m : Int) < 0) = false := decide_eq_false (by omega)
  have d4 : decide (56 < (m : Int)) = false := decide_eq_false (by omega)
  refine wp_region_told (n := 70) (fun w' => Below w1.heap.size w1 w') (fun _ _ => True) (by kernel_rfl) (by kernel_rfl) (by rfl) (Below.refl _ _).drew ?_
  repeat (first | (refine walk_pure (v := ?_) (fun _ => trivial) (fun _ => rfl) ?_ ?_; rotate_left; (focus (intro us w9 hS9 hF; clear hF; have r1 := r1.below hS9 hl1; have rl := rl.below hS9 hl2; obtain ⟨⟨c0, c1, c2, c3, c4⟩, ⟨c5, c6, c7, c8, c9⟩, fz⟩ := end_cells r1; obtain ⟨l0, l1, l2, l3, l4⟩ := line_cells rl; clear r1 rl; go_simp; (try with_reducible rfl); done)); simp only [Act.put, List.setIfInBounds_toArray, List.set_cons_zero, List.set_cons_succ, Nat.reduceAdd]) | (refine walk_skip (fun _ => trivial) (fun _ => rfl) ?_; simp only [Act.put, List.setIfInBounds_toArray, List.set_cons_zero, List.set_cons_succ, Nat.reduceAdd]))
  refine walk_fix (v := .bool ev) ?_ ?_; (focus (intro us w9 hS9 hF K hK; clear hF; go_simp; refine (HEP.out w9).mono ?_; rintro en w' ⟨rfl, hbw⟩; exact hK _ (hbw ▸ hS9) trivial)); simp only [Act.put, List.setIfInBounds_toArray, List.set_cons_zero, List.set_cons_succ, Nat.reduceAdd]
  repeat (first | (refine walk_pure (v := ?_) (fun _ => trivial) (fun _ => rfl) ?_ ?_; rotate_left; (focus (intro us w9 hS9 hF; clear hF; have r1 := r1.below hS9 hl1; have rl := rl.below hS9 hl2; obtain ⟨⟨c0, c1, c2, c3, c4⟩, ⟨c5, c6, c7, c8, c9⟩, fz⟩ := end_cells r1; obtain ⟨l0, l1, l2, l3, l4⟩ := line_cells rl; clear r1 rl; go_simp; (try with_reducible rfl); done)); simp only [Act.put, List.setIfInBounds_toArray, List.set_cons_zero, List.set_cons_succ, Nat.reduceAdd]) | (refine walk_skip (fun _ => trivial) (fun _ => rfl) ?_; simp only [Act.put, List.setIfInBounds_toArray, List.set_cons_zero, List.set_cons_succ, Nat.reduceAdd]))
  refine walk_pure (v := .agg (LV k el true m ack p)) (fun _ => trivial) (fun _ => rfl) ?_ ?_; (focus (intro us w9 hS9 hF; exact exec_load_g (rl.below hS9 hl2).range Try.underlying40 rfl (line_info _ _ _ _ _ hl) rfl)); simp only [Act.put, List.setIfInBounds_toArray, List.set_cons_zero, List.set_cons_succ, Nat.reduceAdd]
  refine walk_fix (v := .bool (clr m p)) ?_ ?_; (focus (intro us w9 hS9 hF K hK; clear hF; go_simp; refine (clear0 k el true m ack p hm hl w9).mono ?_; rintro en w' ⟨rfl, hbw⟩; exact hK _ (below_on hS9 hbw) trivial)); simp only [Act.put, List.setIfInBounds_toArray, List.set_cons_zero, List.set_cons_succ, Nat.reduceAdd]
  repeat (first | (refine walk_pure (v := ?_) (fun _ => trivial) (fun _ => rfl) ?_ ?_; rotate_left; (focus (intro us w9 hS9 hF; clear hF; have r1 := r1.below hS9 hl1; have rl := rl.below hS9 hl2; obtain ⟨⟨c0, c1, c2, c3, c4⟩, ⟨c5, c6, c7, c8, c9⟩, fz⟩ := end_cells r1; obtain ⟨l0, l1, l2, l3, l4⟩ := line_cells rl; clear r1 rl; go_simp; (try with_reducible rfl); done)); simp only [Act.put, List.setIfInBounds_toArray, List.set_cons_zero, List.set_cons_succ, Nat.reduceAdd]) | (refine walk_skip (fun _ => trivial) (fun _ => rfl) ?_; simp only [Act.put, List.setIfInBounds_toArray, List.set_cons_zero, List.set_cons_succ, Nat.reduceAdd]))
  refine walk_done fun us w9 hS9 hF => ?_
  clear hF
  have hB9 := hB1.trans (hS9.mono hB1.size)
  have r1 := r1.below hS9 hl1
  have rl := rl.below hS9 hl2
  obtain ⟨⟨c0, c1, c2, c3, c4⟩, ⟨c5, c6, c7, c8, c9⟩, fz⟩ := end_cells r1
  obtain ⟨l0, l1, l2, l3, l4⟩ := line_cells rl
  generalize hah : acH p = ah at *
  go_wp2_with (first | ((with_reducible refine wp_load_g ?_ rl.range Try.underlying40 rfl (line_info _ _ _ _ _ hl) ?_ ?_); rfl; rfl) | (go_at_call 110; (with_reducible refine (announced k el true m ack p _ hl).mono ?_); rintro en w3 ⟨rfl, hb3⟩; have rl := rl.below hb3 rl.lt; have hB9 := hB9.trans (hb3.mono hB9.size); obtain ⟨l0, l1, l2, l3, l4⟩ := line_cells rl))
  all_goals
    go_ret
    exact du_mk HDU.out hB9
set_option maxRecDepth 100000 in
set_option maxHeartbeats 8000000 in
theorem due_f3 (e : LE) (A B : Option Addr) (c d : Nat) (k : Int) (el : Bool) (m : Nat) (ack : Int) (p : List UInt8) (W : World) (ht : e.ty) (hve : VE e) (hl : p.length = 56) (h1 : (el == ep e.rn e.rc) = true) (h2 : (true == decide (e.want < 0)) = true) (hm : m ≤ 56) (h4 : clr m p = true) (h5 : 4 ≤ m) (h6 : acH p ≤ 1048576) : Calls Try.prog 109 #[.agg (LEV e A c B d), .agg (LV k el true m ack p)] W (DuP e el true m p W) := by
  obtain ⟨M, hM⟩ : ∃ M : Int, min (acH p : Int) 52 = M := ⟨_, rfl⟩
  have HDU := Lib.hid (show duB e el true m p = ((m : Int) == 4 + M) by rw [← hM]; unfold duB; rw [h1, h2, h4, decide_eq_true (by omega : (0 : Int) ≤ (m : Int)), decide_eq_true (by omega : (m : Int) ≤ 56), if_pos rfl, decide_eq_true (by omega : (4 : Int) ≤ (m : Int)), decide_eq_true h6]; rfl)
  have d5 : decide ((4 : Int) ≤ (m : Int)) = true := decide_eq_true (by omega)
  have d6 : decide ((acH p : Int) ≤ 1048576) = true := decide_eq_true (by omega)
  have d6n : decide (acH p ≤ 1048576) = true := decide_eq_true (by omega)
  have hw1 : IntKind.i64.wrap (acH p : Int) = (acH p : Int) := by rw [IntKind.wrap_i64]; omega
  have hw2 : IntKind.i64.wrap (4 + (acH p : Int)) = 4 + (acH p : Int) := by rw [IntKind.wrap_i64]; omega
  have hB1 := ((Below.refl W.heap.size W).alloc (Nat.le_refl _) (.cells (LEV e A c B d) 69)).alloc (by simp) (.cells (LV k el true m ack p) 40)
  have r1 := (Row.born W 69 (LEV e A c B d)).alloc (.cells (LV k el true m ack p) 40)
  have rl : Row ((W.alloc (.cells (LEV e A c B d) 69)).alloc (.cells (LV k el true m ack p) 40)) (W.heap.size + 1) 40 (LV k el true m ack p) := by
    have h := Row.born (W.alloc (.cells (LEV e A c B d) 69)) 40 (LV k el true m ack p)
    rwa [show (W.alloc (.cells (LEV e A c B d) 69)).heap.size = W.heap.size + 1 by simp] at h
  obtain ⟨n0, n1⟩ := vl_range (vr_vl hve.vr)
  have hep := fun w => epoch_ref e.rc e.rn ht.r0 ht.r1 n0 n1 w
  have HEP := Lib.hid hep
  clear hep
  generalize hev : ep e.rn e.rc = ev at *
  go_enter Try.func109, Try.ntmps109
  go_upto_region 1 with (fail)
  change Code.wp _ _ _ _ ((W.alloc (.cells (LEV e A c B d) 69)).alloc (.cells (LV k el true m ack p) 40))
  generalize ((W.alloc (.cells (LEV e A c B d) 69)).alloc (.cells (LV k el true m ack p) 40)) = w1 at *
  have hl1 := r1.lt
  have hl2 := rl.lt
  have n1 : (el != ev) = false := by rw [show (el != ev) = !(el == ev) from rfl, h1]; rfl
  have n2 : (true != decide (e.want < 0)) = false := by rw [show (true != decide (e.want < 0)) = !(true == decide (e.want < 0)) from rfl, h2]; rfl
  have d3 : decide ((m : Int) < 0) = false := decide_eq_false (by omega)
  have d4 : decide (56 < (m : Int)) = false := decide_eq_false (by omega)
  refine wp_region_told (n := 70) (fun w' => Below w1.heap.size w1 w') (fun _ _ => True) (by kernel_rfl) (by kernel_rfl) (by rfl) (Below.refl _ _).drew ?_
  repeat (first | (refine walk_pure (v := ?_) (fun _ => trivial) (fun _ => rfl) ?_ ?_; rotate_left; (focus (intro us w9 hS9 hF; clear hF; have r1 := r1.below hS9 hl1; have rl := rl.below hS9 hl2; obtain ⟨⟨c0, c1, c2, c3, c4⟩, ⟨c5, c6, c7, c8, c9⟩, fz⟩ := end_cells r1; obtain ⟨l0, l1, l2, l3, l4⟩ := line_cells rl; clear r1 rl; go_simp; (try with_reducible rfl); done)); simp only [Act.put, List.setIfInBounds_toArray, List.set_cons_zero, List.set_cons_succ, Nat.reduceAdd]) | (refine walk_skip (fun _ => trivial) (fun _ => rfl) ?_; simp only [Act.put, List.setIfInBounds_toArray, List.set_cons_zero, List.set_cons_succ, Nat.reduceAdd]))
  refine walk_fix (v := .bool ev) ?_ ?_; (focus (intro us w9 hS9 hF K hK; clear hF; go_simp; refine (HEP.out w9).mono ?_; rintro en w' ⟨rfl, hbw⟩; exact hK _ (hbw ▸ hS9) trivial)); simp only [Act.put, List.setIfInBounds_toArray, List.set_cons_zero, List.set_cons_succ, Nat.reduceAdd]
  repeat (first | (refine walk_pure (v := ?_) (fun _ => trivial) (fun _ => rfl) ?_ ?_; rotate_left; (focus (intro us w9 hS9 hF; clear hF; have r1 := r1.below hS9 hl1; have rl := rl.below hS9 hl2; obtain ⟨⟨c0, c1, c2, c3, c4⟩, ⟨c5, c6, c7, c8, c9⟩, fz⟩ := end_cells r1; obtain ⟨l0, l1, l2, l3, l4⟩ := line_cells rl; clear r1 rl; go_simp; (try with_reducible rfl); done)); simp only [Act.put, List.setIfInBounds_toArray, List.set_cons_zero, List.set_cons_succ, Nat.reduceAdd]) | (refine walk_skip (fun _ => trivial) (fun _ => rfl) ?_; simp only [Act.put, List.setIfInBounds_toArray, List.set_cons_zero, List.set_cons_succ, Nat.reduceAdd]))
  refine walk_pure (v := .agg (LV k el true m ack p)) (fun _ => trivial) (fun _ => rfl) ?_ ?_; (focus (intro us w9 hS9 hF; exact exec_load_g (rl.below hS9 hl2).range Try.underlying40 rfl (line_info _ _ _ _ _ hl) rfl)); simp only [Act.put, List.setIfInBounds_toArray, List.set_cons_zero, List.set_cons_succ, Nat.reduceAdd]
  refine walk_fix (v := .bool (clr m p)) ?_ ?_; (focus (intro us w9 hS9 hF K hK; clear hF; go_simp; refine (clear0 k el true m ack p hm hl w9).mono ?_; rintro en w' ⟨rfl, hbw⟩; exact hK _ (below_on hS9 hbw) trivial)); simp only [Act.put, List.setIfInBounds_toArray, List.set_cons_zero, List.set_cons_succ, Nat.reduceAdd]
  repeat (first | (refine walk_pure (v := ?_) (fun _ => trivial) (fun _ => rfl) ?_ ?_; rotate_left; (focus (intro us w9 hS9 hF; clear hF; have r1 := r1.below hS9 hl1; have rl := rl.below hS9 hl2; obtain ⟨⟨c0, c1, c2, c3, c4⟩, ⟨c5, c6, c7, c8, c9⟩, fz⟩ := end_cells r1; obtain ⟨l0, l1, l2, l3, l4⟩ := line_cells rl; clear r1 rl; go_simp; (try with_reducible rfl); done)); simp only [Act.put, List.setIfInBounds_toArray, List.set_cons_zero, List.set_cons_succ, Nat.reduceAdd]) | (refine walk_skip (fun _ => trivial) (fun _ => rfl) ?_; simp only [Act.put, List.setIfInBounds_toArray, List.set_cons_zero, List.set_cons_succ, Nat.reduceAdd]))
  refine walk_done fun us w9 hS9 hF => ?_
  clear hF
  have hB9 := hB1.trans (hS9.mono hB1.size)
  have r1 := r1.below hS9 hl1
  have rl := rl.below hS9 hl2
  obtain ⟨⟨c0, c1, c2, c3, c4⟩, ⟨c5, c6, c7, c8, c9⟩, fz⟩ := end_cells r1
  obtain ⟨l0, l1, l2, l3, l4⟩ := line_cells rl
  generalize hah : acH p = ah at *
  go_wp2_with (first | ((with_reducible refine wp_load_g ?_ rl.range Try.underlying40 rfl (line_info _ _ _ _ _ hl) ?_ ?_); rfl; rfl) | (go_at_call 110; (with_reducible refine (announced k el true m ack p _ hl).mono ?_); rintro en w3 ⟨rfl, hb3⟩; have rl := rl.below hb3 rl.lt; have hB9 := hB9.trans (hb3.mono hB9.size); obtain ⟨l0, l1, l2, l3, l4⟩ := line_cells rl))
  all_goals
    go_ret
    exact du_mk (HDU.out.trans (by first | (rw [show M = 52 by omega]; rfl) | (rw [show M = (ah : Int) by omega]; done))) hB9
theorem due (e : LE) (A B : Option Addr) (c d : Nat) (k : Int) (el fl : Bool) (len ack : Int) (p : List UInt8) (W : World) (ht : e.ty) (hve : VE e) (hl : p.length = 56) : Calls Try.prog 109 #[.agg (LEV e A c B d), .agg (LV k el fl len ack p)] W (DuP e el fl len p W) := by
  cases h1 : (el == ep e.rn e.rc)
  · exact due_a e A B c d k el fl len ack p W ht hve hl h1
  cases h2 : (fl == decide (e.want < 0))
  · exact due_b e A B c d k el fl len ack p W ht hve hl h1 h2
  by_cases h3 : len < 0
  · exact due_c e A B c d k el fl len ack p W ht hve hl h1 h2 h3
  by_cases h4 : 56 < len
  · exact due_d e A B c d k el fl len ack p W ht hve hl h1 h2 h4
  obtain ⟨m, rfl⟩ : ∃ m : Nat, len = m := ⟨len.toNat, by omega⟩
  have hm : m ≤ 56 := by omega
  cases hc : clr m p
  · exact due_n e A B c d k el fl m ack p W ht hve hl h1 h2 hm hc
  cases fl
  · exact due_s e A B c d k el m ack p W ht hve hl h1 h2 hm hc
  by_cases h5 : m < 4
  · exact due_f1 e A B c d k el m ack p W ht hve hl h1 h2 hm hc h5
  by_cases h6 : acH p ≤ 1048576
  · exact due_f3 e A B c d k el m ack p W ht hve hl h1 h2 hm hc (by omega) h6
  · exact due_f2 e A B c d k el m ack p W ht hve hl h1 h2 hm hc (by omega) (by omega)
end
end Go.Proofs.Ythjkhambmgepdaa
