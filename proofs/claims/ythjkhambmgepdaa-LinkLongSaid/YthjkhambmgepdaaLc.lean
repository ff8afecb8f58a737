/- Links: Pending, Idle, New, Clone, end. -/
import Derived.Test.YthjkhambmgepdaaLb
import Derived.Test.YthjkhambmgepdaaOps
namespace Go.Proofs.Ythjkhambmgepdaa
open Go.RowKit
set_option linter.unusedVariables false
theorem info69 : (Try.prog.info? 69).map (·.size) = some 10 := by kernel_rfl
theorem lev_one (e : LE) (A : Option Addr) (c : Nat) (B : Option Addr) (d : Nat) : (LEV e A c B d).all (·.oneCell') = true := by simp [LEV, Value.oneCell']
theorem lev_info (e : LE) (A : Option Addr) (c : Nat) (B : Option Addr) (d : Nat) : (Try.prog.info? 69).map (·.size) = some (LEV e A c B d).size := info69
def pendE (e : LE) : Int := if vE e = true then (e.q.length : Int) else 0
def idleE (e : LE) : Bool := vE e && decide (e.q.length = 0) && (e.want == -1)
theorem valid_is {e : LE} {A B : Option Addr} {c d : Nat} {W : World} {b : Bool} (hv : vE e = b) (ht : e.ty) (hH : Held W e A c B d) : Calls Try.prog 101 #[.agg (LEV e A c B d)] W (fun en W' => en = .returned (.bool b) ∧ Below W.heap.size W W') :=
  (valid_any e A B c d W ht hH).mono fun en W' h => by rw [← hv]; exact h
set_option maxRecDepth 100000 in
set_option maxHeartbeats 4000000 in
theorem pend_no (e : LE) (A B : Option Addr) (c d : Nat) (W : World) (ht : e.ty) (hH : Held W e A c B d) (hv : vE e = false) : Calls Try.prog 43 #[.agg (LEV e A c B d)] W (fun en W' => en = .returned (.int .i64 0) ∧ Below W.heap.size W W') := by
  have HV := Lib.hid hv
  clear hv
  have hB1 := (Below.refl W.heap.size W).alloc (Nat.le_refl _) (.cells (LEV e A c B d) 69)
  have r1 := Row.born W 69 (LEV e A c B d)
  have hl1 := r1.lt
  go_enter Try.func43, Try.ntmps43
  go_upto_region 1 with (fail)
  generalize W.alloc (.cells (LEV e A c B d) 69) = w1 at *
  have hH1 := hH.below hB1
  go_wp2_with (first | ((with_reducible refine wp_load_g ?_ r1.range Try.underlying69 rfl (lev_info _ _ _ _ _) ?_ ?_); rfl; rfl) | (go_at_call 101; (with_reducible refine (valid_is HV.out ht hH1).mono ?_); rintro en w2 ⟨rfl, hb⟩))
  go_ret
  exact ⟨rfl, hB1.trans (hb.mono hB1.size)⟩
set_option maxRecDepth 100000 in
set_option maxHeartbeats 4000000 in
theorem pend_yes (e : LE) (A B : Option Addr) (c d : Nat) (W : World) (ht : e.ty) (hH : Held W e A c B d) (hv : vE e = true) : Calls Try.prog 43 #[.agg (LEV e A c B d)] W (fun en W' => en = .returned (.int .i64 e.q.length) ∧ Below W.heap.size W W') := by
  have HV := Lib.hid hv
  clear hv
  have hB1 := (Below.refl W.heap.size W).alloc (Nat.le_refl _) (.cells (LEV e A c B d) 69)
  have r1 := Row.born W 69 (LEV e A c B d)
  have hl1 := r1.lt
  go_enter Try.func43, Try.ntmps43
  go_upto_region 1 with (fail)
  generalize W.alloc (.cells (LEV e A c B d) 69) = w1 at *
  have hH1 := hH.below hB1
  go_upto_region 3 with (first | ((with_reducible refine wp_load_g ?_ r1.range Try.underlying69 rfl (lev_info _ _ _ _ _) ?_ ?_); rfl; rfl) | (go_at_call 101; (with_reducible refine (valid_is HV.out ht hH1).mono ?_); rintro en w2 ⟨rfl, hb⟩))
  have r1 := r1.below hb hl1
  have hB2 := hB1.trans (hb.mono hB1.size)
  obtain ⟨-, ⟨c5, c6, c7, c8, c9⟩, -⟩ := end_cells r1
  go_wp2
  go_ret
  exact ⟨rfl, hB2⟩
theorem pending (e : LE) (A B : Option Addr) (c d : Nat) (W : World) (ht : e.ty) (hH : Held W e A c B d) : Calls Try.prog 43 #[.agg (LEV e A c B d)] W (fun en W' => en = .returned (.int .i64 (pendE e)) ∧ Below W.heap.size W W') := by
  cases hv : vE e
  · rw [show pendE e = 0 by simp [pendE, hv]]
    exact pend_no e A B c d W ht hH hv
  · rw [show pendE e = (e.q.length : Int) by simp [pendE, hv]]
    exact pend_yes e A B c d W ht hH hv
def IdP (e : LE) (W : World) (en : Ending) (W' : World) : Prop := en = .returned (.bool (idleE e)) ∧ Below W.heap.size W W'
theorem id_mk {e : LE} {b : Bool} {W W' : World} (h : idleE e = b) (hb : Below W.heap.size W W') : IdP e W (.returned (.bool b)) W' := ⟨by rw [h], hb⟩
set_option maxRecDepth 100000 in
set_option maxHeartbeats 4000000 in
theorem idle_v (e : LE) (A B : Option Addr) (c d : Nat) (W : World) (ht : e.ty) (hH : Held W e A c B d) (hv : vE e = false) : Calls Try.prog 54 #[.agg (LEV e A c B d)] W (IdP e W) := by
  have HI := Lib.hid (show idleE e = false by simp [idleE, hv])
  have HV := Lib.hid hv
  clear hv
  have hB1 := (Below.refl W.heap.size W).alloc (Nat.le_refl _) (.cells (LEV e A c B d) 69)
  have r1 := Row.born W 69 (LEV e A c B d)
  have hl1 := r1.lt
  go_enter Try.func54, Try.ntmps54
  go_upto_region 1 with (fail)
  generalize W.alloc (.cells (LEV e A c B d) 69) = w1 at *
  have hH1 := hH.below hB1
  obtain ⟨-, ⟨c5, c6, c7, c8, c9⟩, -⟩ := end_cells r1
  go_wp2_with (first | ((with_reducible refine wp_load_g ?_ r1.range Try.underlying69 rfl (lev_info _ _ _ _ _) ?_ ?_); rfl; rfl) | (go_at_call 101; (with_reducible refine (valid_is HV.out ht hH1).mono ?_); rintro en w2 ⟨rfl, hb⟩; have r2 := r1.below hb hl1; obtain ⟨-, ⟨d5, d6, d7, d8, d9⟩, -⟩ := end_cells r2))
  go_ret
  exact id_mk HI.out (hB1.trans (hb.mono hB1.size))
set_option maxRecDepth 100000 in
set_option maxHeartbeats 4000000 in
theorem idle_q (e : LE) (A B : Option Addr) (c d : Nat) (W : World) (ht : e.ty) (hH : Held W e A c B d) (hv : vE e = true) (hq : e.q.length ≠ 0) : Calls Try.prog 54 #[.agg (LEV e A c B d)] W (IdP e W) := by
  have HI := Lib.hid (show idleE e = false by simp [idleE, hq])
  have HV := Lib.hid hv
  have hq1 : ((e.q.length : Int) == 0) = false := by rw [beq_eq_false_iff_ne]; omega
  have hq2 : (e.q.length == 0) = false := by simpa using hq
  clear hv hq
  have hB1 := (Below.refl W.heap.size W).alloc (Nat.le_refl _) (.cells (LEV e A c B d) 69)
  have r1 := Row.born W 69 (LEV e A c B d)
  have hl1 := r1.lt
  go_enter Try.func54, Try.ntmps54
  go_upto_region 1 with (fail)
  generalize W.alloc (.cells (LEV e A c B d) 69) = w1 at *
  have hH1 := hH.below hB1
  obtain ⟨-, ⟨c5, c6, c7, c8, c9⟩, -⟩ := end_cells r1
  go_wp2_with (first | ((with_reducible refine wp_load_g ?_ r1.range Try.underlying69 rfl (lev_info _ _ _ _ _) ?_ ?_); rfl; rfl) | (go_at_call 101; (with_reducible refine (valid_is HV.out ht hH1).mono ?_); rintro en w2 ⟨rfl, hb⟩; have r2 := r1.below hb hl1; obtain ⟨-, ⟨d5, d6, d7, d8, d9⟩, -⟩ := end_cells r2))
  go_ret
  exact id_mk HI.out (hB1.trans (hb.mono hB1.size))
set_option maxRecDepth 100000 in
set_option maxHeartbeats 4000000 in
theorem idle_w (e : LE) (A B : Option Addr) (c d : Nat) (W : World) (ht : e.ty) (hH : Held W e A c B d) (hv : vE e = true) (hq : e.q.length = 0) (hw : (e.want == -1) = false) : Calls Try.prog 54 #[.agg (LEV e A c B d)] W (IdP e W) := by
  have HI := Lib.hid (show idleE e = false by simp [idleE, hw])
  have HV := Lib.hid hv
  have hq1 : ((e.q.length : Int) == 0) = true := by rw [beq_iff_eq]; omega
  have hq2 : (e.q.length == 0) = true := by simpa using hq
  clear hv hq
  have hB1 := (Below.refl W.heap.size W).alloc (Nat.le_refl _) (.cells (LEV e A c B d) 69)
  have r1 := Row.born W 69 (LEV e A c B d)
  have hl1 := r1.lt
  go_enter Try.func54, Try.ntmps54
  go_upto_region 1 with (fail)
  generalize W.alloc (.cells (LEV e A c B d) 69) = w1 at *
  have hH1 := hH.below hB1
  obtain ⟨-, ⟨c5, c6, c7, c8, c9⟩, -⟩ := end_cells r1
  go_wp2_with (first | ((with_reducible refine wp_load_g ?_ r1.range Try.underlying69 rfl (lev_info _ _ _ _ _) ?_ ?_); rfl; rfl) | (go_at_call 101; (with_reducible refine (valid_is HV.out ht hH1).mono ?_); rintro en w2 ⟨rfl, hb⟩; have r2 := r1.below hb hl1; obtain ⟨-, ⟨d5, d6, d7, d8, d9⟩, -⟩ := end_cells r2))
  go_ret
  exact id_mk HI.out (hB1.trans (hb.mono hB1.size))
set_option maxRecDepth 100000 in
set_option maxHeartbeats 4000000 in
theorem idle_y (e : LE) (A B : Option Addr) (c d : Nat) (W : World) (ht : e.ty) (hH : Held W e A c B d) (hv : vE e = true) (hq : e.q.length = 0) (hw : (e.want == -1) = true) : Calls Try.prog 54 #[.agg (LEV e A c B d)] W (IdP e W) := by
  have HI := Lib.hid (show idleE e = true by simp [idleE, hv, hq, hw])
  have HV := Lib.hid hv
  have hq1 : ((e.q.length : Int) == 0) = true := by rw [beq_iff_eq]; omega
  have hq2 : (e.q.length == 0) = true := by simpa using hq
  clear hv hq
  have hB1 := (Below.refl W.heap.size W).alloc (Nat.le_refl _) (.cells (LEV e A c B d) 69)
  have r1 := Row.born W 69 (LEV e A c B d)
  have hl1 := r1.lt
  go_enter Try.func54, Try.ntmps54
  go_upto_region 1 with (fail)
  generalize W.alloc (.cells (LEV e A c B d) 69) = w1 at *
  have hH1 := hH.below hB1
  obtain ⟨-, ⟨c5, c6, c7, c8, c9⟩, -⟩ := end_cells r1
  go_wp2_with (first | ((with_reducible refine wp_load_g ?_ r1.range Try.underlying69 rfl (lev_info _ _ _ _ _) ?_ ?_); rfl; rfl) | (go_at_call 101; (with_reducible refine (valid_is HV.out ht hH1).mono ?_); rintro en w2 ⟨rfl, hb⟩; have r2 := r1.below hb hl1; obtain ⟨-, ⟨d5, d6, d7, d8, d9⟩, -⟩ := end_cells r2))
  go_ret
  exact id_mk HI.out (hB1.trans (hb.mono hB1.size))
theorem idle (e : LE) (A B : Option Addr) (c d : Nat) (W : World) (ht : e.ty) (hH : Held W e A c B d) : Calls Try.prog 54 #[.agg (LEV e A c B d)] W (IdP e W) := by
  cases hv : vE e
  · exact idle_v e A B c d W ht hH hv
  · by_cases hq : e.q.length = 0
    · cases hw : e.want == -1
      · exact idle_w e A B c d W ht hH hv hq hw
      · exact idle_y e A B c d W ht hH hv hq hw
    · exact idle_q e A B c d W ht hH hv hq
end Go.Proofs.Ythjkhambmgepdaa
