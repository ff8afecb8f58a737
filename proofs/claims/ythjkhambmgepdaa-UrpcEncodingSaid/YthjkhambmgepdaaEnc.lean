/- The encoding of a line: EncodeLine. -/
import Derived.Test.YthjkhambmgepdaaPk
import Derived.Test.YthjkhambmgepdaaOps
import Derived.Test.YthjkhambmgepdaaEqn
namespace Go.Proofs.Ythjkhambmgepdaa
open Go.RowKit
set_option linter.unusedVariables false
def EncNo (E : Int) (W : World) (e : Ending) (W' : World) : Prop := e = .returned (.tuple #[.slice none 0 0, .int .i64 E]) ∧ Below W.heap.size W W'
def EncPost (k : Int) (e f : Bool) (n a : Int) (p : List UInt8) (W : World) (e' : Ending) (W' : World) : Prop :=
  (lnE k e f n p ≠ 0 ∧ e' = .returned (.tuple #[.slice none 0 0, .int .i64 (lnE k e f n p)]) ∨ lnE k e f n p = 0 ∧ ∃ g, W.heap.size ≤ g ∧ e' = .returned (.tuple #[.slice (some ⟨g, 0, none⟩) 64 64, .int .i64 0]) ∧ Row W' g 5 ((lnB k e f n a p).map bv).toArray) ∧ Below W.heap.size W W'
theorem encPost_no {k : Int} {e f : Bool} {n a : Int} {p : List UInt8} {W W' : World} (h : lnE k e f n p = 54) (hB : Below W.heap.size W W') : EncPost k e f n a p W (.returned (.tuple #[.slice none 0 0, .int .i64 54])) W' := ⟨.inl (by rw [h]; exact ⟨by decide, rfl⟩), hB⟩
theorem encPost_yes {k : Int} {e f : Bool} {n a : Int} {p : List UInt8} {W W' : World} {g : Nat} (h : lnE k e f n p = 0) (hg : W.heap.size ≤ g) (hr : Row W' g 5 ((lnB k e f n a p).map bv).toArray) (hB : Below W.heap.size W W') : EncPost k e f n a p W (.returned (.tuple #[.slice (some ⟨g, 0, none⟩) 64 64, .int .i64 0])) W' := ⟨.inr ⟨h, g, hg, rfl, hr⟩, hB⟩
def cpU (m : Nat) (p : List UInt8) : List UInt8 := p.take m ++ z56.drop m
theorem cpU_len {m : Nat} {p : List UInt8} (hp : p.length = 56) (hm : m ≤ 56) : (cpU m p).length = 56 := by simp [cpU, z56, hp]; omega
theorem copy0 {m : Nat} {p : List UInt8} (hp : p.length = 56) (hm : m ≤ 56) : ((z56.map bv).take 0 ++ ((p.take m).map bv ++ (z56.map bv).drop (0 + ((p.take m).map bv).length))).toArray = ((cpU m p).map bv).toArray := by
  have e : 0 + ((p.take m).map bv).length = m := by simp [hp]; omega
  rw [e, List.take_zero, List.nil_append, cpU, List.map_append, List.map_drop]
theorem clr_z {l : List UInt8} (h : l.all (· == 0) = true) : l = List.replicate l.length 0 := by
  rw [List.eq_replicate_iff]
  refine ⟨rfl, fun b hb => ?_⟩
  have := List.all_eq_true.1 h b hb
  simpa using this
theorem cpU_eq {m : Nat} {p : List UInt8} (hp : p.length = 56) (hm : m ≤ 56) : (cpU m p == p) = clr (m : Int) p := by
  have e1 : p = p.take m ++ p.drop m := (List.take_append_drop m p).symm
  have e2 : z56.drop m = List.replicate (56 - m) 0 := by unfold z56; rw [List.drop_replicate]
  rw [Bool.eq_iff_iff, beq_iff_eq]
  unfold cpU clr
  rw [Int.toNat_natCast, e2]
  constructor
  · intro h
    have h' : p.take m ++ List.replicate (56 - m) 0 = p.take m ++ p.drop m := h.trans e1
    rw [← List.append_cancel_left h']
    simp
  · intro h
    have h2 := clr_z h
    rw [List.length_drop, hp] at h2
    rw [← h2, ← e1]
theorem clr_two {m : Nat} {e f : Bool} {a : Int} {p : List UInt8} (hp : p.length = 56) (hc : clr (m : Int) p = true) (h : (!((m : Int) == 0) || f || e) = false) : (2 == (2 : Int) && (e == false && (f == false && ((m : Int) == 0 && (a == a && p == z56))))) = true := by
  simp only [Bool.or_eq_false_iff, Bool.not_eq_false', beq_iff_eq] at h
  obtain ⟨⟨h1, rfl⟩, rfl⟩ := h
  have hm : m = 0 := by omega
  subst hm
  unfold clr at hc
  have h2 := clr_z hc
  simp only [Int.toNat_natCast, List.drop_zero, hp] at h2
  have h3 : p = z56 := h2
  simp [h3]
theorem clr_two_no {m : Nat} {e f : Bool} {a : Int} {p : List UInt8} (h : (!((m : Int) == 0) || f || e) = true) : (2 == (2 : Int) && (e == false && (f == false && ((m : Int) == 0 && (a == a && p == z56))))) = false := by
  cases e <;> cases f <;> cases hm : ((m : Int) == 0) <;> simp_all
theorem pay_cell {k : Int} {e f : Bool} {n a : Int} {p : List UInt8} {m j : Nat} {v : Value} (hv : ((p.take m).map bv)[j]? = some v) : (LV k e f n a p)[5 + j]? = some v := by
  unfold LV
  rw [List.getElem?_toArray, Nat.add_comm]
  rw [List.map_take, List.getElem?_take] at hv
  split at hv
  · simpa using hv
  · cases hv
theorem info38 : (Try.prog.info? 38).map (·.size) = some 56 := by kernel_rfl
theorem guard38 : Try.prog.eqGuardType Try.prog.depth 38 = false := by kernel_rfl
theorem guard40 : Try.prog.eqGuardType Try.prog.depth 40 = false := by kernel_rfl
theorem line_pay {w : World} {g : Nat} {t : TypeId} {k : Int} {e f : Bool} {n a : Int} {p : List UInt8} (h : Row w g t (LV k e f n a p)) : w.rangeAt g 5 (p.map bv).toArray.toList := by
  intro j v hv
  rw [h.cell (5 + j)]
  unfold LV
  rw [List.getElem?_toArray, Nat.add_comm]
  simpa using hv
set_option maxRecDepth 100000 in
set_option maxHeartbeats 4000000 in
theorem enc_bad30 (k : Int) (e f : Bool) (n a : Int) (p : List UInt8) (h : lnOk1 k n = false) (W : World) : Calls Try.prog 30 #[.agg (LV k e f n a p)] W (EncNo 6 W) := by
  have hc : (k ≠ 1 ∧ k ≠ 2) ∨ ((k = 1 ∨ k = 2) ∧ (n < 0 ∨ 56 < n)) := by
    simp only [lnOk1, Bool.and_eq_false_iff, Bool.or_eq_false_iff, beq_eq_false_iff_ne, decide_eq_false_iff_not] at h
    omega
  clear h
  rcases hc with ⟨h1, h2⟩ | ⟨rfl | rfl, h3 | h3⟩
  · skip
    have hB := (Below.refl W.heap.size W).alloc (Nat.le_refl _) (.cells (LV k e f n a p) 40)
    have r1 := Row.born W 40 (LV k e f n a p)
    go_enter Try.func30, Try.ntmps30
    go_upto_region 1 with (fail)
    generalize W.alloc (.cells (LV k e f n a p) 40) = w1 at *
    have hl1 := r1.lt
    obtain ⟨c0, c1, c2, c3, c4⟩ := line_cells r1
    have b1 : (k == 1) = false := by simpa using h1
    have b2 : (k == 2) = false := by simpa using h2
    go_wp2
    exact bodyPost_ret (v := .tuple #[.slice none 0 0, .int .i64 6]) (by simp [results, Try.results30, go_sem]) rfl ⟨rfl, hB⟩
  · skip
    have hB := (Below.refl W.heap.size W).alloc (Nat.le_refl _) (.cells (LV 1 e f n a p) 40)
    have r1 := Row.born W 40 (LV 1 e f n a p)
    go_enter Try.func30, Try.ntmps30
    go_upto_region 1 with (fail)
    generalize W.alloc (.cells (LV 1 e f n a p) 40) = w1 at *
    have hl1 := r1.lt
    obtain ⟨c0, c1, c2, c3, c4⟩ := line_cells r1
    have b3 : decide (n < 0) = true := by simpa using h3
    go_wp2
    exact bodyPost_ret (v := .tuple #[.slice none 0 0, .int .i64 6]) (by simp [results, Try.results30, go_sem]) rfl ⟨rfl, hB⟩
  · skip
    have hB := (Below.refl W.heap.size W).alloc (Nat.le_refl _) (.cells (LV 1 e f n a p) 40)
    have r1 := Row.born W 40 (LV 1 e f n a p)
    go_enter Try.func30, Try.ntmps30
    go_upto_region 1 with (fail)
    generalize W.alloc (.cells (LV 1 e f n a p) 40) = w1 at *
    have hl1 := r1.lt
    obtain ⟨c0, c1, c2, c3, c4⟩ := line_cells r1
    have b3 : decide (n < 0) = false := by simp; omega
    have b4 : decide (56 < n) = true := by simpa using h3
    go_wp2
    exact bodyPost_ret (v := .tuple #[.slice none 0 0, .int .i64 6]) (by simp [results, Try.results30, go_sem]) rfl ⟨rfl, hB⟩
  · skip
    have hB := (Below.refl W.heap.size W).alloc (Nat.le_refl _) (.cells (LV 2 e f n a p) 40)
    have r1 := Row.born W 40 (LV 2 e f n a p)
    go_enter Try.func30, Try.ntmps30
    go_upto_region 1 with (fail)
    generalize W.alloc (.cells (LV 2 e f n a p) 40) = w1 at *
    have hl1 := r1.lt
    obtain ⟨c0, c1, c2, c3, c4⟩ := line_cells r1
    have b3 : decide (n < 0) = true := by simpa using h3
    go_wp2
    exact bodyPost_ret (v := .tuple #[.slice none 0 0, .int .i64 6]) (by simp [results, Try.results30, go_sem]) rfl ⟨rfl, hB⟩
  · skip
    have hB := (Below.refl W.heap.size W).alloc (Nat.le_refl _) (.cells (LV 2 e f n a p) 40)
    have r1 := Row.born W 40 (LV 2 e f n a p)
    go_enter Try.func30, Try.ntmps30
    go_upto_region 1 with (fail)
    generalize W.alloc (.cells (LV 2 e f n a p) 40) = w1 at *
    have hl1 := r1.lt
    obtain ⟨c0, c1, c2, c3, c4⟩ := line_cells r1
    have b3 : decide (n < 0) = false := by simp; omega
    have b4 : decide (56 < n) = true := by simpa using h3
    go_wp2
    exact bodyPost_ret (v := .tuple #[.slice none 0 0, .int .i64 6]) (by simp [results, Try.results30, go_sem]) rfl ⟨rfl, hB⟩
set_option maxRecDepth 100000 in
set_option maxHeartbeats 4000000 in
theorem enc_ok1 (e f : Bool) (m : Nat) (a : Int) (p : List UInt8) (hm : m ≤ 56) (a0 : 0 ≤ a) (a1 : a < 65536) (hp : p.length = 56) (W : World) : Calls Try.prog 30 #[.agg (LV 1 e f m a p)] W (EncPost 1 e f m a p W) := by
  have hB := (Below.refl W.heap.size W).alloc (Nat.le_refl _) (.cells (LV 1 e f m a p) 40)
  have r1 := Row.born W 40 (LV 1 e f m a p)
  go_enter Try.func30, Try.ntmps30
  go_upto_region 1 with (fail)
  generalize W.alloc (.cells (LV 1 e f m a p) 40) = w1 at *
  have hl1 := r1.lt
  obtain ⟨c0, c1, c2, c3, c4⟩ := line_cells r1
  have b3 : decide ((m : Int) < 0) = false := by simp
  have b4 : decide (56 < (m : Int)) = false := by simp; omega
  have b4' : decide (56 < m) = false := by simp; omega
  have hmi : (m : Int) ≤ 56 := by omega
  have hm0 : 0 ≤ (m : Int) := by omega
  go_upto_region 4 with (fail)
  have q4 := Row.born w1 38 (z56.map bv).toArray
  have r1 := r1.alloc (.cells (z56.map bv).toArray 38)
  have hB := hB.alloc hB.size (.cells (z56.map bv).toArray 38)
  have q4 : Row (w1.alloc _) w1.heap.size 38 _ := q4
  generalize hw2 : w1.alloc (.cells (z56.map bv).toArray 38) = w2 at *
  have hw2' : w1.alloc (.cells #[.int .u8 0, .int .u8 0, .int .u8 0, .int .u8 0, .int .u8 0, .int .u8 0, .int .u8 0, .int .u8 0, .int .u8 0, .int .u8 0, .int .u8 0, .int .u8 0, .int .u8 0, .int .u8 0, .int .u8 0, .int .u8 0, .int .u8 0, .int .u8 0, .int .u8 0, .int .u8 0, .int .u8 0, .int .u8 0, .int .u8 0, .int .u8 0, .int .u8 0, .int .u8 0, .int .u8 0, .int .u8 0, .int .u8 0, .int .u8 0, .int .u8 0, .int .u8 0, .int .u8 0, .int .u8 0, .int .u8 0, .int .u8 0, .int .u8 0, .int .u8 0, .int .u8 0, .int .u8 0, .int .u8 0, .int .u8 0, .int .u8 0, .int .u8 0, .int .u8 0, .int .u8 0, .int .u8 0, .int .u8 0, .int .u8 0, .int .u8 0, .int .u8 0, .int .u8 0, .int .u8 0, .int .u8 0, .int .u8 0, .int .u8 0] 38) = w2 := hw2
  rw [hw2']
  generalize w1.heap.size = g4 at *
  clear hw2 hw2' c0 c1 c2 c3 c4
  obtain ⟨c0, c1, c2, c3, c4⟩ := line_cells r1
  have hlg := q4.lt
  have hl1 := r1.lt
  refine wp_region_tailN (n := 47) 5 (fun w' => Below w2.heap.size w2 w') (fun w1 w2 => Below w1.heap.size w1 w2) (by kernel_rfl) (by kernel_rfl) (by decide) (by rfl) (Below.refl _ _).drew ?_
  simp only [List.take_succ_cons, List.take_zero, List.drop_succ_cons, List.drop_zero]
  refine tail_pure (fun w => Below.refl _ w) (v := .slice (some ⟨g4, 0, none⟩) 56 56) (fun _ => rfl) ?_ ?_; (focus (intro us w9 hS9 hF; clear hF; have k3 := (hS9.cell (p := ⟨W.heap.size, 3, none⟩) hl1).trans c3; clear hS9; go_simp; (try with_reducible rfl); done)); simp only [Act.put, List.setIfInBounds_toArray, List.set_cons_zero, List.set_cons_succ, Nat.reduceAdd]
  refine tail_pure (fun w => Below.refl _ w) (v := .pointer (some ⟨W.heap.size, 5, none⟩)) (fun _ => rfl) ?_ ?_; (focus (intro us w9 hS9 hF; clear hF; have k3 := (hS9.cell (p := ⟨W.heap.size, 3, none⟩) hl1).trans c3; clear hS9; go_simp; (try with_reducible rfl); done)); simp only [Act.put, List.setIfInBounds_toArray, List.set_cons_zero, List.set_cons_succ, Nat.reduceAdd]
  refine tail_pure (fun w => Below.refl _ w) (v := .pointer (some ⟨W.heap.size, 3, none⟩)) (fun _ => rfl) ?_ ?_; (focus (intro us w9 hS9 hF; clear hF; have k3 := (hS9.cell (p := ⟨W.heap.size, 3, none⟩) hl1).trans c3; clear hS9; go_simp; (try with_reducible rfl); done)); simp only [Act.put, List.setIfInBounds_toArray, List.set_cons_zero, List.set_cons_succ, Nat.reduceAdd]
  refine tail_pure (fun w => Below.refl _ w) (v := .int .i64 (m : Int)) (fun _ => rfl) ?_ ?_; (focus (intro us w9 hS9 hF; clear hF; have k3 := (hS9.cell (p := ⟨W.heap.size, 3, none⟩) hl1).trans c3; clear hS9; go_simp; (try with_reducible rfl); done)); simp only [Act.put, List.setIfInBounds_toArray, List.set_cons_zero, List.set_cons_succ, Nat.reduceAdd]
  refine tail_pure (fun w => Below.refl _ w) (v := .slice (some ⟨W.heap.size, 5, none⟩) m 56) (fun _ => rfl) ?_ ?_; (focus (intro us w9 hS9 hF; clear hF; have k3 := (hS9.cell (p := ⟨W.heap.size, 3, none⟩) hl1).trans c3; clear hS9; go_simp; (try with_reducible rfl); done)); simp only [Act.put, List.setIfInBounds_toArray, List.set_cons_zero, List.set_cons_succ, Nat.reduceAdd]
  refine tail_done fun us w6 hS6 hF => ?_
  clear hF
  have q6 := q4.below hS6 hlg
  have r6 := r1.below hS6 hl1
  have hB := hB.trans (hS6.mono hB.size)
  clear hS6 q4 r1 c0 c1 c2 c3 c4
  refine wp_row_copy (P := Try.prog) (off := 0) (dCap := 56) (sCap := 56) (cs := (p.take m).map bv) q6 Try.underlying44 info_u8s (by rw [List.length_map, List.length_take, hp]) (fun _ => ⟨rfl, _, rfl, fun j v hv => ?_⟩) (by simp [z56, hp, Nat.min_le_right]) (bv_one _) rfl rfl ?_
  · rw [Addr.add_mid, r6.cell (5 + j)]
    exact pay_cell hv
  intro w7 u7 q7
  rw [copy0 hp hm] at q7
  have r7 := r6.upd u7 (by omega)
  have hB := Upd.below hB u7 (by omega)
  clear q6 u7 r6
  have hUl := cpU_len (p := p) hp hm
  have hUe := cpU_eq hp hm
  have hpay := line_pay r7
  have hUs : ((cpU m p).map bv).toArray.size = 56 := by simp [hUl]
  have hps : (p.map bv).toArray.size = 56 := by simp [hp]
  generalize cpU m p = U at *
  obtain ⟨c0, c1, c2, c3, c4⟩ := line_cells r7
  cases hcl : clr m p
  · have hU : (U == p) = false := hUe.trans hcl
    go_wp2_with (first | ((with_reducible refine wp_load_g ?_ q7.range Try.underlying38 rfl (by rw [hUs]; exact info38) ?_ ?_); rfl; rfl) | ((with_reducible refine wp_load_g ?_ hpay Try.underlying38 rfl (by rw [hps]; exact info38) ?_ ?_); rfl; rfl) | ((with_reducible refine wp_load_g ?_ r7.range Try.underlying40 rfl (line_info _ _ _ _ _ hp) ?_ ?_); rfl; rfl) | ((with_reducible refine wp_neq_g ?_ guard38 (eq_pay _ 9998 _ p hUl hp) ?_ ?_ ?_); rfl; rfl; rfl))
    exact bodyPost_ret (v := .tuple #[.slice none 0 0, .int .i64 54]) (by simp [results, Try.results30, go_sem]) rfl (encPost_no (by simp [lnE, lnOk1, lnOk2, hcl, hmi]) hB)
  · have hU : (U == p) = true := hUe.trans hcl
    have HE := Lib.hid (show lnE 1 e f m p = 0 by simp [lnE, lnOk1, lnOk2, hcl, hmi])
    clear hcl hUe
    go_upto_region 7 with (first | ((with_reducible refine wp_load_g ?_ q7.range Try.underlying38 rfl (by rw [hUs]; exact info38) ?_ ?_); rfl; rfl) | ((with_reducible refine wp_load_g ?_ hpay Try.underlying38 rfl (by rw [hps]; exact info38) ?_ ?_); rfl; rfl) | ((with_reducible refine wp_load_g ?_ r7.range Try.underlying40 rfl (line_info _ _ _ _ _ hp) ?_ ?_); rfl; rfl) | ((with_reducible refine wp_neq_g ?_ guard38 (eq_pay _ 9998 _ p hUl hp) ?_ ?_ ?_); rfl; rfl; rfl))
    go_wp2_with (first | ((with_reducible refine wp_load_g ?_ r7.range Try.underlying40 rfl (line_info _ _ _ _ _ hp) ?_ ?_); rfl; rfl) | (go_at_call 94; refine (pack 1 e f m a p (by omega) (by omega) (by omega) a0 a1 hp _).mono ?_; rintro e' w8 ⟨g, hg, rfl, hr, hb⟩))
    exact bodyPost_ret (v := .tuple #[.slice (some ⟨g, 0, none⟩) 64 64, .int .i64 0]) (by simp [results, Try.results30, go_sem]) rfl (encPost_yes HE.out (Nat.le_trans hB.size hg) hr (hB.trans (hb.mono hB.size)))
set_option maxRecDepth 100000 in
set_option maxHeartbeats 4000000 in
theorem enc_ok2 (e f : Bool) (m : Nat) (a : Int) (p : List UInt8) (hm : m ≤ 56) (a0 : 0 ≤ a) (a1 : a < 65536) (hp : p.length = 56) (W : World) : Calls Try.prog 30 #[.agg (LV 2 e f m a p)] W (EncPost 2 e f m a p W) := by
  have hB := (Below.refl W.heap.size W).alloc (Nat.le_refl _) (.cells (LV 2 e f m a p) 40)
  have r1 := Row.born W 40 (LV 2 e f m a p)
  go_enter Try.func30, Try.ntmps30
  go_upto_region 1 with (fail)
  generalize W.alloc (.cells (LV 2 e f m a p) 40) = w1 at *
  have hl1 := r1.lt
  obtain ⟨c0, c1, c2, c3, c4⟩ := line_cells r1
  have b3 : decide ((m : Int) < 0) = false := by simp
  have b4 : decide (56 < (m : Int)) = false := by simp; omega
  have b4' : decide (56 < m) = false := by simp; omega
  have hmi : (m : Int) ≤ 56 := by omega
  have hm0 : 0 ≤ (m : Int) := by omega
  go_upto_region 4 with (fail)
  have q4 := Row.born w1 38 (z56.map bv).toArray
  have r1 := r1.alloc (.cells (z56.map bv).toArray 38)
  have hB := hB.alloc hB.size (.cells (z56.map bv).toArray 38)
  have q4 : Row (w1.alloc _) w1.heap.size 38 _ := q4
  generalize hw2 : w1.alloc (.cells (z56.map bv).toArray 38) = w2 at *
  have hw2' : w1.alloc (.cells #[.int .u8 0, .int .u8 0, .int .u8 0, .int .u8 0, .int .u8 0, .int .u8 0, .int .u8 0, .int .u8 0, .int .u8 0, .int .u8 0, .int .u8 0, .int .u8 0, .int .u8 0, .int .u8 0, .int .u8 0, .int .u8 0, .int .u8 0, .int .u8 0, .int .u8 0, .int .u8 0, .int .u8 0, .int .u8 0, .int .u8 0, .int .u8 0, .int .u8 0, .int .u8 0, .int .u8 0, .int .u8 0, .int .u8 0, .int .u8 0, .int .u8 0, .int .u8 0, .int .u8 0, .int .u8 0, .int .u8 0, .int .u8 0, .int .u8 0, .int .u8 0, .int .u8 0, .int .u8 0, .int .u8 0, .int .u8 0, .int .u8 0, .int .u8 0, .int .u8 0, .int .u8 0, .int .u8 0, .int .u8 0, .int .u8 0, .int .u8 0, .int .u8 0, .int .u8 0, .int .u8 0, .int .u8 0, .int .u8 0, .int .u8 0] 38) = w2 := hw2
  rw [hw2']
  generalize w1.heap.size = g4 at *
  clear hw2 hw2' c0 c1 c2 c3 c4
  obtain ⟨c0, c1, c2, c3, c4⟩ := line_cells r1
  have hlg := q4.lt
  have hl1 := r1.lt
  refine wp_region_tailN (n := 47) 5 (fun w' => Below w2.heap.size w2 w') (fun w1 w2 => Below w1.heap.size w1 w2) (by kernel_rfl) (by kernel_rfl) (by decide) (by rfl) (Below.refl _ _).drew ?_
  simp only [List.take_succ_cons, List.take_zero, List.drop_succ_cons, List.drop_zero]
  refine tail_pure (fun w => Below.refl _ w) (v := .slice (some ⟨g4, 0, none⟩) 56 56) (fun _ => rfl) ?_ ?_; (focus (intro us w9 hS9 hF; clear hF; have k3 := (hS9.cell (p := ⟨W.heap.size, 3, none⟩) hl1).trans c3; clear hS9; go_simp; (try with_reducible rfl); done)); simp only [Act.put, List.setIfInBounds_toArray, List.set_cons_zero, List.set_cons_succ, Nat.reduceAdd]
  refine tail_pure (fun w => Below.refl _ w) (v := .pointer (some ⟨W.heap.size, 5, none⟩)) (fun _ => rfl) ?_ ?_; (focus (intro us w9 hS9 hF; clear hF; have k3 := (hS9.cell (p := ⟨W.heap.size, 3, none⟩) hl1).trans c3; clear hS9; go_simp; (try with_reducible rfl); done)); simp only [Act.put, List.setIfInBounds_toArray, List.set_cons_zero, List.set_cons_succ, Nat.reduceAdd]
  refine tail_pure (fun w => Below.refl _ w) (v := .pointer (some ⟨W.heap.size, 3, none⟩)) (fun _ => rfl) ?_ ?_; (focus (intro us w9 hS9 hF; clear hF; have k3 := (hS9.cell (p := ⟨W.heap.size, 3, none⟩) hl1).trans c3; clear hS9; go_simp; (try with_reducible rfl); done)); simp only [Act.put, List.setIfInBounds_toArray, List.set_cons_zero, List.set_cons_succ, Nat.reduceAdd]
  refine tail_pure (fun w => Below.refl _ w) (v := .int .i64 (m : Int)) (fun _ => rfl) ?_ ?_; (focus (intro us w9 hS9 hF; clear hF; have k3 := (hS9.cell (p := ⟨W.heap.size, 3, none⟩) hl1).trans c3; clear hS9; go_simp; (try with_reducible rfl); done)); simp only [Act.put, List.setIfInBounds_toArray, List.set_cons_zero, List.set_cons_succ, Nat.reduceAdd]
  refine tail_pure (fun w => Below.refl _ w) (v := .slice (some ⟨W.heap.size, 5, none⟩) m 56) (fun _ => rfl) ?_ ?_; (focus (intro us w9 hS9 hF; clear hF; have k3 := (hS9.cell (p := ⟨W.heap.size, 3, none⟩) hl1).trans c3; clear hS9; go_simp; (try with_reducible rfl); done)); simp only [Act.put, List.setIfInBounds_toArray, List.set_cons_zero, List.set_cons_succ, Nat.reduceAdd]
  refine tail_done fun us w6 hS6 hF => ?_
  clear hF
  have q6 := q4.below hS6 hlg
  have r6 := r1.below hS6 hl1
  have hB := hB.trans (hS6.mono hB.size)
  clear hS6 q4 r1 c0 c1 c2 c3 c4
  refine wp_row_copy (P := Try.prog) (off := 0) (dCap := 56) (sCap := 56) (cs := (p.take m).map bv) q6 Try.underlying44 info_u8s (by rw [List.length_map, List.length_take, hp]) (fun _ => ⟨rfl, _, rfl, fun j v hv => ?_⟩) (by simp [z56, hp, Nat.min_le_right]) (bv_one _) rfl rfl ?_
  · rw [Addr.add_mid, r6.cell (5 + j)]
    exact pay_cell hv
  intro w7 u7 q7
  rw [copy0 hp hm] at q7
  have r7 := r6.upd u7 (by omega)
  have hB := Upd.below hB u7 (by omega)
  clear q6 u7 r6
  have hUl := cpU_len (p := p) hp hm
  have hUe := cpU_eq hp hm
  have hpay := line_pay r7
  have hUs : ((cpU m p).map bv).toArray.size = 56 := by simp [hUl]
  have hps : (p.map bv).toArray.size = 56 := by simp [hp]
  generalize cpU m p = U at *
  obtain ⟨c0, c1, c2, c3, c4⟩ := line_cells r7
  cases hcl : clr m p
  · have hU : (U == p) = false := hUe.trans hcl
    go_wp2_with (first | ((with_reducible refine wp_load_g ?_ q7.range Try.underlying38 rfl (by rw [hUs]; exact info38) ?_ ?_); rfl; rfl) | ((with_reducible refine wp_load_g ?_ hpay Try.underlying38 rfl (by rw [hps]; exact info38) ?_ ?_); rfl; rfl) | ((with_reducible refine wp_load_g ?_ r7.range Try.underlying40 rfl (line_info _ _ _ _ _ hp) ?_ ?_); rfl; rfl) | ((with_reducible refine wp_neq_g ?_ guard38 (eq_pay _ 9998 _ p hUl hp) ?_ ?_ ?_); rfl; rfl; rfl) | ((with_reducible refine wp_neq_g ?_ guard40 (HL _) ?_ ?_ ?_); rfl; rfl; rfl))
    exact bodyPost_ret (v := .tuple #[.slice none 0 0, .int .i64 54]) (by simp [results, Try.results30, go_sem]) rfl (encPost_no (by simp [lnE, lnOk1, lnOk2, hcl, hmi]) hB)
  · have hU : (U == p) = true := hUe.trans hcl
    cases hg2 : (!((m : Int) == 0) || f || e)
    · have hq : (2 == (2 : Int) && (e == false && (f == false && ((m : Int) == 0 && (a == a && p == z56))))) = true := clr_two hp hcl hg2
      have HL : ∀ w : World, (Op.equalIn 10000 40 (.agg (LV 2 e f m a p)) (.agg (LV 2 false false 0 a z56))).run Try.prog w = .ok true w := fun w => by rw [eq_line w 2 2 e false f false m 0 a a p z56 hp z56_len, hq]
      clear hq
      have HE := Lib.hid (show lnE 2 e f m p = 0 by simp [lnE, lnOk1, lnOk2, hcl, hmi, hg2])
      clear hcl hUe hg2
      go_upto_region 7 with (first | ((with_reducible refine wp_load_g ?_ q7.range Try.underlying38 rfl (by rw [hUs]; exact info38) ?_ ?_); rfl; rfl) | ((with_reducible refine wp_load_g ?_ hpay Try.underlying38 rfl (by rw [hps]; exact info38) ?_ ?_); rfl; rfl) | ((with_reducible refine wp_load_g ?_ r7.range Try.underlying40 rfl (line_info _ _ _ _ _ hp) ?_ ?_); rfl; rfl) | ((with_reducible refine wp_neq_g ?_ guard38 (eq_pay _ 9998 _ p hUl hp) ?_ ?_ ?_); rfl; rfl; rfl) | ((with_reducible refine wp_neq_g ?_ guard40 (HL _) ?_ ?_ ?_); rfl; rfl; rfl))
      go_wp2_with (first | ((with_reducible refine wp_load_g ?_ r7.range Try.underlying40 rfl (line_info _ _ _ _ _ hp) ?_ ?_); rfl; rfl) | (go_at_call 94; refine (pack 2 e f m a p (by omega) (by omega) (by omega) a0 a1 hp _).mono ?_; rintro e' w8 ⟨g, hg, rfl, hr, hb⟩))
      exact bodyPost_ret (v := .tuple #[.slice (some ⟨g, 0, none⟩) 64 64, .int .i64 0]) (by simp [results, Try.results30, go_sem]) rfl (encPost_yes HE.out (Nat.le_trans hB.size hg) hr (hB.trans (hb.mono hB.size)))
    · have hq : (2 == (2 : Int) && (e == false && (f == false && ((m : Int) == 0 && (a == a && p == z56))))) = false := clr_two_no hg2
      have HL : ∀ w : World, (Op.equalIn 10000 40 (.agg (LV 2 e f m a p)) (.agg (LV 2 false false 0 a z56))).run Try.prog w = .ok false w := fun w => by rw [eq_line w 2 2 e false f false m 0 a a p z56 hp z56_len, hq]
      clear hq
      have HE := Lib.hid (show lnE 2 e f m p = 54 by simp [lnE, lnOk1, lnOk2, hcl, hmi, hg2])
      clear hcl hUe hg2
      go_wp2_with (first | ((with_reducible refine wp_load_g ?_ q7.range Try.underlying38 rfl (by rw [hUs]; exact info38) ?_ ?_); rfl; rfl) | ((with_reducible refine wp_load_g ?_ hpay Try.underlying38 rfl (by rw [hps]; exact info38) ?_ ?_); rfl; rfl) | ((with_reducible refine wp_load_g ?_ r7.range Try.underlying40 rfl (line_info _ _ _ _ _ hp) ?_ ?_); rfl; rfl) | ((with_reducible refine wp_neq_g ?_ guard38 (eq_pay _ 9998 _ p hUl hp) ?_ ?_ ?_); rfl; rfl; rfl) | ((with_reducible refine wp_neq_g ?_ guard40 (HL _) ?_ ?_ ?_); rfl; rfl; rfl))
      exact bodyPost_ret (v := .tuple #[.slice none 0 0, .int .i64 54]) (by simp [results, Try.results30, go_sem]) rfl (encPost_no HE.out hB)
theorem encode_line (k : Int) (e f : Bool) (n a : Int) (p : List UInt8) (a0 : 0 ≤ a) (a1 : a < 65536) (hp : p.length = 56) (W : World) : Calls Try.prog 30 #[.agg (LV k e f n a p)] W (EncPost k e f n a p W) := by
  cases h : lnOk1 k n
  · refine (enc_bad30 k e f n a p h W).mono ?_
    rintro e' W' ⟨rfl, hB⟩
    exact ⟨.inl (by simp [lnE, h]), hB⟩
  · obtain ⟨hk, n0, n1⟩ := lnOk1_k h
    obtain ⟨m, rfl⟩ := Int.eq_ofNat_of_zero_le n0
    rcases hk with rfl | rfl
    · exact enc_ok1 e f m a p (by omega) a0 a1 hp W
    · exact enc_ok2 e f m a p (by omega) a0 a1 hp W
end Go.Proofs.Ythjkhambmgepdaa
