/- The encoding of a line: the reference's clear0 and EncodeLine. -/
import Derived.Test.YthjkhambmgepdaaEnc
import Derived.Great.BuildSlice
namespace Go.Proofs.Ythjkhambmgepdaa
open Go.RowKit
set_option linter.unusedVariables false
def EncqPost (k : Int) (e f : Bool) (n a : Int) (p : List UInt8) (W : World) (e' : Ending) (W' : World) : Prop :=
  (lnE k e f n p ≠ 0 ∧ e' = .returned (.tuple #[.slice none 0 0, .int .i64 (lnE k e f n p)]) ∨ lnE k e f n p = 0 ∧ ∃ A c, e' = .returned (.tuple #[.slice A 64 c, .int .i64 0]) ∧ IsB W' A 64 (lnB k e f n a p)) ∧ Below W.heap.size W W'
theorem encqPost_no {k : Int} {e f : Bool} {n a : Int} {p : List UInt8} {W W' : World} (h : lnE k e f n p = 54) (hB : Below W.heap.size W W') : EncqPost k e f n a p W (.returned (.tuple #[.slice none 0 0, .int .i64 54])) W' := ⟨.inl (by rw [h]; exact ⟨by decide, rfl⟩), hB⟩
theorem encqPost_yes {k : Int} {e f : Bool} {n a : Int} {p : List UInt8} {W W' : World} {A : Option Addr} {c : Nat} (h : lnE k e f n p = 0) (hr : IsB W' A 64 (lnB k e f n a p)) (hB : Below W.heap.size W W') : EncqPost k e f n a p W (.returned (.tuple #[.slice A 64 c, .int .i64 0])) W' := ⟨.inr ⟨h, A, c, rfl, hr⟩, hB⟩
set_option maxRecDepth 100000 in
set_option maxHeartbeats 4000000 in
theorem clear0 (k : Int) (e f : Bool) (m : Nat) (a : Int) (p : List UInt8) (hm : m ≤ 56) (hp : p.length = 56) (W : World) : Calls Try.prog 95 #[.agg (LV k e f m a p)] W (fun e' W' => e' = .returned (.bool (clr m p)) ∧ Below W.heap.size W W') := by
  have hB := (Below.refl W.heap.size W).alloc (Nat.le_refl _) (.cells (LV k e f m a p) 40)
  have r1 := Row.born W 40 (LV k e f m a p)
  go_enter Try.func95, Try.ntmps95
  go_upto_region 1 with (fail)
  generalize W.alloc (.cells (LV k e f m a p) 40) = w1 at *
  obtain ⟨c0, c1, c2, c3, c4⟩ := line_cells r1
  go_upto_region 2 with (fail)
  clear c0 c1 c2 c3 c4
  go_loopw [3] (fun i wr => ∃ j : Nat, j ≤ 56 ∧ i = .int .i64 j ∧ wr = w1 ∧ clr m p = clr j p) (fun i _ => 56 - (intOf i).toNat)
  case atStart => exact ⟨m, hm, rfl, rfl, rfl⟩
  case round =>
    obtain ⟨j, hj, rfl, rfl, hc⟩ := hrel
    rcases Nat.lt_or_ge j 56 with h | h
    · have hd : decide (j < 56) = true := by simpa using h
      have hd' : decide ((j : Int) < 56) = true := by simp; omega
      have hi : (j : Int) < 56 := by omega
      have hjp : j < p.length := by omega
      have x := line_pay r1 j (bv p[j]) (by simp [hjp])
      unfold bv at x
      have hs : clr (j : Int) p = ((p[j] == 0) && clr ((j + 1 : Nat) : Int) p) := by
        unfold clr
        rw [Int.toNat_natCast, Int.toNat_natCast, List.drop_eq_getElem_cons hjp, List.all_cons]
      cases h0 : (p[j] == 0)
      · have hz : ((p[j].toNat : Int) == 0) = false := by
          rw [beq_eq_false_iff_ne] at h0 ⊢
          intro e
          exact h0 (UInt8.toNat_inj.1 (by simpa using e))
        rw [h0, Bool.false_and] at hs
        have HC := Lib.hid (hc.trans hs)
        clear hc hs
        go_wp2
        go_ret
        exact ⟨ret_bool HC.out.symm, hB⟩
      · have hz : ((p[j].toNat : Int) == 0) = true := by
          rw [beq_iff_eq] at h0 ⊢
          rw [h0]
          rfl
        rw [h0, Bool.true_and] at hs
        have HC := Lib.hid (hc.trans hs)
        clear hc hs
        go_wp2
        exact ⟨⟨j + 1, by omega, by go_num, by trivial, HC.out⟩, by simp [intOf]; omega⟩
    · obtain rfl : j = 56 := by omega
      have hd' : decide (((56 : Nat) : Int) < 56) = false := by decide
      have HC := Lib.hid hc
      clear hc
      go_wp2
      go_ret
      exact ⟨ret_bool (by rw [HC.out]; unfold clr; rw [List.drop_eq_nil_of_le (by simp [hp])]; rfl), hB⟩
set_option maxRecDepth 100000 in
set_option maxHeartbeats 4000000 in
theorem enc_bad31 (k : Int) (e f : Bool) (n a : Int) (p : List UInt8) (h : lnOk1 k n = false) (W : World) : Calls Try.prog 31 #[.agg (LV k e f n a p)] W (EncNo 6 W) := by
  have hc : (k ≠ 1 ∧ k ≠ 2) ∨ ((k = 1 ∨ k = 2) ∧ (n < 0 ∨ 56 < n)) := by
    simp only [lnOk1, Bool.and_eq_false_iff, Bool.or_eq_false_iff, beq_eq_false_iff_ne, decide_eq_false_iff_not] at h
    omega
  clear h
  rcases hc with ⟨h1, h2⟩ | ⟨rfl | rfl, h3 | h3⟩
  · skip
    have hB := (Below.refl W.heap.size W).alloc (Nat.le_refl _) (.cells (LV k e f n a p) 40)
    have r1 := Row.born W 40 (LV k e f n a p)
    go_enter Try.func31, Try.ntmps31
    go_upto_region 1 with (fail)
    generalize W.alloc (.cells (LV k e f n a p) 40) = w1 at *
    have hl1 := r1.lt
    obtain ⟨c0, c1, c2, c3, c4⟩ := line_cells r1
    have b1 : (k == 1) = false := by simpa using h1
    have b2 : (k == 2) = false := by simpa using h2
    go_wp2
    exact bodyPost_ret (v := .tuple #[.slice none 0 0, .int .i64 6]) (by simp [results, Try.results31, go_sem]) rfl ⟨rfl, hB⟩
  · skip
    have hB := (Below.refl W.heap.size W).alloc (Nat.le_refl _) (.cells (LV 1 e f n a p) 40)
    have r1 := Row.born W 40 (LV 1 e f n a p)
    go_enter Try.func31, Try.ntmps31
    go_upto_region 1 with (fail)
    generalize W.alloc (.cells (LV 1 e f n a p) 40) = w1 at *
    have hl1 := r1.lt
    obtain ⟨c0, c1, c2, c3, c4⟩ := line_cells r1
    have b3 : decide (n < 0) = true := by simpa using h3
    go_wp2
    exact bodyPost_ret (v := .tuple #[.slice none 0 0, .int .i64 6]) (by simp [results, Try.results31, go_sem]) rfl ⟨rfl, hB⟩
  · skip
    have hB := (Below.refl W.heap.size W).alloc (Nat.le_refl _) (.cells (LV 1 e f n a p) 40)
    have r1 := Row.born W 40 (LV 1 e f n a p)
    go_enter Try.func31, Try.ntmps31
    go_upto_region 1 with (fail)
    generalize W.alloc (.cells (LV 1 e f n a p) 40) = w1 at *
    have hl1 := r1.lt
    obtain ⟨c0, c1, c2, c3, c4⟩ := line_cells r1
    have b3 : decide (n < 0) = false := by simp; omega
    have b4 : decide (56 < n) = true := by simpa using h3
    go_wp2
    exact bodyPost_ret (v := .tuple #[.slice none 0 0, .int .i64 6]) (by simp [results, Try.results31, go_sem]) rfl ⟨rfl, hB⟩
  · skip
    have hB := (Below.refl W.heap.size W).alloc (Nat.le_refl _) (.cells (LV 2 e f n a p) 40)
    have r1 := Row.born W 40 (LV 2 e f n a p)
    go_enter Try.func31, Try.ntmps31
    go_upto_region 1 with (fail)
    generalize W.alloc (.cells (LV 2 e f n a p) 40) = w1 at *
    have hl1 := r1.lt
    obtain ⟨c0, c1, c2, c3, c4⟩ := line_cells r1
    have b3 : decide (n < 0) = true := by simpa using h3
    go_wp2
    exact bodyPost_ret (v := .tuple #[.slice none 0 0, .int .i64 6]) (by simp [results, Try.results31, go_sem]) rfl ⟨rfl, hB⟩
  · skip
    have hB := (Below.refl W.heap.size W).alloc (Nat.le_refl _) (.cells (LV 2 e f n a p) 40)
    have r1 := Row.born W 40 (LV 2 e f n a p)
    go_enter Try.func31, Try.ntmps31
    go_upto_region 1 with (fail)
    generalize W.alloc (.cells (LV 2 e f n a p) 40) = w1 at *
    have hl1 := r1.lt
    obtain ⟨c0, c1, c2, c3, c4⟩ := line_cells r1
    have b3 : decide (n < 0) = false := by simp; omega
    have b4 : decide (56 < n) = true := by simpa using h3
    go_wp2
    exact bodyPost_ret (v := .tuple #[.slice none 0 0, .int .i64 6]) (by simp [results, Try.results31, go_sem]) rfl ⟨rfl, hB⟩
/-- Eight bytes, built. -/
def HdB (base : Nat) (vs : Array Value) (u : Value) (w : World) : Prop := ∃ g, u = .slice (some ⟨g, 0, none⟩) 8 8 ∧ base ≤ g ∧ Row w g 5 vs
theorem HdB.mono {base : Nat} {vs : Array Value} {u : Value} {w w' : World} (hg : Below w.heap.size w w') (h : HdB base vs u w) : HdB base vs u w' := by
  obtain ⟨g, e, h0, h⟩ := h
  exact ⟨g, e, h0, h.below hg h.lt⟩
section
variable {K : Act → World → Prop} {Q : Exit → Act → World → Prop} {a : Act} {w : World} {dst : Option Tmp} {typ : TypeId} {pos : String} {after : Array Edge} {gd : Option (Nat × Bool)}
set_option maxRecDepth 20000 in
theorem step_build8 {x0 x1 x2 x3 x4 x5 x6 x7 : Operand} {v0 v1 v2 v3 : Value} (h0 : a.eval x0 = v0) (h1 : a.eval x1 = v1) (h2 : a.eval x2 = v2) (h3 : a.eval x3 = v3) (h4 : (a.eval x4, a.eval x5, a.eval x6, a.eval x7) = (b0, b0, b0, b0)) (hone : [v0, v1, v2, v3].all (·.oneCell') = true)
    (h : K (a.put dst (.slice (some ⟨w.heap.size, 0, none⟩) 8 8)) (w.alloc (.cells #[v0, v1, v2, v3, b0, b0, b0, b0] 5))) :
    Oper.wp Try.prog { dst := dst, op := .buildSlice 44 8 #[(0, x0), (1, x1), (2, x2), (3, x3), (4, x4), (5, x5), (6, x6), (7, x7)], type := typ, pos := pos, after := after, guard := gd } a w K Q := by
  obtain ⟨i, hi, hz⟩ := Option.map_eq_some_iff.1 info_u8
  simp only [Prod.mk.injEq] at hz
  obtain ⟨hz0, hz1, hz2⟩ := hz
  simp only [Prod.mk.injEq] at h4
  obtain ⟨h4, h5, h6, h7⟩ := h4
  refine wp_buildSlice (o := { dst := dst, op := .buildSlice 44 8 #[(0, x0), (1, x1), (2, x2), (3, x3), (4, x4), (5, x5), (6, x6), (7, x7)], type := typ, pos := pos, after := after, guard := gd }) 44 5 8 _ rfl #[v0, v1, v2, v3, b0, b0, b0, b0] i (.int .u8 0) Try.underlying44 hi hz0 (by omega) (by omega) ?_ h
  simp only [List.all_cons, List.all_nil, Bool.and_true, Bool.and_eq_true] at hone
  have one : ∀ v : Value, v.oneCell' = true → v.cells = #[v] := fun v hv => by cases v <;> first | rfl | (simp [Value.oneCell'] at hv)
  have e8 : (Array.range 8).map (fun x => (Value.int .u8 0).cells[x % (Value.int .u8 0).cells.size]!) = #[b0, b0, b0, b0, b0, b0, b0, b0] := by kernel_rfl
  simp [hz1, h0, h1, h2, h3, h4, h5, h6, h7, Instr.fill, one _ hone.1, one _ hone.2.1, one _ hone.2.2.1, one _ hone.2.2.2, one b0 rfl, e8]
end
theorem nat_zero {m : Nat} {b : Bool} (h : ((m : Int) == 0) = b) : (m == 0) = b := by rw [← h, Bool.eq_iff_iff, beq_iff_eq, beq_iff_eq]; omega
theorem nat_bt {m : Nat} (h : ((m : Int) == 0) = true) : ((m : Int) != 0) = false := by simpa using h
theorem nat_bf {m : Nat} (h : ((m : Int) == 0) = false) : ((m : Int) != 0) = true := by simpa using h
theorem nat_zt {m : Nat} (h : ((m : Int) == 0) = true) : (m = 0) = True := by simpa using h
theorem nat_zf {m : Nat} (h : ((m : Int) == 0) = false) : (m = 0) = False := by simpa using h
theorem vals8 (k : Int) (e f : Bool) {m : Nat} {a x : Int} (hx : Value.int .u8 x = bv (hdB k e f)) (hm : m ≤ 56) (a0 : 0 ≤ a) (a1 : a < 65536) : #[Value.int .u8 x, Value.int .u8 (m : Int), Value.int .u8 (a % 256), Value.int .u8 (a / 256), b0, b0, b0, b0] = #[bv (hdB k e f), bv (UInt8.ofNat (m : Int).toNat), bv (UInt8.ofNat (a.toNat % 256)), bv (UInt8.ofNat (a.toNat / 256)), b0, b0, b0, b0] := by
  rw [hx, bv_int (n := (m : Int)) (by omega) (by omega), bv_int (n := a % 256) (by omega) (by omega), bv_int (n := a / 256) (by omega) (by omega), show (a % 256).toNat = a.toNat % 256 by omega, show (a / 256).toNat = a.toNat / 256 by omega]
theorem own8 {w : World} {g : Nat} {k : Int} {e f : Bool} {n a : Int} (h : Row w g 5 #[bv (hdB k e f), bv (UInt8.ofNat n.toNat), bv (UInt8.ofNat (a.toNat % 256)), bv (UInt8.ofNat (a.toNat / 256)), b0, b0, b0, b0]) : OwnB w g 5 (some ⟨g, 0, none⟩) 8 8 (ln8 k e f n a 0 0) :=
  ⟨rfl, .inr ⟨g, 8, _, rfl, Nat.le_refl _, h, Nat.le_refl _, by simp only [maxLen]; omega, rfl, rfl⟩⟩
theorem pay_isB {w : World} {g : Nat} {t : TypeId} {k : Int} {e f : Bool} {n a : Int} {p : List UInt8} (h : Row w g t (LV k e f n a p)) (hp : p.length = 56) : IsB w (some ⟨g, 5, none⟩) 56 p := by
  refine ⟨hp.symm, fun _ => ⟨g, 5, rfl, fun i hi => ?_⟩⟩
  have := line_pay h i (bv p[i]) (by simp [hi])
  exact this
theorem OwnB.big {w : World} {base : Nat} {e : TypeId} {A : Option Addr} {n c : Nat} {bs : List UInt8} (h : OwnB w base e A n c bs) (hn : 0 < n) : ∃ g cap cur, A = some ⟨g, 0, none⟩ ∧ base ≤ g ∧ Row w g e cur ∧ n ≤ cap ∧ cap ≤ maxLen ∧ cur.size = cap * 1 ∧ cur.toList.take (n * 1) = bs.map bv := by
  rcases h.2 with ⟨_, h0⟩ | ⟨g, cap, cur, hv, h1, h2, h3, h4, h5, h6⟩
  · omega
  · injection hv with hv1 _ _
    exact ⟨g, cap, cur, hv1, h1, h2, h3, h4, h5, h6⟩
theorem cur_cell {w : World} {g : Nat} {t : TypeId} {cur : Array Value} (h : Row w g t cur) (i : Nat) (hi : i < cur.size) : ∃ v, w.cell? ⟨g, i, none⟩ = some v := by
  rw [h.cell i]
  exact ⟨cur[i], by simp [hi]⟩
theorem lnq_isB {w : World} {g : Nat} {k : Int} {e f : Bool} {n a : Int} {p : List UInt8} {S : Nat} {cur : Array Value} (hp : p.length = 56) (hS : S = lnS k e f n a p) (ht : cur.toList.take (64 * 1) = (ln8 k e f n a 0 0 ++ p).map bv) (h : Row w g 5 ((cur.setIfInBounds 4 (bv (UInt8.ofNat (S / 256)))).setIfInBounds 5 (bv (UInt8.ofNat (S % 256))))) : IsB w (some ⟨g, 0, none⟩) 64 (lnB k e f n a p) := by
  have hl := lnB_len k e f n a p hp
  refine ⟨hl.symm, fun _ => ⟨g, 0, rfl, fun i hi => ?_⟩⟩
  have hi' : i < 64 := by omega
  rw [Nat.zero_add, h.cell i]
  have e1 : ((cur.setIfInBounds 4 (bv (UInt8.ofNat (S / 256)))).setIfInBounds 5 (bv (UInt8.ofNat (S % 256)))).toList.take 64 = (lnB k e f n a p).map bv := by
    rw [Array.toList_setIfInBounds, Array.toList_setIfInBounds, List.take_set, List.take_set]
    rw [Nat.mul_one] at ht
    rw [ht, lnB, ← hS]
    rfl
  have e2 := congrArg (fun l => l[i]?) e1
  simp only [List.getElem?_take, if_pos hi', List.getElem?_map, List.getElem?_eq_getElem hi, Option.map_some, Array.getElem?_toList] at e2
  exact e2
set_option maxRecDepth 100000 in
set_option maxHeartbeats 4000000 in
theorem encq_1tt (m : Nat) (a : Int) (p : List UInt8) (hm : m ≤ 56) (a0 : 0 ≤ a) (a1 : a < 65536) (hp : p.length = 56) (W : World) : Calls Try.prog 31 #[.agg (LV 1 true true m a p)] W (EncqPost 1 true true m a p W) := by
  have hB := (Below.refl W.heap.size W).alloc (Nat.le_refl _) (.cells (LV 1 true true m a p) 40)
  have r1 := Row.born W 40 (LV 1 true true m a p)
  go_enter Try.func31, Try.ntmps31
  go_upto_region 1 with (fail)
  generalize W.alloc (.cells (LV 1 true true m a p) 40) = w1 at *
  have hl1 := r1.lt
  obtain ⟨c0, c1, c2, c3, c4⟩ := line_cells r1
  have b3 : decide ((m : Int) < 0) = false := by simp
  have b4 : decide (56 < (m : Int)) = false := by simp; omega
  have b4' : decide (56 < m) = false := by simp; omega
  have hmi : (m : Int) ≤ 56 := by omega
  cases hcl : clr m p
  · have HC := Lib.hid hcl
    have HE := Lib.hid (show lnE 1 true true m p = 54 by simp [lnE, lnOk1, lnOk2, hcl, hmi])
    clear hcl
    go_wp2_with (first | ((with_reducible refine wp_load_g ?_ r1.range Try.underlying40 rfl (line_info _ _ _ _ _ hp) ?_ ?_); rfl; rfl) | (go_at_call 95; refine (clear0 _ _ _ m a p hm hp _).mono ?_; rintro e' w2 ⟨rfl, hb2⟩; rw [HC.out]))
    exact bodyPost_ret (v := .tuple #[.slice none 0 0, .int .i64 54]) (by simp [results, Try.results31, go_sem]) rfl (encqPost_no HE.out (hB.trans (hb2.mono hB.size)))
  · have HC := Lib.hid hcl
    have HE := Lib.hid (show lnE 1 true true m p = 0 by simp [lnE, lnOk1, lnOk2, hcl, hmi])
    clear hcl
    go_upto_region 5 with (first | ((with_reducible refine wp_load_g ?_ r1.range Try.underlying40 rfl (line_info _ _ _ _ _ hp) ?_ ?_); rfl; rfl) | (go_at_call 95; refine (clear0 _ _ _ m a p hm hp _).mono ?_; rintro e' w2 ⟨rfl, hb2⟩; rw [HC.out]; have k0 := (hb2.cell (p := ⟨W.heap.size, 0, none⟩) hl1).trans c0; have k1 := (hb2.cell (p := ⟨W.heap.size, 1, none⟩) hl1).trans c1; have k2 := (hb2.cell (p := ⟨W.heap.size, 2, none⟩) hl1).trans c2; have k3 := (hb2.cell (p := ⟨W.heap.size, 3, none⟩) hl1).trans c3))
    have r1 := r1.below hb2 hl1
    have hB := hB.trans (hb2.mono hB.size)
    clear c0 c1 c2 c3 c4 k0 k1 k2 k3 hb2 b3 b4 b4'
    obtain ⟨c0, c1, c2, c3, c4⟩ := line_cells r1
    have hl1 := r1.lt
    go_upto_region 10 with (fail)
    have hal : 0 ≤ a / 256 ∧ a / 256 < 256 := by omega
    have hmw : IntKind.u8.wrap (m : Int) = (m : Int) := by rw [IntKind.wrap_u8]; omega
    have haw : IntKind.u8.wrap (a / 256) = a / 256 := by rw [IntKind.wrap_u8]; omega
    have hax : IntKind.u8.wrap a = a % 256 := by rw [IntKind.wrap_u8]
    have HV := Lib.hid (show #[Value.int .u8 13, Value.int .u8 (m : Int), Value.int .u8 (a % 256), Value.int .u8 (a / 256), b0, b0, b0, b0] = #[bv (hdB 1 true true), bv (UInt8.ofNat (m : Int).toNat), bv (UInt8.ofNat (a.toNat % 256)), bv (UInt8.ofNat (a.toNat / 256)), b0, b0, b0, b0] from vals8 1 true true rfl hm a0 a1)
    refine wp_region_tailN (n := 84) 14 (fun w' => Below w2.heap.size w2 w') (fun w1 w2 => Below w1.heap.size w1 w2) (by kernel_rfl) (by kernel_rfl) (by decide) (by rfl) (Below.refl _ _).drew ?_
    simp only [List.take_succ_cons, List.take_zero, List.drop_succ_cons, List.drop_zero]
    refine tail_pure (fun w => Below.refl _ w) (v := .int .u8 13) (fun _ => rfl) ?_ ?_; (focus (intro us w9 hS9 hF; clear hF; have k0 := (hS9.cell (p := ⟨W.heap.size, 0, none⟩) hl1).trans c0; have k3 := (hS9.cell (p := ⟨W.heap.size, 3, none⟩) hl1).trans c3; have k4 := (hS9.cell (p := ⟨W.heap.size, 4, none⟩) hl1).trans c4; clear hS9; go_simp; (try with_reducible rfl); done)); simp only [Act.put, List.setIfInBounds_toArray, List.set_cons_zero, List.set_cons_succ, Nat.reduceAdd]
    refine tail_pure (fun w => Below.refl _ w) (v := .pointer (some ⟨W.heap.size, 3, none⟩)) (fun _ => rfl) ?_ ?_; (focus (intro us w9 hS9 hF; clear hF; have k0 := (hS9.cell (p := ⟨W.heap.size, 0, none⟩) hl1).trans c0; have k3 := (hS9.cell (p := ⟨W.heap.size, 3, none⟩) hl1).trans c3; have k4 := (hS9.cell (p := ⟨W.heap.size, 4, none⟩) hl1).trans c4; clear hS9; go_simp; (try with_reducible rfl); done)); simp only [Act.put, List.setIfInBounds_toArray, List.set_cons_zero, List.set_cons_succ, Nat.reduceAdd]
    refine tail_pure (fun w => Below.refl _ w) (v := .int .i64 (m : Int)) (fun _ => rfl) ?_ ?_; (focus (intro us w9 hS9 hF; clear hF; have k0 := (hS9.cell (p := ⟨W.heap.size, 0, none⟩) hl1).trans c0; have k3 := (hS9.cell (p := ⟨W.heap.size, 3, none⟩) hl1).trans c3; have k4 := (hS9.cell (p := ⟨W.heap.size, 4, none⟩) hl1).trans c4; clear hS9; go_simp; (try with_reducible rfl); done)); simp only [Act.put, List.setIfInBounds_toArray, List.set_cons_zero, List.set_cons_succ, Nat.reduceAdd]
    refine tail_pure (fun w => Below.refl _ w) (v := .int .u8 (m : Int)) (fun _ => rfl) ?_ ?_; (focus (intro us w9 hS9 hF; clear hF; clear hS9; go_simp; done)); simp only [Act.put, List.setIfInBounds_toArray, List.set_cons_zero, List.set_cons_succ, Nat.reduceAdd]
    refine tail_pure (fun w => Below.refl _ w) (v := .pointer (some ⟨W.heap.size, 4, none⟩)) (fun _ => rfl) ?_ ?_; (focus (intro us w9 hS9 hF; clear hF; have k0 := (hS9.cell (p := ⟨W.heap.size, 0, none⟩) hl1).trans c0; have k3 := (hS9.cell (p := ⟨W.heap.size, 3, none⟩) hl1).trans c3; have k4 := (hS9.cell (p := ⟨W.heap.size, 4, none⟩) hl1).trans c4; clear hS9; go_simp; (try with_reducible rfl); done)); simp only [Act.put, List.setIfInBounds_toArray, List.set_cons_zero, List.set_cons_succ, Nat.reduceAdd]
    refine tail_pure (fun w => Below.refl _ w) (v := .int .u16 a) (fun _ => rfl) ?_ ?_; (focus (intro us w9 hS9 hF; clear hF; have k0 := (hS9.cell (p := ⟨W.heap.size, 0, none⟩) hl1).trans c0; have k3 := (hS9.cell (p := ⟨W.heap.size, 3, none⟩) hl1).trans c3; have k4 := (hS9.cell (p := ⟨W.heap.size, 4, none⟩) hl1).trans c4; clear hS9; go_simp; (try with_reducible rfl); done)); simp only [Act.put, List.setIfInBounds_toArray, List.set_cons_zero, List.set_cons_succ, Nat.reduceAdd]
    refine tail_pure (fun w => Below.refl _ w) (v := .int .u8 (a % 256)) (fun _ => rfl) ?_ ?_; (focus (intro us w9 hS9 hF; clear hF; clear hS9; go_simp; done)); simp only [Act.put, List.setIfInBounds_toArray, List.set_cons_zero, List.set_cons_succ, Nat.reduceAdd]
    refine tail_pure (fun w => Below.refl _ w) (v := .pointer (some ⟨W.heap.size, 4, none⟩)) (fun _ => rfl) ?_ ?_; (focus (intro us w9 hS9 hF; clear hF; have k0 := (hS9.cell (p := ⟨W.heap.size, 0, none⟩) hl1).trans c0; have k3 := (hS9.cell (p := ⟨W.heap.size, 3, none⟩) hl1).trans c3; have k4 := (hS9.cell (p := ⟨W.heap.size, 4, none⟩) hl1).trans c4; clear hS9; go_simp; (try with_reducible rfl); done)); simp only [Act.put, List.setIfInBounds_toArray, List.set_cons_zero, List.set_cons_succ, Nat.reduceAdd]
    refine tail_pure (fun w => Below.refl _ w) (v := .int .u16 a) (fun _ => rfl) ?_ ?_; (focus (intro us w9 hS9 hF; clear hF; have k0 := (hS9.cell (p := ⟨W.heap.size, 0, none⟩) hl1).trans c0; have k3 := (hS9.cell (p := ⟨W.heap.size, 3, none⟩) hl1).trans c3; have k4 := (hS9.cell (p := ⟨W.heap.size, 4, none⟩) hl1).trans c4; clear hS9; go_simp; (try with_reducible rfl); done)); simp only [Act.put, List.setIfInBounds_toArray, List.set_cons_zero, List.set_cons_succ, Nat.reduceAdd]
    refine tail_pure (fun w => Below.refl _ w) (v := .int .u16 (a / 256)) (fun _ => rfl) ?_ ?_; (focus (intro us w9 hS9 hF; clear hF; clear hS9; go_simp; done)); simp only [Act.put, List.setIfInBounds_toArray, List.set_cons_zero, List.set_cons_succ, Nat.reduceAdd]
    refine tail_pure (fun w => Below.refl _ w) (v := .int .u8 (a / 256)) (fun _ => rfl) ?_ ?_; (focus (intro us w9 hS9 hF; clear hF; clear hS9; go_simp; done)); simp only [Act.put, List.setIfInBounds_toArray, List.set_cons_zero, List.set_cons_succ, Nat.reduceAdd]
    refine tail_free (HdB W.heap.size #[bv (hdB 1 true true), bv (UInt8.ofNat (m : Int).toNat), bv (UInt8.ofNat (a.toNat % 256)), bv (UInt8.ofNat (a.toNat / 256)), b0, b0, b0, b0]) (fun u w1 w2 hg h => HdB.mono hg h) ?_ ?_; (focus (intro us w9 hS9 hF K hK; clear hF; refine step_build8 (v0 := .int .u8 13) (v1 := .int .u8 (m : Int)) (v2 := .int .u8 (a % 256)) (v3 := .int .u8 (a / 256)) rfl rfl rfl rfl rfl (by rfl) ?_; exact hK _ _ (hS9.alloc hS9.size _) ((Below.refl _ _).alloc (Nat.le_refl _) _) ⟨w9.heap.size, rfl, by have := hS9.size; have := hB.size; omega, by rw [← HV.out]; exact Row.born _ _ _⟩)); simp only [Act.put, List.setIfInBounds_toArray, List.set_cons_zero, List.set_cons_succ, Nat.reduceAdd]
    refine tail_pure (fun w => Below.refl _ w) (v := .pointer (some ⟨W.heap.size, 5, none⟩)) (fun _ => rfl) ?_ ?_; (focus (intro us w9 hS9 hF; clear hF; have k0 := (hS9.cell (p := ⟨W.heap.size, 0, none⟩) hl1).trans c0; have k3 := (hS9.cell (p := ⟨W.heap.size, 3, none⟩) hl1).trans c3; have k4 := (hS9.cell (p := ⟨W.heap.size, 4, none⟩) hl1).trans c4; clear hS9; go_simp; (try with_reducible rfl); done)); simp only [Act.put, List.setIfInBounds_toArray, List.set_cons_zero, List.set_cons_succ, Nat.reduceAdd]
    refine tail_pure (fun w => Below.refl _ w) (v := .slice (some ⟨W.heap.size, 5, none⟩) 56 56) (fun _ => rfl) ?_ ?_; (focus (intro us w9 hS9 hF; clear hF; have k0 := (hS9.cell (p := ⟨W.heap.size, 0, none⟩) hl1).trans c0; have k3 := (hS9.cell (p := ⟨W.heap.size, 3, none⟩) hl1).trans c3; have k4 := (hS9.cell (p := ⟨W.heap.size, 4, none⟩) hl1).trans c4; clear hS9; go_simp; (try with_reducible rfl); done)); simp only [Act.put, List.setIfInBounds_toArray, List.set_cons_zero, List.set_cons_succ, Nat.reduceAdd]
    refine tail_done fun us w3 hS3 hF => ?_
    obtain ⟨gb, hu, hgb, hrb⟩ := hF _ (List.mem_cons_self ..)
    dsimp only at hu
    clear hF
    simp only [hu]
    have r3 := r1.below hS3 hl1
    have hB := hB.trans (hS3.mono hB.size)
    clear hS3 r1 c0 c1 c2 c3 c4 hu
    have hown : OwnB w3 gb 5 (some ⟨gb, 0, none⟩) 8 8 (ln8 1 true true m a 0 0) := own8 hrb
    have hpay := pay_isB r3 hp
    go_upto_region 11 with ((at_builtin; (refine wp_append_b (P := Try.prog) rfl _ _ 44 rfl Try.underlying44 info_u8 hown hpay (by omega) (Nat.le_of_lt hrb.lt) rfl rfl ?_); intro A4 n4 c4 w4 hn4 ho4 hb4 hg4 hat4))
    have hgw : W.heap.size ≤ gb := hgb
    have hB := hB.trans (hb4.mono hgw)
    have hn4' := hn4.out
    subst hn4'
    have hI4 := ho4.isB
    obtain ⟨S, hS⟩ : ∃ S, S = lnS 1 true true m a p := ⟨_, rfl⟩
    have HS := Lib.hid hS
    have hS2 : S ≤ 65535 := by rw [hS]; exact sum16_le _
    clear hS hg4 hat4 hpay hown hrb r3 hn4
    obtain ⟨g, cap, cur, hA, hge, hrow, hcap, _, hcs, htk⟩ := ho4.big (by omega)
    subst hA
    clear ho4
    go_upto_region 12 with (go_at_call 96; refine (sum_ref _ _ _ _ _ hI4 (by omega)).mono ?_; rintro e w' ⟨rfl, rfl⟩; rw [show sum16 (ln8 1 true true m a 0 0 ++ p) = S from HS.out.symm])
    have hrow : Row w4 g 5 cur := hrow
    have e4 : Value.int .u8 ((S : Int) / 256) = bv (UInt8.ofNat (S / 256)) := by rw [show (S : Int) / 256 = ((S / 256 : Nat) : Int) by omega]; exact bv_nat _ (by omega)
    have e5 : Value.int .u8 ((S : Int) % 256) = bv (UInt8.ofNat (S % 256)) := by rw [show (S : Int) % 256 = ((S % 256 : Nat) : Int) by omega]; exact bv_nat _ (by omega)
    have E4 := Lib.hid e4
    have E5 := Lib.hid e5
    clear e4 e5 hI4
    obtain ⟨x4, hx4⟩ := cur_cell hrow 4 (by omega)
    obtain ⟨x5, hx5⟩ := cur_cell hrow 5 (by omega)
    have bf := hrow.frozen
    go_upto_region 13 with (fail)
    have hrow5 := hrow.set 4 (.int .u8 ((S : Int) / 256))
    have u5 := Upd.setCell w4 g 4 (.int .u8 ((S : Int) / 256))
    have hB := Upd.below hB u5 (by omega)
    obtain ⟨x5', hx5'⟩ := cur_cell hrow5 5 (by rw [Array.size_setIfInBounds]; omega)
    generalize w4.setCell ⟨g, 4, none⟩ (.int .u8 ((S : Int) / 256)) = w5 at *
    clear hx4 hx5 u5 bf
    have bf := hrow5.frozen
    go_wp2
    have hrow6 := hrow5.set 5 (.int .u8 ((S : Int) % 256))
    have u6 := Upd.setCell w5 g 5 (.int .u8 ((S : Int) % 256))
    have hB := Upd.below hB u6 (by omega)
    rw [E4.out, E5.out] at hrow6
    exact bodyPost_ret (v := .tuple #[.slice (some ⟨g, 0, none⟩) 64 c4, .int .i64 0]) (by simp [results, Try.results31, go_sem]) rfl (encqPost_yes HE.out (lnq_isB hp HS.out htk (by rw [E5.out]; exact hrow6)) hB)
  
set_option maxRecDepth 100000 in
set_option maxHeartbeats 4000000 in
theorem encq_1tf (m : Nat) (a : Int) (p : List UInt8) (hm : m ≤ 56) (a0 : 0 ≤ a) (a1 : a < 65536) (hp : p.length = 56) (W : World) : Calls Try.prog 31 #[.agg (LV 1 false true m a p)] W (EncqPost 1 false true m a p W) := by
  have hB := (Below.refl W.heap.size W).alloc (Nat.le_refl _) (.cells (LV 1 false true m a p) 40)
  have r1 := Row.born W 40 (LV 1 false true m a p)
  go_enter Try.func31, Try.ntmps31
  go_upto_region 1 with (fail)
  generalize W.alloc (.cells (LV 1 false true m a p) 40) = w1 at *
  have hl1 := r1.lt
  obtain ⟨c0, c1, c2, c3, c4⟩ := line_cells r1
  have b3 : decide ((m : Int) < 0) = false := by simp
  have b4 : decide (56 < (m : Int)) = false := by simp; omega
  have b4' : decide (56 < m) = false := by simp; omega
  have hmi : (m : Int) ≤ 56 := by omega
  cases hcl : clr m p
  · have HC := Lib.hid hcl
    have HE := Lib.hid (show lnE 1 false true m p = 54 by simp [lnE, lnOk1, lnOk2, hcl, hmi])
    clear hcl
    go_wp2_with (first | ((with_reducible refine wp_load_g ?_ r1.range Try.underlying40 rfl (line_info _ _ _ _ _ hp) ?_ ?_); rfl; rfl) | (go_at_call 95; refine (clear0 _ _ _ m a p hm hp _).mono ?_; rintro e' w2 ⟨rfl, hb2⟩; rw [HC.out]))
    exact bodyPost_ret (v := .tuple #[.slice none 0 0, .int .i64 54]) (by simp [results, Try.results31, go_sem]) rfl (encqPost_no HE.out (hB.trans (hb2.mono hB.size)))
  · have HC := Lib.hid hcl
    have HE := Lib.hid (show lnE 1 false true m p = 0 by simp [lnE, lnOk1, lnOk2, hcl, hmi])
    clear hcl
    go_upto_region 5 with (first | ((with_reducible refine wp_load_g ?_ r1.range Try.underlying40 rfl (line_info _ _ _ _ _ hp) ?_ ?_); rfl; rfl) | (go_at_call 95; refine (clear0 _ _ _ m a p hm hp _).mono ?_; rintro e' w2 ⟨rfl, hb2⟩; rw [HC.out]; have k0 := (hb2.cell (p := ⟨W.heap.size, 0, none⟩) hl1).trans c0; have k1 := (hb2.cell (p := ⟨W.heap.size, 1, none⟩) hl1).trans c1; have k2 := (hb2.cell (p := ⟨W.heap.size, 2, none⟩) hl1).trans c2; have k3 := (hb2.cell (p := ⟨W.heap.size, 3, none⟩) hl1).trans c3))
    have r1 := r1.below hb2 hl1
    have hB := hB.trans (hb2.mono hB.size)
    clear c0 c1 c2 c3 c4 k0 k1 k2 k3 hb2 b3 b4 b4'
    obtain ⟨c0, c1, c2, c3, c4⟩ := line_cells r1
    have hl1 := r1.lt
    go_upto_region 10 with (fail)
    have hal : 0 ≤ a / 256 ∧ a / 256 < 256 := by omega
    have hmw : IntKind.u8.wrap (m : Int) = (m : Int) := by rw [IntKind.wrap_u8]; omega
    have haw : IntKind.u8.wrap (a / 256) = a / 256 := by rw [IntKind.wrap_u8]; omega
    have hax : IntKind.u8.wrap a = a % 256 := by rw [IntKind.wrap_u8]
    have HV := Lib.hid (show #[Value.int .u8 5, Value.int .u8 (m : Int), Value.int .u8 (a % 256), Value.int .u8 (a / 256), b0, b0, b0, b0] = #[bv (hdB 1 false true), bv (UInt8.ofNat (m : Int).toNat), bv (UInt8.ofNat (a.toNat % 256)), bv (UInt8.ofNat (a.toNat / 256)), b0, b0, b0, b0] from vals8 1 false true rfl hm a0 a1)
    refine wp_region_tailN (n := 84) 14 (fun w' => Below w2.heap.size w2 w') (fun w1 w2 => Below w1.heap.size w1 w2) (by kernel_rfl) (by kernel_rfl) (by decide) (by rfl) (Below.refl _ _).drew ?_
    simp only [List.take_succ_cons, List.take_zero, List.drop_succ_cons, List.drop_zero]
    refine tail_pure (fun w => Below.refl _ w) (v := .int .u8 5) (fun _ => rfl) ?_ ?_; (focus (intro us w9 hS9 hF; clear hF; have k0 := (hS9.cell (p := ⟨W.heap.size, 0, none⟩) hl1).trans c0; have k3 := (hS9.cell (p := ⟨W.heap.size, 3, none⟩) hl1).trans c3; have k4 := (hS9.cell (p := ⟨W.heap.size, 4, none⟩) hl1).trans c4; clear hS9; go_simp; (try with_reducible rfl); done)); simp only [Act.put, List.setIfInBounds_toArray, List.set_cons_zero, List.set_cons_succ, Nat.reduceAdd]
    refine tail_pure (fun w => Below.refl _ w) (v := .pointer (some ⟨W.heap.size, 3, none⟩)) (fun _ => rfl) ?_ ?_; (focus (intro us w9 hS9 hF; clear hF; have k0 := (hS9.cell (p := ⟨W.heap.size, 0, none⟩) hl1).trans c0; have k3 := (hS9.cell (p := ⟨W.heap.size, 3, none⟩) hl1).trans c3; have k4 := (hS9.cell (p := ⟨W.heap.size, 4, none⟩) hl1).trans c4; clear hS9; go_simp; (try with_reducible rfl); done)); simp only [Act.put, List.setIfInBounds_toArray, List.set_cons_zero, List.set_cons_succ, Nat.reduceAdd]
    refine tail_pure (fun w => Below.refl _ w) (v := .int .i64 (m : Int)) (fun _ => rfl) ?_ ?_; (focus (intro us w9 hS9 hF; clear hF; have k0 := (hS9.cell (p := ⟨W.heap.size, 0, none⟩) hl1).trans c0; have k3 := (hS9.cell (p := ⟨W.heap.size, 3, none⟩) hl1).trans c3; have k4 := (hS9.cell (p := ⟨W.heap.size, 4, none⟩) hl1).trans c4; clear hS9; go_simp; (try with_reducible rfl); done)); simp only [Act.put, List.setIfInBounds_toArray, List.set_cons_zero, List.set_cons_succ, Nat.reduceAdd]
    refine tail_pure (fun w => Below.refl _ w) (v := .int .u8 (m : Int)) (fun _ => rfl) ?_ ?_; (focus (intro us w9 hS9 hF; clear hF; clear hS9; go_simp; done)); simp only [Act.put, List.setIfInBounds_toArray, List.set_cons_zero, List.set_cons_succ, Nat.reduceAdd]
    refine tail_pure (fun w => Below.refl _ w) (v := .pointer (some ⟨W.heap.size, 4, none⟩)) (fun _ => rfl) ?_ ?_; (focus (intro us w9 hS9 hF; clear hF; have k0 := (hS9.cell (p := ⟨W.heap.size, 0, none⟩) hl1).trans c0; have k3 := (hS9.cell (p := ⟨W.heap.size, 3, none⟩) hl1).trans c3; have k4 := (hS9.cell (p := ⟨W.heap.size, 4, none⟩) hl1).trans c4; clear hS9; go_simp; (try with_reducible rfl); done)); simp only [Act.put, List.setIfInBounds_toArray, List.set_cons_zero, List.set_cons_succ, Nat.reduceAdd]
    refine tail_pure (fun w => Below.refl _ w) (v := .int .u16 a) (fun _ => rfl) ?_ ?_; (focus (intro us w9 hS9 hF; clear hF; have k0 := (hS9.cell (p := ⟨W.heap.size, 0, none⟩) hl1).trans c0; have k3 := (hS9.cell (p := ⟨W.heap.size, 3, none⟩) hl1).trans c3; have k4 := (hS9.cell (p := ⟨W.heap.size, 4, none⟩) hl1).trans c4; clear hS9; go_simp; (try with_reducible rfl); done)); simp only [Act.put, List.setIfInBounds_toArray, List.set_cons_zero, List.set_cons_succ, Nat.reduceAdd]
    refine tail_pure (fun w => Below.refl _ w) (v := .int .u8 (a % 256)) (fun _ => rfl) ?_ ?_; (focus (intro us w9 hS9 hF; clear hF; clear hS9; go_simp; done)); simp only [Act.put, List.setIfInBounds_toArray, List.set_cons_zero, List.set_cons_succ, Nat.reduceAdd]
    refine tail_pure (fun w => Below.refl _ w) (v := .pointer (some ⟨W.heap.size, 4, none⟩)) (fun _ => rfl) ?_ ?_; (focus (intro us w9 hS9 hF; clear hF; have k0 := (hS9.cell (p := ⟨W.heap.size, 0, none⟩) hl1).trans c0; have k3 := (hS9.cell (p := ⟨W.heap.size, 3, none⟩) hl1).trans c3; have k4 := (hS9.cell (p := ⟨W.heap.size, 4, none⟩) hl1).trans c4; clear hS9; go_simp; (try with_reducible rfl); done)); simp only [Act.put, List.setIfInBounds_toArray, List.set_cons_zero, List.set_cons_succ, Nat.reduceAdd]
    refine tail_pure (fun w => Below.refl _ w) (v := .int .u16 a) (fun _ => rfl) ?_ ?_; (focus (intro us w9 hS9 hF; clear hF; have k0 := (hS9.cell (p := ⟨W.heap.size, 0, none⟩) hl1).trans c0; have k3 := (hS9.cell (p := ⟨W.heap.size, 3, none⟩) hl1).trans c3; have k4 := (hS9.cell (p := ⟨W.heap.size, 4, none⟩) hl1).trans c4; clear hS9; go_simp; (try with_reducible rfl); done)); simp only [Act.put, List.setIfInBounds_toArray, List.set_cons_zero, List.set_cons_succ, Nat.reduceAdd]
    refine tail_pure (fun w => Below.refl _ w) (v := .int .u16 (a / 256)) (fun _ => rfl) ?_ ?_; (focus (intro us w9 hS9 hF; clear hF; clear hS9; go_simp; done)); simp only [Act.put, List.setIfInBounds_toArray, List.set_cons_zero, List.set_cons_succ, Nat.reduceAdd]
    refine tail_pure (fun w => Below.refl _ w) (v := .int .u8 (a / 256)) (fun _ => rfl) ?_ ?_; (focus (intro us w9 hS9 hF; clear hF; clear hS9; go_simp; done)); simp only [Act.put, List.setIfInBounds_toArray, List.set_cons_zero, List.set_cons_succ, Nat.reduceAdd]
    refine tail_free (HdB W.heap.size #[bv (hdB 1 false true), bv (UInt8.ofNat (m : Int).toNat), bv (UInt8.ofNat (a.toNat % 256)), bv (UInt8.ofNat (a.toNat / 256)), b0, b0, b0, b0]) (fun u w1 w2 hg h => HdB.mono hg h) ?_ ?_; (focus (intro us w9 hS9 hF K hK; clear hF; refine step_build8 (v0 := .int .u8 5) (v1 := .int .u8 (m : Int)) (v2 := .int .u8 (a % 256)) (v3 := .int .u8 (a / 256)) rfl rfl rfl rfl rfl (by rfl) ?_; exact hK _ _ (hS9.alloc hS9.size _) ((Below.refl _ _).alloc (Nat.le_refl _) _) ⟨w9.heap.size, rfl, by have := hS9.size; have := hB.size; omega, by rw [← HV.out]; exact Row.born _ _ _⟩)); simp only [Act.put, List.setIfInBounds_toArray, List.set_cons_zero, List.set_cons_succ, Nat.reduceAdd]
    refine tail_pure (fun w => Below.refl _ w) (v := .pointer (some ⟨W.heap.size, 5, none⟩)) (fun _ => rfl) ?_ ?_; (focus (intro us w9 hS9 hF; clear hF; have k0 := (hS9.cell (p := ⟨W.heap.size, 0, none⟩) hl1).trans c0; have k3 := (hS9.cell (p := ⟨W.heap.size, 3, none⟩) hl1).trans c3; have k4 := (hS9.cell (p := ⟨W.heap.size, 4, none⟩) hl1).trans c4; clear hS9; go_simp; (try with_reducible rfl); done)); simp only [Act.put, List.setIfInBounds_toArray, List.set_cons_zero, List.set_cons_succ, Nat.reduceAdd]
    refine tail_pure (fun w => Below.refl _ w) (v := .slice (some ⟨W.heap.size, 5, none⟩) 56 56) (fun _ => rfl) ?_ ?_; (focus (intro us w9 hS9 hF; clear hF; have k0 := (hS9.cell (p := ⟨W.heap.size, 0, none⟩) hl1).trans c0; have k3 := (hS9.cell (p := ⟨W.heap.size, 3, none⟩) hl1).trans c3; have k4 := (hS9.cell (p := ⟨W.heap.size, 4, none⟩) hl1).trans c4; clear hS9; go_simp; (try with_reducible rfl); done)); simp only [Act.put, List.setIfInBounds_toArray, List.set_cons_zero, List.set_cons_succ, Nat.reduceAdd]
    refine tail_done fun us w3 hS3 hF => ?_
    obtain ⟨gb, hu, hgb, hrb⟩ := hF _ (List.mem_cons_self ..)
    dsimp only at hu
    clear hF
    simp only [hu]
    have r3 := r1.below hS3 hl1
    have hB := hB.trans (hS3.mono hB.size)
    clear hS3 r1 c0 c1 c2 c3 c4 hu
    have hown : OwnB w3 gb 5 (some ⟨gb, 0, none⟩) 8 8 (ln8 1 false true m a 0 0) := own8 hrb
    have hpay := pay_isB r3 hp
    go_upto_region 11 with ((at_builtin; (refine wp_append_b (P := Try.prog) rfl _ _ 44 rfl Try.underlying44 info_u8 hown hpay (by omega) (Nat.le_of_lt hrb.lt) rfl rfl ?_); intro A4 n4 c4 w4 hn4 ho4 hb4 hg4 hat4))
    have hgw : W.heap.size ≤ gb := hgb
    have hB := hB.trans (hb4.mono hgw)
    have hn4' := hn4.out
    subst hn4'
    have hI4 := ho4.isB
    obtain ⟨S, hS⟩ : ∃ S, S = lnS 1 false true m a p := ⟨_, rfl⟩
    have HS := Lib.hid hS
    have hS2 : S ≤ 65535 := by rw [hS]; exact sum16_le _
    clear hS hg4 hat4 hpay hown hrb r3 hn4
    obtain ⟨g, cap, cur, hA, hge, hrow, hcap, _, hcs, htk⟩ := ho4.big (by omega)
    subst hA
    clear ho4
    go_upto_region 12 with (go_at_call 96; refine (sum_ref _ _ _ _ _ hI4 (by omega)).mono ?_; rintro e w' ⟨rfl, rfl⟩; rw [show sum16 (ln8 1 false true m a 0 0 ++ p) = S from HS.out.symm])
    have hrow : Row w4 g 5 cur := hrow
    have e4 : Value.int .u8 ((S : Int) / 256) = bv (UInt8.ofNat (S / 256)) := by rw [show (S : Int) / 256 = ((S / 256 : Nat) : Int) by omega]; exact bv_nat _ (by omega)
    have e5 : Value.int .u8 ((S : Int) % 256) = bv (UInt8.ofNat (S % 256)) := by rw [show (S : Int) % 256 = ((S % 256 : Nat) : Int) by omega]; exact bv_nat _ (by omega)
    have E4 := Lib.hid e4
    have E5 := Lib.hid e5
    clear e4 e5 hI4
    obtain ⟨x4, hx4⟩ := cur_cell hrow 4 (by omega)
    obtain ⟨x5, hx5⟩ := cur_cell hrow 5 (by omega)
    have bf := hrow.frozen
    go_upto_region 13 with (fail)
    have hrow5 := hrow.set 4 (.int .u8 ((S : Int) / 256))
    have u5 := Upd.setCell w4 g 4 (.int .u8 ((S : Int) / 256))
    have hB := Upd.below hB u5 (by omega)
    obtain ⟨x5', hx5'⟩ := cur_cell hrow5 5 (by rw [Array.size_setIfInBounds]; omega)
    generalize w4.setCell ⟨g, 4, none⟩ (.int .u8 ((S : Int) / 256)) = w5 at *
    clear hx4 hx5 u5 bf
    have bf := hrow5.frozen
    go_wp2
    have hrow6 := hrow5.set 5 (.int .u8 ((S : Int) % 256))
    have u6 := Upd.setCell w5 g 5 (.int .u8 ((S : Int) % 256))
    have hB := Upd.below hB u6 (by omega)
    rw [E4.out, E5.out] at hrow6
    exact bodyPost_ret (v := .tuple #[.slice (some ⟨g, 0, none⟩) 64 c4, .int .i64 0]) (by simp [results, Try.results31, go_sem]) rfl (encqPost_yes HE.out (lnq_isB hp HS.out htk (by rw [E5.out]; exact hrow6)) hB)
  
set_option maxRecDepth 100000 in
set_option maxHeartbeats 4000000 in
theorem encq_1ft (m : Nat) (a : Int) (p : List UInt8) (hm : m ≤ 56) (a0 : 0 ≤ a) (a1 : a < 65536) (hp : p.length = 56) (W : World) : Calls Try.prog 31 #[.agg (LV 1 true false m a p)] W (EncqPost 1 true false m a p W) := by
  have hB := (Below.refl W.heap.size W).alloc (Nat.le_refl _) (.cells (LV 1 true false m a p) 40)
  have r1 := Row.born W 40 (LV 1 true false m a p)
  go_enter Try.func31, Try.ntmps31
  go_upto_region 1 with (fail)
  generalize W.alloc (.cells (LV 1 true false m a p) 40) = w1 at *
  have hl1 := r1.lt
  obtain ⟨c0, c1, c2, c3, c4⟩ := line_cells r1
  have b3 : decide ((m : Int) < 0) = false := by simp
  have b4 : decide (56 < (m : Int)) = false := by simp; omega
  have b4' : decide (56 < m) = false := by simp; omega
  have hmi : (m : Int) ≤ 56 := by omega
  cases hcl : clr m p
  · have HC := Lib.hid hcl
    have HE := Lib.hid (show lnE 1 true false m p = 54 by simp [lnE, lnOk1, lnOk2, hcl, hmi])
    clear hcl
    go_wp2_with (first | ((with_reducible refine wp_load_g ?_ r1.range Try.underlying40 rfl (line_info _ _ _ _ _ hp) ?_ ?_); rfl; rfl) | (go_at_call 95; refine (clear0 _ _ _ m a p hm hp _).mono ?_; rintro e' w2 ⟨rfl, hb2⟩; rw [HC.out]))
    exact bodyPost_ret (v := .tuple #[.slice none 0 0, .int .i64 54]) (by simp [results, Try.results31, go_sem]) rfl (encqPost_no HE.out (hB.trans (hb2.mono hB.size)))
  · have HC := Lib.hid hcl
    have HE := Lib.hid (show lnE 1 true false m p = 0 by simp [lnE, lnOk1, lnOk2, hcl, hmi])
    clear hcl
    go_upto_region 5 with (first | ((with_reducible refine wp_load_g ?_ r1.range Try.underlying40 rfl (line_info _ _ _ _ _ hp) ?_ ?_); rfl; rfl) | (go_at_call 95; refine (clear0 _ _ _ m a p hm hp _).mono ?_; rintro e' w2 ⟨rfl, hb2⟩; rw [HC.out]; have k0 := (hb2.cell (p := ⟨W.heap.size, 0, none⟩) hl1).trans c0; have k1 := (hb2.cell (p := ⟨W.heap.size, 1, none⟩) hl1).trans c1; have k2 := (hb2.cell (p := ⟨W.heap.size, 2, none⟩) hl1).trans c2; have k3 := (hb2.cell (p := ⟨W.heap.size, 3, none⟩) hl1).trans c3))
    have r1 := r1.below hb2 hl1
    have hB := hB.trans (hb2.mono hB.size)
    clear c0 c1 c2 c3 c4 k0 k1 k2 k3 hb2 b3 b4 b4'
    obtain ⟨c0, c1, c2, c3, c4⟩ := line_cells r1
    have hl1 := r1.lt
    go_upto_region 10 with (fail)
    have hal : 0 ≤ a / 256 ∧ a / 256 < 256 := by omega
    have hmw : IntKind.u8.wrap (m : Int) = (m : Int) := by rw [IntKind.wrap_u8]; omega
    have haw : IntKind.u8.wrap (a / 256) = a / 256 := by rw [IntKind.wrap_u8]; omega
    have hax : IntKind.u8.wrap a = a % 256 := by rw [IntKind.wrap_u8]
    have HV := Lib.hid (show #[Value.int .u8 9, Value.int .u8 (m : Int), Value.int .u8 (a % 256), Value.int .u8 (a / 256), b0, b0, b0, b0] = #[bv (hdB 1 true false), bv (UInt8.ofNat (m : Int).toNat), bv (UInt8.ofNat (a.toNat % 256)), bv (UInt8.ofNat (a.toNat / 256)), b0, b0, b0, b0] from vals8 1 true false rfl hm a0 a1)
    refine wp_region_tailN (n := 84) 14 (fun w' => Below w2.heap.size w2 w') (fun w1 w2 => Below w1.heap.size w1 w2) (by kernel_rfl) (by kernel_rfl) (by decide) (by rfl) (Below.refl _ _).drew ?_
    simp only [List.take_succ_cons, List.take_zero, List.drop_succ_cons, List.drop_zero]
    refine tail_pure (fun w => Below.refl _ w) (v := .int .u8 9) (fun _ => rfl) ?_ ?_; (focus (intro us w9 hS9 hF; clear hF; have k0 := (hS9.cell (p := ⟨W.heap.size, 0, none⟩) hl1).trans c0; have k3 := (hS9.cell (p := ⟨W.heap.size, 3, none⟩) hl1).trans c3; have k4 := (hS9.cell (p := ⟨W.heap.size, 4, none⟩) hl1).trans c4; clear hS9; go_simp; (try with_reducible rfl); done)); simp only [Act.put, List.setIfInBounds_toArray, List.set_cons_zero, List.set_cons_succ, Nat.reduceAdd]
    refine tail_pure (fun w => Below.refl _ w) (v := .pointer (some ⟨W.heap.size, 3, none⟩)) (fun _ => rfl) ?_ ?_; (focus (intro us w9 hS9 hF; clear hF; have k0 := (hS9.cell (p := ⟨W.heap.size, 0, none⟩) hl1).trans c0; have k3 := (hS9.cell (p := ⟨W.heap.size, 3, none⟩) hl1).trans c3; have k4 := (hS9.cell (p := ⟨W.heap.size, 4, none⟩) hl1).trans c4; clear hS9; go_simp; (try with_reducible rfl); done)); simp only [Act.put, List.setIfInBounds_toArray, List.set_cons_zero, List.set_cons_succ, Nat.reduceAdd]
    refine tail_pure (fun w => Below.refl _ w) (v := .int .i64 (m : Int)) (fun _ => rfl) ?_ ?_; (focus (intro us w9 hS9 hF; clear hF; have k0 := (hS9.cell (p := ⟨W.heap.size, 0, none⟩) hl1).trans c0; have k3 := (hS9.cell (p := ⟨W.heap.size, 3, none⟩) hl1).trans c3; have k4 := (hS9.cell (p := ⟨W.heap.size, 4, none⟩) hl1).trans c4; clear hS9; go_simp; (try with_reducible rfl); done)); simp only [Act.put, List.setIfInBounds_toArray, List.set_cons_zero, List.set_cons_succ, Nat.reduceAdd]
    refine tail_pure (fun w => Below.refl _ w) (v := .int .u8 (m : Int)) (fun _ => rfl) ?_ ?_; (focus (intro us w9 hS9 hF; clear hF; clear hS9; go_simp; done)); simp only [Act.put, List.setIfInBounds_toArray, List.set_cons_zero, List.set_cons_succ, Nat.reduceAdd]
    refine tail_pure (fun w => Below.refl _ w) (v := .pointer (some ⟨W.heap.size, 4, none⟩)) (fun _ => rfl) ?_ ?_; (focus (intro us w9 hS9 hF; clear hF; have k0 := (hS9.cell (p := ⟨W.heap.size, 0, none⟩) hl1).trans c0; have k3 := (hS9.cell (p := ⟨W.heap.size, 3, none⟩) hl1).trans c3; have k4 := (hS9.cell (p := ⟨W.heap.size, 4, none⟩) hl1).trans c4; clear hS9; go_simp; (try with_reducible rfl); done)); simp only [Act.put, List.setIfInBounds_toArray, List.set_cons_zero, List.set_cons_succ, Nat.reduceAdd]
    refine tail_pure (fun w => Below.refl _ w) (v := .int .u16 a) (fun _ => rfl) ?_ ?_; (focus (intro us w9 hS9 hF; clear hF; have k0 := (hS9.cell (p := ⟨W.heap.size, 0, none⟩) hl1).trans c0; have k3 := (hS9.cell (p := ⟨W.heap.size, 3, none⟩) hl1).trans c3; have k4 := (hS9.cell (p := ⟨W.heap.size, 4, none⟩) hl1).trans c4; clear hS9; go_simp; (try with_reducible rfl); done)); simp only [Act.put, List.setIfInBounds_toArray, List.set_cons_zero, List.set_cons_succ, Nat.reduceAdd]
    refine tail_pure (fun w => Below.refl _ w) (v := .int .u8 (a % 256)) (fun _ => rfl) ?_ ?_; (focus (intro us w9 hS9 hF; clear hF; clear hS9; go_simp; done)); simp only [Act.put, List.setIfInBounds_toArray, List.set_cons_zero, List.set_cons_succ, Nat.reduceAdd]
    refine tail_pure (fun w => Below.refl _ w) (v := .pointer (some ⟨W.heap.size, 4, none⟩)) (fun _ => rfl) ?_ ?_; (focus (intro us w9 hS9 hF; clear hF; have k0 := (hS9.cell (p := ⟨W.heap.size, 0, none⟩) hl1).trans c0; have k3 := (hS9.cell (p := ⟨W.heap.size, 3, none⟩) hl1).trans c3; have k4 := (hS9.cell (p := ⟨W.heap.size, 4, none⟩) hl1).trans c4; clear hS9; go_simp; (try with_reducible rfl); done)); simp only [Act.put, List.setIfInBounds_toArray, List.set_cons_zero, List.set_cons_succ, Nat.reduceAdd]
    refine tail_pure (fun w => Below.refl _ w) (v := .int .u16 a) (fun _ => rfl) ?_ ?_; (focus (intro us w9 hS9 hF; clear hF; have k0 := (hS9.cell (p := ⟨W.heap.size, 0, none⟩) hl1).trans c0; have k3 := (hS9.cell (p := ⟨W.heap.size, 3, none⟩) hl1).trans c3; have k4 := (hS9.cell (p := ⟨W.heap.size, 4, none⟩) hl1).trans c4; clear hS9; go_simp; (try with_reducible rfl); done)); simp only [Act.put, List.setIfInBounds_toArray, List.set_cons_zero, List.set_cons_succ, Nat.reduceAdd]
    refine tail_pure (fun w => Below.refl _ w) (v := .int .u16 (a / 256)) (fun _ => rfl) ?_ ?_; (focus (intro us w9 hS9 hF; clear hF; clear hS9; go_simp; done)); simp only [Act.put, List.setIfInBounds_toArray, List.set_cons_zero, List.set_cons_succ, Nat.reduceAdd]
    refine tail_pure (fun w => Below.refl _ w) (v := .int .u8 (a / 256)) (fun _ => rfl) ?_ ?_; (focus (intro us w9 hS9 hF; clear hF; clear hS9; go_simp; done)); simp only [Act.put, List.setIfInBounds_toArray, List.set_cons_zero, List.set_cons_succ, Nat.reduceAdd]
    refine tail_free (HdB W.heap.size #[bv (hdB 1 true false), bv (UInt8.ofNat (m : Int).toNat), bv (UInt8.ofNat (a.toNat % 256)), bv (UInt8.ofNat (a.toNat / 256)), b0, b0, b0, b0]) (fun u w1 w2 hg h => HdB.mono hg h) ?_ ?_; (focus (intro us w9 hS9 hF K hK; clear hF; refine step_build8 (v0 := .int .u8 9) (v1 := .int .u8 (m : Int)) (v2 := .int .u8 (a % 256)) (v3 := .int .u8 (a / 256)) rfl rfl rfl rfl rfl (by rfl) ?_; exact hK _ _ (hS9.alloc hS9.size _) ((Below.refl _ _).alloc (Nat.le_refl _) _) ⟨w9.heap.size, rfl, by have := hS9.size; have := hB.size; omega, by rw [← HV.out]; exact Row.born _ _ _⟩)); simp only [Act.put, List.setIfInBounds_toArray, List.set_cons_zero, List.set_cons_succ, Nat.reduceAdd]
    refine tail_pure (fun w => Below.refl _ w) (v := .pointer (some ⟨W.heap.size, 5, none⟩)) (fun _ => rfl) ?_ ?_; (focus (intro us w9 hS9 hF; clear hF; have k0 := (hS9.cell (p := ⟨W.heap.size, 0, none⟩) hl1).trans c0; have k3 := (hS9.cell (p := ⟨W.heap.size, 3, none⟩) hl1).trans c3; have k4 := (hS9.cell (p := ⟨W.heap.size, 4, none⟩) hl1).trans c4; clear hS9; go_simp; (try with_reducible rfl); done)); simp only [Act.put, List.setIfInBounds_toArray, List.set_cons_zero, List.set_cons_succ, Nat.reduceAdd]
    refine tail_pure (fun w => Below.refl _ w) (v := .slice (some ⟨W.heap.size, 5, none⟩) 56 56) (fun _ => rfl) ?_ ?_; (focus (intro us w9 hS9 hF; clear hF; have k0 := (hS9.cell (p := ⟨W.heap.size, 0, none⟩) hl1).trans c0; have k3 := (hS9.cell (p := ⟨W.heap.size, 3, none⟩) hl1).trans c3; have k4 := (hS9.cell (p := ⟨W.heap.size, 4, none⟩) hl1).trans c4; clear hS9; go_simp; (try with_reducible rfl); done)); simp only [Act.put, List.setIfInBounds_toArray, List.set_cons_zero, List.set_cons_succ, Nat.reduceAdd]
    refine tail_done fun us w3 hS3 hF => ?_
    obtain ⟨gb, hu, hgb, hrb⟩ := hF _ (List.mem_cons_self ..)
    dsimp only at hu
    clear hF
    simp only [hu]
    have r3 := r1.below hS3 hl1
    have hB := hB.trans (hS3.mono hB.size)
    clear hS3 r1 c0 c1 c2 c3 c4 hu
    have hown : OwnB w3 gb 5 (some ⟨gb, 0, none⟩) 8 8 (ln8 1 true false m a 0 0) := own8 hrb
    have hpay := pay_isB r3 hp
    go_upto_region 11 with ((at_builtin; (refine wp_append_b (P := Try.prog) rfl _ _ 44 rfl Try.underlying44 info_u8 hown hpay (by omega) (Nat.le_of_lt hrb.lt) rfl rfl ?_); intro A4 n4 c4 w4 hn4 ho4 hb4 hg4 hat4))
    have hgw : W.heap.size ≤ gb := hgb
    have hB := hB.trans (hb4.mono hgw)
    have hn4' := hn4.out
    subst hn4'
    have hI4 := ho4.isB
    obtain ⟨S, hS⟩ : ∃ S, S = lnS 1 true false m a p := ⟨_, rfl⟩
    have HS := Lib.hid hS
    have hS2 : S ≤ 65535 := by rw [hS]; exact sum16_le _
    clear hS hg4 hat4 hpay hown hrb r3 hn4
    obtain ⟨g, cap, cur, hA, hge, hrow, hcap, _, hcs, htk⟩ := ho4.big (by omega)
    subst hA
    clear ho4
    go_upto_region 12 with (go_at_call 96; refine (sum_ref _ _ _ _ _ hI4 (by omega)).mono ?_; rintro e w' ⟨rfl, rfl⟩; rw [show sum16 (ln8 1 true false m a 0 0 ++ p) = S from HS.out.symm])
    have hrow : Row w4 g 5 cur := hrow
    have e4 : Value.int .u8 ((S : Int) / 256) = bv (UInt8.ofNat (S / 256)) := by rw [show (S : Int) / 256 = ((S / 256 : Nat) : Int) by omega]; exact bv_nat _ (by omega)
    have e5 : Value.int .u8 ((S : Int) % 256) = bv (UInt8.ofNat (S % 256)) := by rw [show (S : Int) % 256 = ((S % 256 : Nat) : Int) by omega]; exact bv_nat _ (by omega)
    have E4 := Lib.hid e4
    have E5 := Lib.hid e5
    clear e4 e5 hI4
    obtain ⟨x4, hx4⟩ := cur_cell hrow 4 (by omega)
    obtain ⟨x5, hx5⟩ := cur_cell hrow 5 (by omega)
    have bf := hrow.frozen
    go_upto_region 13 with (fail)
    have hrow5 := hrow.set 4 (.int .u8 ((S : Int) / 256))
    have u5 := Upd.setCell w4 g 4 (.int .u8 ((S : Int) / 256))
    have hB := Upd.below hB u5 (by omega)
    obtain ⟨x5', hx5'⟩ := cur_cell hrow5 5 (by rw [Array.size_setIfInBounds]; omega)
    generalize w4.setCell ⟨g, 4, none⟩ (.int .u8 ((S : Int) / 256)) = w5 at *
    clear hx4 hx5 u5 bf
    have bf := hrow5.frozen
    go_wp2
    have hrow6 := hrow5.set 5 (.int .u8 ((S : Int) % 256))
    have u6 := Upd.setCell w5 g 5 (.int .u8 ((S : Int) % 256))
    have hB := Upd.below hB u6 (by omega)
    rw [E4.out, E5.out] at hrow6
    exact bodyPost_ret (v := .tuple #[.slice (some ⟨g, 0, none⟩) 64 c4, .int .i64 0]) (by simp [results, Try.results31, go_sem]) rfl (encqPost_yes HE.out (lnq_isB hp HS.out htk (by rw [E5.out]; exact hrow6)) hB)
  
set_option maxRecDepth 100000 in
set_option maxHeartbeats 4000000 in
theorem encq_1ff (m : Nat) (a : Int) (p : List UInt8) (hm : m ≤ 56) (a0 : 0 ≤ a) (a1 : a < 65536) (hp : p.length = 56) (W : World) : Calls Try.prog 31 #[.agg (LV 1 false false m a p)] W (EncqPost 1 false false m a p W) := by
  have hB := (Below.refl W.heap.size W).alloc (Nat.le_refl _) (.cells (LV 1 false false m a p) 40)
  have r1 := Row.born W 40 (LV 1 false false m a p)
  go_enter Try.func31, Try.ntmps31
  go_upto_region 1 with (fail)
  generalize W.alloc (.cells (LV 1 false false m a p) 40) = w1 at *
  have hl1 := r1.lt
  obtain ⟨c0, c1, c2, c3, c4⟩ := line_cells r1
  have b3 : decide ((m : Int) < 0) = false := by simp
  have b4 : decide (56 < (m : Int)) = false := by simp; omega
  have b4' : decide (56 < m) = false := by simp; omega
  have hmi : (m : Int) ≤ 56 := by omega
  cases hcl : clr m p
  · have HC := Lib.hid hcl
    have HE := Lib.hid (show lnE 1 false false m p = 54 by simp [lnE, lnOk1, lnOk2, hcl, hmi])
    clear hcl
    go_wp2_with (first | ((with_reducible refine wp_load_g ?_ r1.range Try.underlying40 rfl (line_info _ _ _ _ _ hp) ?_ ?_); rfl; rfl) | (go_at_call 95; refine (clear0 _ _ _ m a p hm hp _).mono ?_; rintro e' w2 ⟨rfl, hb2⟩; rw [HC.out]))
    exact bodyPost_ret (v := .tuple #[.slice none 0 0, .int .i64 54]) (by simp [results, Try.results31, go_sem]) rfl (encqPost_no HE.out (hB.trans (hb2.mono hB.size)))
  · have HC := Lib.hid hcl
    have HE := Lib.hid (show lnE 1 false false m p = 0 by simp [lnE, lnOk1, lnOk2, hcl, hmi])
    clear hcl
    go_upto_region 5 with (first | ((with_reducible refine wp_load_g ?_ r1.range Try.underlying40 rfl (line_info _ _ _ _ _ hp) ?_ ?_); rfl; rfl) | (go_at_call 95; refine (clear0 _ _ _ m a p hm hp _).mono ?_; rintro e' w2 ⟨rfl, hb2⟩; rw [HC.out]; have k0 := (hb2.cell (p := ⟨W.heap.size, 0, none⟩) hl1).trans c0; have k1 := (hb2.cell (p := ⟨W.heap.size, 1, none⟩) hl1).trans c1; have k2 := (hb2.cell (p := ⟨W.heap.size, 2, none⟩) hl1).trans c2; have k3 := (hb2.cell (p := ⟨W.heap.size, 3, none⟩) hl1).trans c3))
    have r1 := r1.below hb2 hl1
    have hB := hB.trans (hb2.mono hB.size)
    clear c0 c1 c2 c3 c4 k0 k1 k2 k3 hb2 b3 b4 b4'
    obtain ⟨c0, c1, c2, c3, c4⟩ := line_cells r1
    have hl1 := r1.lt
    go_upto_region 10 with (fail)
    have hal : 0 ≤ a / 256 ∧ a / 256 < 256 := by omega
    have hmw : IntKind.u8.wrap (m : Int) = (m : Int) := by rw [IntKind.wrap_u8]; omega
    have haw : IntKind.u8.wrap (a / 256) = a / 256 := by rw [IntKind.wrap_u8]; omega
    have hax : IntKind.u8.wrap a = a % 256 := by rw [IntKind.wrap_u8]
    have HV := Lib.hid (show #[Value.int .u8 1, Value.int .u8 (m : Int), Value.int .u8 (a % 256), Value.int .u8 (a / 256), b0, b0, b0, b0] = #[bv (hdB 1 false false), bv (UInt8.ofNat (m : Int).toNat), bv (UInt8.ofNat (a.toNat % 256)), bv (UInt8.ofNat (a.toNat / 256)), b0, b0, b0, b0] from vals8 1 false false rfl hm a0 a1)
    refine wp_region_tailN (n := 84) 14 (fun w' => Below w2.heap.size w2 w') (fun w1 w2 => Below w1.heap.size w1 w2) (by kernel_rfl) (by kernel_rfl) (by decide) (by rfl) (Below.refl _ _).drew ?_
    simp only [List.take_succ_cons, List.take_zero, List.drop_succ_cons, List.drop_zero]
    refine tail_pure (fun w => Below.refl _ w) (v := .int .u8 1) (fun _ => rfl) ?_ ?_; (focus (intro us w9 hS9 hF; clear hF; have k0 := (hS9.cell (p := ⟨W.heap.size, 0, none⟩) hl1).trans c0; have k3 := (hS9.cell (p := ⟨W.heap.size, 3, none⟩) hl1).trans c3; have k4 := (hS9.cell (p := ⟨W.heap.size, 4, none⟩) hl1).trans c4; clear hS9; go_simp; (try with_reducible rfl); done)); simp only [Act.put, List.setIfInBounds_toArray, List.set_cons_zero, List.set_cons_succ, Nat.reduceAdd]
    refine tail_pure (fun w => Below.refl _ w) (v := .pointer (some ⟨W.heap.size, 3, none⟩)) (fun _ => rfl) ?_ ?_; (focus (intro us w9 hS9 hF; clear hF; have k0 := (hS9.cell (p := ⟨W.heap.size, 0, none⟩) hl1).trans c0; have k3 := (hS9.cell (p := ⟨W.heap.size, 3, none⟩) hl1).trans c3; have k4 := (hS9.cell (p := ⟨W.heap.size, 4, none⟩) hl1).trans c4; clear hS9; go_simp; (try with_reducible rfl); done)); simp only [Act.put, List.setIfInBounds_toArray, List.set_cons_zero, List.set_cons_succ, Nat.reduceAdd]
    refine tail_pure (fun w => Below.refl _ w) (v := .int .i64 (m : Int)) (fun _ => rfl) ?_ ?_; (focus (intro us w9 hS9 hF; clear hF; have k0 := (hS9.cell (p := ⟨W.heap.size, 0, none⟩) hl1).trans c0; have k3 := (hS9.cell (p := ⟨W.heap.size, 3, none⟩) hl1).trans c3; have k4 := (hS9.cell (p := ⟨W.heap.size, 4, none⟩) hl1).trans c4; clear hS9; go_simp; (try with_reducible rfl); done)); simp only [Act.put, List.setIfInBounds_toArray, List.set_cons_zero, List.set_cons_succ, Nat.reduceAdd]
    refine tail_pure (fun w => Below.refl _ w) (v := .int .u8 (m : Int)) (fun _ => rfl) ?_ ?_; (focus (intro us w9 hS9 hF; clear hF; clear hS9; go_simp; done)); simp only [Act.put, List.setIfInBounds_toArray, List.set_cons_zero, List.set_cons_succ, Nat.reduceAdd]
    refine tail_pure (fun w => Below.refl _ w) (v := .pointer (some ⟨W.heap.size, 4, none⟩)) (fun _ => rfl) ?_ ?_; (focus (intro us w9 hS9 hF; clear hF; have k0 := (hS9.cell (p := ⟨W.heap.size, 0, none⟩) hl1).trans c0; have k3 := (hS9.cell (p := ⟨W.heap.size, 3, none⟩) hl1).trans c3; have k4 := (hS9.cell (p := ⟨W.heap.size, 4, none⟩) hl1).trans c4; clear hS9; go_simp; (try with_reducible rfl); done)); simp only [Act.put, List.setIfInBounds_toArray, List.set_cons_zero, List.set_cons_succ, Nat.reduceAdd]
    refine tail_pure (fun w => Below.refl _ w) (v := .int .u16 a) (fun _ => rfl) ?_ ?_; (focus (intro us w9 hS9 hF; clear hF; have k0 := (hS9.cell (p := ⟨W.heap.size, 0, none⟩) hl1).trans c0; have k3 := (hS9.cell (p := ⟨W.heap.size, 3, none⟩) hl1).trans c3; have k4 := (hS9.cell (p := ⟨W.heap.size, 4, none⟩) hl1).trans c4; clear hS9; go_simp; (try with_reducible rfl); done)); simp only [Act.put, List.setIfInBounds_toArray, List.set_cons_zero, List.set_cons_succ, Nat.reduceAdd]
    refine tail_pure (fun w => Below.refl _ w) (v := .int .u8 (a % 256)) (fun _ => rfl) ?_ ?_; (focus (intro us w9 hS9 hF; clear hF; clear hS9; go_simp; done)); simp only [Act.put, List.setIfInBounds_toArray, List.set_cons_zero, List.set_cons_succ, Nat.reduceAdd]
    refine tail_pure (fun w => Below.refl _ w) (v := .pointer (some ⟨W.heap.size, 4, none⟩)) (fun _ => rfl) ?_ ?_; (focus (intro us w9 hS9 hF; clear hF; have k0 := (hS9.cell (p := ⟨W.heap.size, 0, none⟩) hl1).trans c0; have k3 := (hS9.cell (p := ⟨W.heap.size, 3, none⟩) hl1).trans c3; have k4 := (hS9.cell (p := ⟨W.heap.size, 4, none⟩) hl1).trans c4; clear hS9; go_simp; (try with_reducible rfl); done)); simp only [Act.put, List.setIfInBounds_toArray, List.set_cons_zero, List.set_cons_succ, Nat.reduceAdd]
    refine tail_pure (fun w => Below.refl _ w) (v := .int .u16 a) (fun _ => rfl) ?_ ?_; (focus (intro us w9 hS9 hF; clear hF; have k0 := (hS9.cell (p := ⟨W.heap.size, 0, none⟩) hl1).trans c0; have k3 := (hS9.cell (p := ⟨W.heap.size, 3, none⟩) hl1).trans c3; have k4 := (hS9.cell (p := ⟨W.heap.size, 4, none⟩) hl1).trans c4; clear hS9; go_simp; (try with_reducible rfl); done)); simp only [Act.put, List.setIfInBounds_toArray, List.set_cons_zero, List.set_cons_succ, Nat.reduceAdd]
    refine tail_pure (fun w => Below.refl _ w) (v := .int .u16 (a / 256)) (fun _ => rfl) ?_ ?_; (focus (intro us w9 hS9 hF; clear hF; clear hS9; go_simp; done)); simp only [Act.put, List.setIfInBounds_toArray, List.set_cons_zero, List.set_cons_succ, Nat.reduceAdd]
    refine tail_pure (fun w => Below.refl _ w) (v := .int .u8 (a / 256)) (fun _ => rfl) ?_ ?_; (focus (intro us w9 hS9 hF; clear hF; clear hS9; go_simp; done)); simp only [Act.put, List.setIfInBounds_toArray, List.set_cons_zero, List.set_cons_succ, Nat.reduceAdd]
    refine tail_free (HdB W.heap.size #[bv (hdB 1 false false), bv (UInt8.ofNat (m : Int).toNat), bv (UInt8.ofNat (a.toNat % 256)), bv (UInt8.ofNat (a.toNat / 256)), b0, b0, b0, b0]) (fun u w1 w2 hg h => HdB.mono hg h) ?_ ?_; (focus (intro us w9 hS9 hF K hK; clear hF; refine step_build8 (v0 := .int .u8 1) (v1 := .int .u8 (m : Int)) (v2 := .int .u8 (a % 256)) (v3 := .int .u8 (a / 256)) rfl rfl rfl rfl rfl (by rfl) ?_; exact hK _ _ (hS9.alloc hS9.size _) ((Below.refl _ _).alloc (Nat.le_refl _) _) ⟨w9.heap.size, rfl, by have := hS9.size; have := hB.size; omega, by rw [← HV.out]; exact Row.born _ _ _⟩)); simp only [Act.put, List.setIfInBounds_toArray, List.set_cons_zero, List.set_cons_succ, Nat.reduceAdd]
    refine tail_pure (fun w => Below.refl _ w) (v := .pointer (some ⟨W.heap.size, 5, none⟩)) (fun _ => rfl) ?_ ?_; (focus (intro us w9 hS9 hF; clear hF; have k0 := (hS9.cell (p := ⟨W.heap.size, 0, none⟩) hl1).trans c0; have k3 := (hS9.cell (p := ⟨W.heap.size, 3, none⟩) hl1).trans c3; have k4 := (hS9.cell (p := ⟨W.heap.size, 4, none⟩) hl1).trans c4; clear hS9; go_simp; (try with_reducible rfl); done)); simp only [Act.put, List.setIfInBounds_toArray, List.set_cons_zero, List.set_cons_succ, Nat.reduceAdd]
    refine tail_pure (fun w => Below.refl _ w) (v := .slice (some ⟨W.heap.size, 5, none⟩) 56 56) (fun _ => rfl) ?_ ?_; (focus (intro us w9 hS9 hF; clear hF; have k0 := (hS9.cell (p := ⟨W.heap.size, 0, none⟩) hl1).trans c0; have k3 := (hS9.cell (p := ⟨W.heap.size, 3, none⟩) hl1).trans c3; have k4 := (hS9.cell (p := ⟨W.heap.size, 4, none⟩) hl1).trans c4; clear hS9; go_simp; (try with_reducible rfl); done)); simp only [Act.put, List.setIfInBounds_toArray, List.set_cons_zero, List.set_cons_succ, Nat.reduceAdd]
    refine tail_done fun us w3 hS3 hF => ?_
    obtain ⟨gb, hu, hgb, hrb⟩ := hF _ (List.mem_cons_self ..)
    dsimp only at hu
    clear hF
    simp only [hu]
    have r3 := r1.below hS3 hl1
    have hB := hB.trans (hS3.mono hB.size)
    clear hS3 r1 c0 c1 c2 c3 c4 hu
    have hown : OwnB w3 gb 5 (some ⟨gb, 0, none⟩) 8 8 (ln8 1 false false m a 0 0) := own8 hrb
    have hpay := pay_isB r3 hp
    go_upto_region 11 with ((at_builtin; (refine wp_append_b (P := Try.prog) rfl _ _ 44 rfl Try.underlying44 info_u8 hown hpay (by omega) (Nat.le_of_lt hrb.lt) rfl rfl ?_); intro A4 n4 c4 w4 hn4 ho4 hb4 hg4 hat4))
    have hgw : W.heap.size ≤ gb := hgb
    have hB := hB.trans (hb4.mono hgw)
    have hn4' := hn4.out
    subst hn4'
    have hI4 := ho4.isB
    obtain ⟨S, hS⟩ : ∃ S, S = lnS 1 false false m a p := ⟨_, rfl⟩
    have HS := Lib.hid hS
    have hS2 : S ≤ 65535 := by rw [hS]; exact sum16_le _
    clear hS hg4 hat4 hpay hown hrb r3 hn4
    obtain ⟨g, cap, cur, hA, hge, hrow, hcap, _, hcs, htk⟩ := ho4.big (by omega)
    subst hA
    clear ho4
    go_upto_region 12 with (go_at_call 96; refine (sum_ref _ _ _ _ _ hI4 (by omega)).mono ?_; rintro e w' ⟨rfl, rfl⟩; rw [show sum16 (ln8 1 false false m a 0 0 ++ p) = S from HS.out.symm])
    have hrow : Row w4 g 5 cur := hrow
    have e4 : Value.int .u8 ((S : Int) / 256) = bv (UInt8.ofNat (S / 256)) := by rw [show (S : Int) / 256 = ((S / 256 : Nat) : Int) by omega]; exact bv_nat _ (by omega)
    have e5 : Value.int .u8 ((S : Int) % 256) = bv (UInt8.ofNat (S % 256)) := by rw [show (S : Int) % 256 = ((S % 256 : Nat) : Int) by omega]; exact bv_nat _ (by omega)
    have E4 := Lib.hid e4
    have E5 := Lib.hid e5
    clear e4 e5 hI4
    obtain ⟨x4, hx4⟩ := cur_cell hrow 4 (by omega)
    obtain ⟨x5, hx5⟩ := cur_cell hrow 5 (by omega)
    have bf := hrow.frozen
    go_upto_region 13 with (fail)
    have hrow5 := hrow.set 4 (.int .u8 ((S : Int) / 256))
    have u5 := Upd.setCell w4 g 4 (.int .u8 ((S : Int) / 256))
    have hB := Upd.below hB u5 (by omega)
    obtain ⟨x5', hx5'⟩ := cur_cell hrow5 5 (by rw [Array.size_setIfInBounds]; omega)
    generalize w4.setCell ⟨g, 4, none⟩ (.int .u8 ((S : Int) / 256)) = w5 at *
    clear hx4 hx5 u5 bf
    have bf := hrow5.frozen
    go_wp2
    have hrow6 := hrow5.set 5 (.int .u8 ((S : Int) % 256))
    have u6 := Upd.setCell w5 g 5 (.int .u8 ((S : Int) % 256))
    have hB := Upd.below hB u6 (by omega)
    rw [E4.out, E5.out] at hrow6
    exact bodyPost_ret (v := .tuple #[.slice (some ⟨g, 0, none⟩) 64 c4, .int .i64 0]) (by simp [results, Try.results31, go_sem]) rfl (encqPost_yes HE.out (lnq_isB hp HS.out htk (by rw [E5.out]; exact hrow6)) hB)
  
set_option maxRecDepth 100000 in
set_option maxHeartbeats 4000000 in
theorem encq_2tt (m : Nat) (a : Int) (p : List UInt8) (hm : m ≤ 56) (a0 : 0 ≤ a) (a1 : a < 65536) (hp : p.length = 56) (W : World) : Calls Try.prog 31 #[.agg (LV 2 true true m a p)] W (EncqPost 2 true true m a p W) := by
  have hB := (Below.refl W.heap.size W).alloc (Nat.le_refl _) (.cells (LV 2 true true m a p) 40)
  have r1 := Row.born W 40 (LV 2 true true m a p)
  go_enter Try.func31, Try.ntmps31
  go_upto_region 1 with (fail)
  generalize W.alloc (.cells (LV 2 true true m a p) 40) = w1 at *
  have hl1 := r1.lt
  obtain ⟨c0, c1, c2, c3, c4⟩ := line_cells r1
  have b3 : decide ((m : Int) < 0) = false := by simp
  have b4 : decide (56 < (m : Int)) = false := by simp; omega
  have b4' : decide (56 < m) = false := by simp; omega
  have hmi : (m : Int) ≤ 56 := by omega
  cases hcl : clr m p
  · have HC := Lib.hid hcl
    have HE := Lib.hid (show lnE 2 true true m p = 54 by simp [lnE, lnOk1, lnOk2, hcl, hmi])
    clear hcl
    go_wp2_with (first | ((with_reducible refine wp_load_g ?_ r1.range Try.underlying40 rfl (line_info _ _ _ _ _ hp) ?_ ?_); rfl; rfl) | (go_at_call 95; refine (clear0 _ _ _ m a p hm hp _).mono ?_; rintro e' w2 ⟨rfl, hb2⟩; rw [HC.out]))
    exact bodyPost_ret (v := .tuple #[.slice none 0 0, .int .i64 54]) (by simp [results, Try.results31, go_sem]) rfl (encqPost_no HE.out (hB.trans (hb2.mono hB.size)))
  · have HC := Lib.hid hcl
    have HE := Lib.hid (show lnE 2 true true m p = 54 by simp [lnE, lnOk1, lnOk2, hcl, hmi])
    clear hcl
    cases hz : ((m : Int) == 0)
    · have hz2 := nat_zf hz
      have hz3 := nat_bf hz
      clear hz
      go_wp2_with (first | ((with_reducible refine wp_load_g ?_ r1.range Try.underlying40 rfl (line_info _ _ _ _ _ hp) ?_ ?_); rfl; rfl) | (go_at_call 95; refine (clear0 _ _ _ m a p hm hp _).mono ?_; rintro e' w2 ⟨rfl, hb2⟩; rw [HC.out]; have k0 := (hb2.cell (p := ⟨W.heap.size, 0, none⟩) hl1).trans c0; have k1 := (hb2.cell (p := ⟨W.heap.size, 1, none⟩) hl1).trans c1; have k2 := (hb2.cell (p := ⟨W.heap.size, 2, none⟩) hl1).trans c2; have k3 := (hb2.cell (p := ⟨W.heap.size, 3, none⟩) hl1).trans c3))
      exact bodyPost_ret (v := .tuple #[.slice none 0 0, .int .i64 54]) (by simp [results, Try.results31, go_sem]) rfl (encqPost_no HE.out (hB.trans (hb2.mono hB.size)))
    · have hz2 := nat_zt hz
      have hz3 := nat_bt hz
      clear hz
      go_wp2_with (first | ((with_reducible refine wp_load_g ?_ r1.range Try.underlying40 rfl (line_info _ _ _ _ _ hp) ?_ ?_); rfl; rfl) | (go_at_call 95; refine (clear0 _ _ _ m a p hm hp _).mono ?_; rintro e' w2 ⟨rfl, hb2⟩; rw [HC.out]; have k0 := (hb2.cell (p := ⟨W.heap.size, 0, none⟩) hl1).trans c0; have k1 := (hb2.cell (p := ⟨W.heap.size, 1, none⟩) hl1).trans c1; have k2 := (hb2.cell (p := ⟨W.heap.size, 2, none⟩) hl1).trans c2; have k3 := (hb2.cell (p := ⟨W.heap.size, 3, none⟩) hl1).trans c3))
      exact bodyPost_ret (v := .tuple #[.slice none 0 0, .int .i64 54]) (by simp [results, Try.results31, go_sem]) rfl (encqPost_no HE.out (hB.trans (hb2.mono hB.size)))
set_option maxRecDepth 100000 in
set_option maxHeartbeats 4000000 in
theorem encq_2tf (m : Nat) (a : Int) (p : List UInt8) (hm : m ≤ 56) (a0 : 0 ≤ a) (a1 : a < 65536) (hp : p.length = 56) (W : World) : Calls Try.prog 31 #[.agg (LV 2 false true m a p)] W (EncqPost 2 false true m a p W) := by
  have hB := (Below.refl W.heap.size W).alloc (Nat.le_refl _) (.cells (LV 2 false true m a p) 40)
  have r1 := Row.born W 40 (LV 2 false true m a p)
  go_enter Try.func31, Try.ntmps31
  go_upto_region 1 with (fail)
  generalize W.alloc (.cells (LV 2 false true m a p) 40) = w1 at *
  have hl1 := r1.lt
  obtain ⟨c0, c1, c2, c3, c4⟩ := line_cells r1
  have b3 : decide ((m : Int) < 0) = false := by simp
  have b4 : decide (56 < (m : Int)) = false := by simp; omega
  have b4' : decide (56 < m) = false := by simp; omega
  have hmi : (m : Int) ≤ 56 := by omega
  cases hcl : clr m p
  · have HC := Lib.hid hcl
    have HE := Lib.hid (show lnE 2 false true m p = 54 by simp [lnE, lnOk1, lnOk2, hcl, hmi])
    clear hcl
    go_wp2_with (first | ((with_reducible refine wp_load_g ?_ r1.range Try.underlying40 rfl (line_info _ _ _ _ _ hp) ?_ ?_); rfl; rfl) | (go_at_call 95; refine (clear0 _ _ _ m a p hm hp _).mono ?_; rintro e' w2 ⟨rfl, hb2⟩; rw [HC.out]))
    exact bodyPost_ret (v := .tuple #[.slice none 0 0, .int .i64 54]) (by simp [results, Try.results31, go_sem]) rfl (encqPost_no HE.out (hB.trans (hb2.mono hB.size)))
  · have HC := Lib.hid hcl
    have HE := Lib.hid (show lnE 2 false true m p = 54 by simp [lnE, lnOk1, lnOk2, hcl, hmi])
    clear hcl
    cases hz : ((m : Int) == 0)
    · have hz2 := nat_zf hz
      have hz3 := nat_bf hz
      clear hz
      go_wp2_with (first | ((with_reducible refine wp_load_g ?_ r1.range Try.underlying40 rfl (line_info _ _ _ _ _ hp) ?_ ?_); rfl; rfl) | (go_at_call 95; refine (clear0 _ _ _ m a p hm hp _).mono ?_; rintro e' w2 ⟨rfl, hb2⟩; rw [HC.out]; have k0 := (hb2.cell (p := ⟨W.heap.size, 0, none⟩) hl1).trans c0; have k1 := (hb2.cell (p := ⟨W.heap.size, 1, none⟩) hl1).trans c1; have k2 := (hb2.cell (p := ⟨W.heap.size, 2, none⟩) hl1).trans c2; have k3 := (hb2.cell (p := ⟨W.heap.size, 3, none⟩) hl1).trans c3))
      exact bodyPost_ret (v := .tuple #[.slice none 0 0, .int .i64 54]) (by simp [results, Try.results31, go_sem]) rfl (encqPost_no HE.out (hB.trans (hb2.mono hB.size)))
    · have hz2 := nat_zt hz
      have hz3 := nat_bt hz
      clear hz
      go_wp2_with (first | ((with_reducible refine wp_load_g ?_ r1.range Try.underlying40 rfl (line_info _ _ _ _ _ hp) ?_ ?_); rfl; rfl) | (go_at_call 95; refine (clear0 _ _ _ m a p hm hp _).mono ?_; rintro e' w2 ⟨rfl, hb2⟩; rw [HC.out]; have k0 := (hb2.cell (p := ⟨W.heap.size, 0, none⟩) hl1).trans c0; have k1 := (hb2.cell (p := ⟨W.heap.size, 1, none⟩) hl1).trans c1; have k2 := (hb2.cell (p := ⟨W.heap.size, 2, none⟩) hl1).trans c2; have k3 := (hb2.cell (p := ⟨W.heap.size, 3, none⟩) hl1).trans c3))
      exact bodyPost_ret (v := .tuple #[.slice none 0 0, .int .i64 54]) (by simp [results, Try.results31, go_sem]) rfl (encqPost_no HE.out (hB.trans (hb2.mono hB.size)))
set_option maxRecDepth 100000 in
set_option maxHeartbeats 4000000 in
theorem encq_2ft (m : Nat) (a : Int) (p : List UInt8) (hm : m ≤ 56) (a0 : 0 ≤ a) (a1 : a < 65536) (hp : p.length = 56) (W : World) : Calls Try.prog 31 #[.agg (LV 2 true false m a p)] W (EncqPost 2 true false m a p W) := by
  have hB := (Below.refl W.heap.size W).alloc (Nat.le_refl _) (.cells (LV 2 true false m a p) 40)
  have r1 := Row.born W 40 (LV 2 true false m a p)
  go_enter Try.func31, Try.ntmps31
  go_upto_region 1 with (fail)
  generalize W.alloc (.cells (LV 2 true false m a p) 40) = w1 at *
  have hl1 := r1.lt
  obtain ⟨c0, c1, c2, c3, c4⟩ := line_cells r1
  have b3 : decide ((m : Int) < 0) = false := by simp
  have b4 : decide (56 < (m : Int)) = false := by simp; omega
  have b4' : decide (56 < m) = false := by simp; omega
  have hmi : (m : Int) ≤ 56 := by omega
  cases hcl : clr m p
  · have HC := Lib.hid hcl
    have HE := Lib.hid (show lnE 2 true false m p = 54 by simp [lnE, lnOk1, lnOk2, hcl, hmi])
    clear hcl
    go_wp2_with (first | ((with_reducible refine wp_load_g ?_ r1.range Try.underlying40 rfl (line_info _ _ _ _ _ hp) ?_ ?_); rfl; rfl) | (go_at_call 95; refine (clear0 _ _ _ m a p hm hp _).mono ?_; rintro e' w2 ⟨rfl, hb2⟩; rw [HC.out]))
    exact bodyPost_ret (v := .tuple #[.slice none 0 0, .int .i64 54]) (by simp [results, Try.results31, go_sem]) rfl (encqPost_no HE.out (hB.trans (hb2.mono hB.size)))
  · have HC := Lib.hid hcl
    have HE := Lib.hid (show lnE 2 true false m p = 54 by simp [lnE, lnOk1, lnOk2, hcl, hmi])
    clear hcl
    cases hz : ((m : Int) == 0)
    · have hz2 := nat_zf hz
      have hz3 := nat_bf hz
      clear hz
      go_wp2_with (first | ((with_reducible refine wp_load_g ?_ r1.range Try.underlying40 rfl (line_info _ _ _ _ _ hp) ?_ ?_); rfl; rfl) | (go_at_call 95; refine (clear0 _ _ _ m a p hm hp _).mono ?_; rintro e' w2 ⟨rfl, hb2⟩; rw [HC.out]; have k0 := (hb2.cell (p := ⟨W.heap.size, 0, none⟩) hl1).trans c0; have k1 := (hb2.cell (p := ⟨W.heap.size, 1, none⟩) hl1).trans c1; have k2 := (hb2.cell (p := ⟨W.heap.size, 2, none⟩) hl1).trans c2; have k3 := (hb2.cell (p := ⟨W.heap.size, 3, none⟩) hl1).trans c3))
      exact bodyPost_ret (v := .tuple #[.slice none 0 0, .int .i64 54]) (by simp [results, Try.results31, go_sem]) rfl (encqPost_no HE.out (hB.trans (hb2.mono hB.size)))
    · have hz2 := nat_zt hz
      have hz3 := nat_bt hz
      clear hz
      go_wp2_with (first | ((with_reducible refine wp_load_g ?_ r1.range Try.underlying40 rfl (line_info _ _ _ _ _ hp) ?_ ?_); rfl; rfl) | (go_at_call 95; refine (clear0 _ _ _ m a p hm hp _).mono ?_; rintro e' w2 ⟨rfl, hb2⟩; rw [HC.out]; have k0 := (hb2.cell (p := ⟨W.heap.size, 0, none⟩) hl1).trans c0; have k1 := (hb2.cell (p := ⟨W.heap.size, 1, none⟩) hl1).trans c1; have k2 := (hb2.cell (p := ⟨W.heap.size, 2, none⟩) hl1).trans c2; have k3 := (hb2.cell (p := ⟨W.heap.size, 3, none⟩) hl1).trans c3))
      exact bodyPost_ret (v := .tuple #[.slice none 0 0, .int .i64 54]) (by simp [results, Try.results31, go_sem]) rfl (encqPost_no HE.out (hB.trans (hb2.mono hB.size)))
set_option maxRecDepth 100000 in
set_option maxHeartbeats 4000000 in
theorem encq_2ff (m : Nat) (a : Int) (p : List UInt8) (hm : m ≤ 56) (a0 : 0 ≤ a) (a1 : a < 65536) (hp : p.length = 56) (W : World) : Calls Try.prog 31 #[.agg (LV 2 false false m a p)] W (EncqPost 2 false false m a p W) := by
  have hB := (Below.refl W.heap.size W).alloc (Nat.le_refl _) (.cells (LV 2 false false m a p) 40)
  have r1 := Row.born W 40 (LV 2 false false m a p)
  go_enter Try.func31, Try.ntmps31
  go_upto_region 1 with (fail)
  generalize W.alloc (.cells (LV 2 false false m a p) 40) = w1 at *
  have hl1 := r1.lt
  obtain ⟨c0, c1, c2, c3, c4⟩ := line_cells r1
  have b3 : decide ((m : Int) < 0) = false := by simp
  have b4 : decide (56 < (m : Int)) = false := by simp; omega
  have b4' : decide (56 < m) = false := by simp; omega
  have hmi : (m : Int) ≤ 56 := by omega
  cases hcl : clr m p
  · have HC := Lib.hid hcl
    have HE := Lib.hid (show lnE 2 false false m p = 54 by simp [lnE, lnOk1, lnOk2, hcl, hmi])
    clear hcl
    go_wp2_with (first | ((with_reducible refine wp_load_g ?_ r1.range Try.underlying40 rfl (line_info _ _ _ _ _ hp) ?_ ?_); rfl; rfl) | (go_at_call 95; refine (clear0 _ _ _ m a p hm hp _).mono ?_; rintro e' w2 ⟨rfl, hb2⟩; rw [HC.out]))
    exact bodyPost_ret (v := .tuple #[.slice none 0 0, .int .i64 54]) (by simp [results, Try.results31, go_sem]) rfl (encqPost_no HE.out (hB.trans (hb2.mono hB.size)))
  · have HC := Lib.hid hcl
    cases hz : ((m : Int) == 0)
    · have HE := Lib.hid (show lnE 2 false false m p = 54 by simp [lnE, lnOk1, lnOk2, hcl, hmi, hz])
      have hz2 := nat_zf hz
      have hz3 := nat_bf hz
      clear hcl hz
      go_wp2_with (first | ((with_reducible refine wp_load_g ?_ r1.range Try.underlying40 rfl (line_info _ _ _ _ _ hp) ?_ ?_); rfl; rfl) | (go_at_call 95; refine (clear0 _ _ _ m a p hm hp _).mono ?_; rintro e' w2 ⟨rfl, hb2⟩; rw [HC.out]; have k0 := (hb2.cell (p := ⟨W.heap.size, 0, none⟩) hl1).trans c0; have k1 := (hb2.cell (p := ⟨W.heap.size, 1, none⟩) hl1).trans c1; have k2 := (hb2.cell (p := ⟨W.heap.size, 2, none⟩) hl1).trans c2; have k3 := (hb2.cell (p := ⟨W.heap.size, 3, none⟩) hl1).trans c3))
      exact bodyPost_ret (v := .tuple #[.slice none 0 0, .int .i64 54]) (by simp [results, Try.results31, go_sem]) rfl (encqPost_no HE.out (hB.trans (hb2.mono hB.size)))
    · have hz2 := nat_zt hz
      have hz3 := nat_bt hz
      have HE := Lib.hid (show lnE 2 false false m p = 0 by simp [lnE, lnOk1, lnOk2, hcl, hmi, hz])
      clear hcl hz
      go_upto_region 5 with (first | ((with_reducible refine wp_load_g ?_ r1.range Try.underlying40 rfl (line_info _ _ _ _ _ hp) ?_ ?_); rfl; rfl) | (go_at_call 95; refine (clear0 _ _ _ m a p hm hp _).mono ?_; rintro e' w2 ⟨rfl, hb2⟩; rw [HC.out]; have k0 := (hb2.cell (p := ⟨W.heap.size, 0, none⟩) hl1).trans c0; have k1 := (hb2.cell (p := ⟨W.heap.size, 1, none⟩) hl1).trans c1; have k2 := (hb2.cell (p := ⟨W.heap.size, 2, none⟩) hl1).trans c2; have k3 := (hb2.cell (p := ⟨W.heap.size, 3, none⟩) hl1).trans c3))
      have r1 := r1.below hb2 hl1
      have hB := hB.trans (hb2.mono hB.size)
      clear c0 c1 c2 c3 c4 k0 k1 k2 k3 hb2 b3 b4 b4'
      obtain ⟨c0, c1, c2, c3, c4⟩ := line_cells r1
      have hl1 := r1.lt
      go_upto_region 10 with (fail)
      have hal : 0 ≤ a / 256 ∧ a / 256 < 256 := by omega
      have hmw : IntKind.u8.wrap (m : Int) = (m : Int) := by rw [IntKind.wrap_u8]; omega
      have haw : IntKind.u8.wrap (a / 256) = a / 256 := by rw [IntKind.wrap_u8]; omega
      have hax : IntKind.u8.wrap a = a % 256 := by rw [IntKind.wrap_u8]
      have HV := Lib.hid (show #[Value.int .u8 2, Value.int .u8 (m : Int), Value.int .u8 (a % 256), Value.int .u8 (a / 256), b0, b0, b0, b0] = #[bv (hdB 2 false false), bv (UInt8.ofNat (m : Int).toNat), bv (UInt8.ofNat (a.toNat % 256)), bv (UInt8.ofNat (a.toNat / 256)), b0, b0, b0, b0] from vals8 2 false false rfl hm a0 a1)
      refine wp_region_tailN (n := 84) 14 (fun w' => Below w2.heap.size w2 w') (fun w1 w2 => Below w1.heap.size w1 w2) (by kernel_rfl) (by kernel_rfl) (by decide) (by rfl) (Below.refl _ _).drew ?_
      simp only [List.take_succ_cons, List.take_zero, List.drop_succ_cons, List.drop_zero]
      refine tail_pure (fun w => Below.refl _ w) (v := .int .u8 2) (fun _ => rfl) ?_ ?_; (focus (intro us w9 hS9 hF; clear hF; have k0 := (hS9.cell (p := ⟨W.heap.size, 0, none⟩) hl1).trans c0; have k3 := (hS9.cell (p := ⟨W.heap.size, 3, none⟩) hl1).trans c3; have k4 := (hS9.cell (p := ⟨W.heap.size, 4, none⟩) hl1).trans c4; clear hS9; go_simp; (try with_reducible rfl); done)); simp only [Act.put, List.setIfInBounds_toArray, List.set_cons_zero, List.set_cons_succ, Nat.reduceAdd]
      refine tail_pure (fun w => Below.refl _ w) (v := .pointer (some ⟨W.heap.size, 3, none⟩)) (fun _ => rfl) ?_ ?_; (focus (intro us w9 hS9 hF; clear hF; have k0 := (hS9.cell (p := ⟨W.heap.size, 0, none⟩) hl1).trans c0; have k3 := (hS9.cell (p := ⟨W.heap.size, 3, none⟩) hl1).trans c3; have k4 := (hS9.cell (p := ⟨W.heap.size, 4, none⟩) hl1).trans c4; clear hS9; go_simp; (try with_reducible rfl); done)); simp only [Act.put, List.setIfInBounds_toArray, List.set_cons_zero, List.set_cons_succ, Nat.reduceAdd]
      refine tail_pure (fun w => Below.refl _ w) (v := .int .i64 (m : Int)) (fun _ => rfl) ?_ ?_; (focus (intro us w9 hS9 hF; clear hF; have k0 := (hS9.cell (p := ⟨W.heap.size, 0, none⟩) hl1).trans c0; have k3 := (hS9.cell (p := ⟨W.heap.size, 3, none⟩) hl1).trans c3; have k4 := (hS9.cell (p := ⟨W.heap.size, 4, none⟩) hl1).trans c4; clear hS9; go_simp; (try with_reducible rfl); done)); simp only [Act.put, List.setIfInBounds_toArray, List.set_cons_zero, List.set_cons_succ, Nat.reduceAdd]
      refine tail_pure (fun w => Below.refl _ w) (v := .int .u8 (m : Int)) (fun _ => rfl) ?_ ?_; (focus (intro us w9 hS9 hF; clear hF; clear hS9; go_simp; done)); simp only [Act.put, List.setIfInBounds_toArray, List.set_cons_zero, List.set_cons_succ, Nat.reduceAdd]
      refine tail_pure (fun w => Below.refl _ w) (v := .pointer (some ⟨W.heap.size, 4, none⟩)) (fun _ => rfl) ?_ ?_; (focus (intro us w9 hS9 hF; clear hF; have k0 := (hS9.cell (p := ⟨W.heap.size, 0, none⟩) hl1).trans c0; have k3 := (hS9.cell (p := ⟨W.heap.size, 3, none⟩) hl1).trans c3; have k4 := (hS9.cell (p := ⟨W.heap.size, 4, none⟩) hl1).trans c4; clear hS9; go_simp; (try with_reducible rfl); done)); simp only [Act.put, List.setIfInBounds_toArray, List.set_cons_zero, List.set_cons_succ, Nat.reduceAdd]
      refine tail_pure (fun w => Below.refl _ w) (v := .int .u16 a) (fun _ => rfl) ?_ ?_; (focus (intro us w9 hS9 hF; clear hF; have k0 := (hS9.cell (p := ⟨W.heap.size, 0, none⟩) hl1).trans c0; have k3 := (hS9.cell (p := ⟨W.heap.size, 3, none⟩) hl1).trans c3; have k4 := (hS9.cell (p := ⟨W.heap.size, 4, none⟩) hl1).trans c4; clear hS9; go_simp; (try with_reducible rfl); done)); simp only [Act.put, List.setIfInBounds_toArray, List.set_cons_zero, List.set_cons_succ, Nat.reduceAdd]
      refine tail_pure (fun w => Below.refl _ w) (v := .int .u8 (a % 256)) (fun _ => rfl) ?_ ?_; (focus (intro us w9 hS9 hF; clear hF; clear hS9; go_simp; done)); simp only [Act.put, List.setIfInBounds_toArray, List.set_cons_zero, List.set_cons_succ, Nat.reduceAdd]
      refine tail_pure (fun w => Below.refl _ w) (v := .pointer (some ⟨W.heap.size, 4, none⟩)) (fun _ => rfl) ?_ ?_; (focus (intro us w9 hS9 hF; clear hF; have k0 := (hS9.cell (p := ⟨W.heap.size, 0, none⟩) hl1).trans c0; have k3 := (hS9.cell (p := ⟨W.heap.size, 3, none⟩) hl1).trans c3; have k4 := (hS9.cell (p := ⟨W.heap.size, 4, none⟩) hl1).trans c4; clear hS9; go_simp; (try with_reducible rfl); done)); simp only [Act.put, List.setIfInBounds_toArray, List.set_cons_zero, List.set_cons_succ, Nat.reduceAdd]
      refine tail_pure (fun w => Below.refl _ w) (v := .int .u16 a) (fun _ => rfl) ?_ ?_; (focus (intro us w9 hS9 hF; clear hF; have k0 := (hS9.cell (p := ⟨W.heap.size, 0, none⟩) hl1).trans c0; have k3 := (hS9.cell (p := ⟨W.heap.size, 3, none⟩) hl1).trans c3; have k4 := (hS9.cell (p := ⟨W.heap.size, 4, none⟩) hl1).trans c4; clear hS9; go_simp; (try with_reducible rfl); done)); simp only [Act.put, List.setIfInBounds_toArray, List.set_cons_zero, List.set_cons_succ, Nat.reduceAdd]
      refine tail_pure (fun w => Below.refl _ w) (v := .int .u16 (a / 256)) (fun _ => rfl) ?_ ?_; (focus (intro us w9 hS9 hF; clear hF; clear hS9; go_simp; done)); simp only [Act.put, List.setIfInBounds_toArray, List.set_cons_zero, List.set_cons_succ, Nat.reduceAdd]
      refine tail_pure (fun w => Below.refl _ w) (v := .int .u8 (a / 256)) (fun _ => rfl) ?_ ?_; (focus (intro us w9 hS9 hF; clear hF; clear hS9; go_simp; done)); simp only [Act.put, List.setIfInBounds_toArray, List.set_cons_zero, List.set_cons_succ, Nat.reduceAdd]
      refine tail_free (HdB W.heap.size #[bv (hdB 2 false false), bv (UInt8.ofNat (m : Int).toNat), bv (UInt8.ofNat (a.toNat % 256)), bv (UInt8.ofNat (a.toNat / 256)), b0, b0, b0, b0]) (fun u w1 w2 hg h => HdB.mono hg h) ?_ ?_; (focus (intro us w9 hS9 hF K hK; clear hF; refine step_build8 (v0 := .int .u8 2) (v1 := .int .u8 (m : Int)) (v2 := .int .u8 (a % 256)) (v3 := .int .u8 (a / 256)) rfl rfl rfl rfl rfl (by rfl) ?_; exact hK _ _ (hS9.alloc hS9.size _) ((Below.refl _ _).alloc (Nat.le_refl _) _) ⟨w9.heap.size, rfl, by have := hS9.size; have := hB.size; omega, by rw [← HV.out]; exact Row.born _ _ _⟩)); simp only [Act.put, List.setIfInBounds_toArray, List.set_cons_zero, List.set_cons_succ, Nat.reduceAdd]
      refine tail_pure (fun w => Below.refl _ w) (v := .pointer (some ⟨W.heap.size, 5, none⟩)) (fun _ => rfl) ?_ ?_; (focus (intro us w9 hS9 hF; clear hF; have k0 := (hS9.cell (p := ⟨W.heap.size, 0, none⟩) hl1).trans c0; have k3 := (hS9.cell (p := ⟨W.heap.size, 3, none⟩) hl1).trans c3; have k4 := (hS9.cell (p := ⟨W.heap.size, 4, none⟩) hl1).trans c4; clear hS9; go_simp; (try with_reducible rfl); done)); simp only [Act.put, List.setIfInBounds_toArray, List.set_cons_zero, List.set_cons_succ, Nat.reduceAdd]
      refine tail_pure (fun w => Below.refl _ w) (v := .slice (some ⟨W.heap.size, 5, none⟩) 56 56) (fun _ => rfl) ?_ ?_; (focus (intro us w9 hS9 hF; clear hF; have k0 := (hS9.cell (p := ⟨W.heap.size, 0, none⟩) hl1).trans c0; have k3 := (hS9.cell (p := ⟨W.heap.size, 3, none⟩) hl1).trans c3; have k4 := (hS9.cell (p := ⟨W.heap.size, 4, none⟩) hl1).trans c4; clear hS9; go_simp; (try with_reducible rfl); done)); simp only [Act.put, List.setIfInBounds_toArray, List.set_cons_zero, List.set_cons_succ, Nat.reduceAdd]
      refine tail_done fun us w3 hS3 hF => ?_
      obtain ⟨gb, hu, hgb, hrb⟩ := hF _ (List.mem_cons_self ..)
      dsimp only at hu
      clear hF
      simp only [hu]
      have r3 := r1.below hS3 hl1
      have hB := hB.trans (hS3.mono hB.size)
      clear hS3 r1 c0 c1 c2 c3 c4 hu
      have hown : OwnB w3 gb 5 (some ⟨gb, 0, none⟩) 8 8 (ln8 2 false false m a 0 0) := own8 hrb
      have hpay := pay_isB r3 hp
      go_upto_region 11 with ((at_builtin; (refine wp_append_b (P := Try.prog) rfl _ _ 44 rfl Try.underlying44 info_u8 hown hpay (by omega) (Nat.le_of_lt hrb.lt) rfl rfl ?_); intro A4 n4 c4 w4 hn4 ho4 hb4 hg4 hat4))
      have hgw : W.heap.size ≤ gb := hgb
      have hB := hB.trans (hb4.mono hgw)
      have hn4' := hn4.out
      subst hn4'
      have hI4 := ho4.isB
      obtain ⟨S, hS⟩ : ∃ S, S = lnS 2 false false m a p := ⟨_, rfl⟩
      have HS := Lib.hid hS
      have hS2 : S ≤ 65535 := by rw [hS]; exact sum16_le _
      clear hS hg4 hat4 hpay hown hrb r3 hn4
      obtain ⟨g, cap, cur, hA, hge, hrow, hcap, _, hcs, htk⟩ := ho4.big (by omega)
      subst hA
      clear ho4
      go_upto_region 12 with (go_at_call 96; refine (sum_ref _ _ _ _ _ hI4 (by omega)).mono ?_; rintro e w' ⟨rfl, rfl⟩; rw [show sum16 (ln8 2 false false m a 0 0 ++ p) = S from HS.out.symm])
      have hrow : Row w4 g 5 cur := hrow
      have e4 : Value.int .u8 ((S : Int) / 256) = bv (UInt8.ofNat (S / 256)) := by rw [show (S : Int) / 256 = ((S / 256 : Nat) : Int) by omega]; exact bv_nat _ (by omega)
      have e5 : Value.int .u8 ((S : Int) % 256) = bv (UInt8.ofNat (S % 256)) := by rw [show (S : Int) % 256 = ((S % 256 : Nat) : Int) by omega]; exact bv_nat _ (by omega)
      have E4 := Lib.hid e4
      have E5 := Lib.hid e5
      clear e4 e5 hI4
      obtain ⟨x4, hx4⟩ := cur_cell hrow 4 (by omega)
      obtain ⟨x5, hx5⟩ := cur_cell hrow 5 (by omega)
      have bf := hrow.frozen
      go_upto_region 13 with (fail)
      have hrow5 := hrow.set 4 (.int .u8 ((S : Int) / 256))
      have u5 := Upd.setCell w4 g 4 (.int .u8 ((S : Int) / 256))
      have hB := Upd.below hB u5 (by omega)
      obtain ⟨x5', hx5'⟩ := cur_cell hrow5 5 (by rw [Array.size_setIfInBounds]; omega)
      generalize w4.setCell ⟨g, 4, none⟩ (.int .u8 ((S : Int) / 256)) = w5 at *
      clear hx4 hx5 u5 bf
      have bf := hrow5.frozen
      go_wp2
      have hrow6 := hrow5.set 5 (.int .u8 ((S : Int) % 256))
      have u6 := Upd.setCell w5 g 5 (.int .u8 ((S : Int) % 256))
      have hB := Upd.below hB u6 (by omega)
      rw [E4.out, E5.out] at hrow6
      exact bodyPost_ret (v := .tuple #[.slice (some ⟨g, 0, none⟩) 64 c4, .int .i64 0]) (by simp [results, Try.results31, go_sem]) rfl (encqPost_yes HE.out (lnq_isB hp HS.out htk (by rw [E5.out]; exact hrow6)) hB)
theorem encode_ref (k : Int) (e f : Bool) (n a : Int) (p : List UInt8) (a0 : 0 ≤ a) (a1 : a < 65536) (hp : p.length = 56) (W : World) : Calls Try.prog 31 #[.agg (LV k e f n a p)] W (EncqPost k e f n a p W) := by
  cases h : lnOk1 k n
  · refine (enc_bad31 k e f n a p h W).mono ?_
    rintro e' W' ⟨rfl, hB⟩
    exact ⟨.inl (by simp [lnE, h]), hB⟩
  · obtain ⟨hk, n0, n1⟩ := lnOk1_k h
    obtain ⟨m, rfl⟩ := Int.eq_ofNat_of_zero_le n0
    have hm : m ≤ 56 := by omega
    rcases hk with rfl | rfl <;> cases f <;> cases e
    · exact encq_1ff m a p hm a0 a1 hp W
    · exact encq_1ft m a p hm a0 a1 hp W
    · exact encq_1tf m a p hm a0 a1 hp W
    · exact encq_1tt m a p hm a0 a1 hp W
    · exact encq_2ff m a p hm a0 a1 hp W
    · exact encq_2ft m a p hm a0 a1 hp W
    · exact encq_2tf m a p hm a0 a1 hp W
    · exact encq_2tt m a p hm a0 a1 hp W
end Go.Proofs.Ythjkhambmgepdaa
