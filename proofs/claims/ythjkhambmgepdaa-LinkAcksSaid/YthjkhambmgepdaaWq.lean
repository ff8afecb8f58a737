/- Links: the wire: a message is given at an end; an end transmits a line. -/
import Derived.Test.YthjkhambmgepdaaMf
import Derived.Test.YthjkhambmgepdaaLm
import Derived.Great.BuildSlice
namespace Go.Proofs.Ythjkhambmgepdaa
open Go.RowKit
set_option linter.unusedVariables false
/-- The laws' messages. -/
def fb (j k : Nat) : UInt8 := UInt8.ofNat (j * 7 + k * 31)
def fillB (n number : Nat) : List UInt8 := (List.range n).map fun i => fb i number
theorem fillB_len (n k : Nat) : (fillB n k).length = n := by simp [fillB]
theorem fillB_take {n j : Nat} (k : Nat) (h : j < n) : (fillB n k).take (j + 1) = (fillB n k).take j ++ [fb j k] := by
  rw [List.take_succ_eq_append_getElem (by rw [fillB_len]; exact h)]
  simp [fillB]
def FillP (n k : Nat) (W : World) (en : Ending) (W' : World) : Prop := ∃ g, en = .returned (.slice (some ⟨g, 0, none⟩) n n) ∧ W.heap.size ≤ g ∧ IsB W' (some ⟨g, 0, none⟩) n (fillB n k) ∧ Below W.heap.size W W'
set_option maxRecDepth 100000 in
set_option maxHeartbeats 8000000 in
theorem fill_any (n k : Nat) (W : World) (hn : n ≤ 100000) (hk : k ≤ 100000) : Calls Try.prog 111 #[.int .i64 (n : Int), .int .i64 (k : Int)] W (FillP n k W) := by
  go_enter Try.func111, Try.ntmps111
  go_upto_region 2 with ((at_make; refine wp_make n Try.underlying44 info_b rfl (by omega) (by omega) rfl rfl rfl rfl ?_; intro w1 r1 hB1))
  have r1 : Row w1 W.heap.size 5 (((fillB n k).take 0 ++ List.replicate (n - 0) 0).map bv).toArray := by
    simpa [bv] using r1
  go_wp2
  go_loopw [6] (fun i wr => ∃ j : Nat, j ≤ n ∧ i = .int .i64 j ∧ Row wr W.heap.size 5 (((fillB n k).take j ++ List.replicate (n - j) 0).map bv).toArray ∧ Below W.heap.size W wr) (fun i _ => n - (intOf i).toNat)
  case atStart => exact ⟨0, by omega, rfl, r1, hB1⟩
  case round =>
    obtain ⟨j, hj, rfl, hr, hB⟩ := hrel
    clear r1 hB1
    by_cases hjn : j < n
    · have dj : decide ((j : Int) < (n : Int)) = true := decide_eq_true (by omega)
      have djn : decide (j < n) = true := decide_eq_true hjn
      have hi : (j : Int) < n := by omega
      have hc : Hid (((fillB n k).take j).length = j) := Lib.hid (by rw [List.length_take, fillB_len]; omega)
      have hcell : wr.cell? ⟨W.heap.size, j, none⟩ = some (.int .u8 0) := by
        rw [hr.cell, show n - j = (n - (j + 1)) + 1 by omega, List.replicate_succ]
        have e := hc.out
        have : ((((fillB n k).take j ++ 0 :: List.replicate (n - (j + 1)) 0).map bv).toArray)[((fillB n k).take j).length]? = some (bv 0) := by simp
        rw [e] at this
        exact this
      have hfz := hr.frozen j
      have HN : Hid (Row (wr.setCell ⟨W.heap.size, j, none⟩ (bv (fb j k))) W.heap.size 5 (((fillB n k).take (j + 1) ++ List.replicate (n - (j + 1)) 0).map bv).toArray) := Lib.hid (by
        have h := hr.set j (bv (fb j k))
        have e : ((((fillB n k).take j ++ List.replicate (n - j) 0).map bv).toArray).setIfInBounds j (bv (fb j k)) = (((fillB n k).take j ++ fb j k :: List.replicate (n - (j + 1)) 0).map bv).toArray := by
          rw [show n - j = (n - (j + 1)) + 1 by omega, List.replicate_succ]
          have := bv_set ((fillB n k).take j) (List.replicate (n - (j + 1)) 0) 0 (fb j k)
          rw [hc.out] at this
          exact this
        rw [e] at h
        rw [fillB_take k hjn]
        simpa using h)
      have w1' : IntKind.i64.wrap ((j : Int) * 7) = (j : Int) * 7 := by rw [IntKind.wrap_i64]; omega
      have w2' : IntKind.i64.wrap ((k : Int) * 31) = (k : Int) * 31 := by rw [IntKind.wrap_i64]; omega
      have w3' : IntKind.i64.wrap ((j : Int) * 7 + (k : Int) * 31) = (j : Int) * 7 + (k : Int) * 31 := by rw [IntKind.wrap_i64]; omega
      have HW : Hid (Value.int .u8 (((j : Int) * 7 + (k : Int) * 31) % 256) = bv (fb j k)) := Lib.hid (by
        unfold bv fb
        rw [UInt8.toNat_ofNat']
        congr 1)
      go_upto_region 4 with (fail)
      rw [HW.out]
      go_wp2
      exact ⟨⟨j + 1, by omega, by go_num, HN.out, hB.setCell (Nat.le_refl _) _⟩, by simp [intOf]; omega⟩
    · obtain rfl : j = n := by omega
      have dj : decide ((j : Int) < (j : Int)) = false := decide_eq_false (by omega)
      have djn : decide (j < j) = false := decide_eq_false (by omega)
      have hk1 : (fillB j k).take j = fillB j k := List.take_of_length_le (by rw [fillB_len]; omega)
      rw [hk1, Nat.sub_self, List.replicate_zero, List.append_nil] at hr
      go_wp2
      go_ret
      have hI := IsB.of_row hr
      rw [fillB_len] at hI
      exact ⟨W.heap.size, rfl, Nat.le_refl _, hI, hB⟩
/-- A queue that is a cell of the wire grows, in a region that draws its order: number ib makes the slice of the one element, ia appends, the last one stores. -/
def QS (w0 : World) (g i : Nat) (e : TypeId) (sz : Nat) (A : Option Addr) (n : Nat) (xs : List Value) (L : Array Value) (ib ia : Nat) (c : Nat) (us : Nat → Value) (w' : World) : Prop :=
  (c = 0 → w' = w0) ∧ (c = 1 → us ib = .slice (some ⟨w0.heap.size, 0, none⟩) 1 1 ∧ w' = w0.alloc (.cells L e)) ∧
  (2 ≤ c → ∃ A' c' w2 b, us ia = .slice A' (n + 1) c' ∧ OwnQ w2 e sz A' (n + 1) c' (xs ++ L.toList) ∧ (w0.alloc (.cells L e)).grownBy w2 (blk A) ∧ blk A' = some b ∧ (blk A = some b ∨ (w0.alloc (.cells L e)).heap.size ≤ b) ∧ (c = 2 → w' = w2) ∧ (3 ≤ c → w' = w2.setCell ⟨g, i, none⟩ (.slice A' (n + 1) c')))
section
variable {w0 : World} {g i : Nat} {e : TypeId} {sz : Nat} {A : Option Addr} {n : Nat} {xs : List Value} {L : Array Value} {ib ia is : Nat} {us : Nat → Value} {w' : World}
theorem QS.loc {ops : Array Oper} : ∀ c us us' w, (∀ k, mayAt ops [ib, ia, is] c k = false ∨ k ∈ [ib, ia, is].take c → us k = us' k) → QS w0 g i e sz A n xs L ib ia c us w → QS w0 g i e sz A n xs L ib ia c us' w := by
  intro c us us' w hk ⟨a, b, d⟩
  refine ⟨a, fun hc => ?_, fun hc => ?_⟩
  · rw [← hk ib (.inr (by subst hc; simp))]
    exact b hc
  · rw [← hk ia (.inr (by obtain ⟨k, rfl⟩ : ∃ k, c = k + 2 := ⟨c - 2, by omega⟩; simp))]
    exact d hc
theorem QS.zero : QS w0 g i e sz A n xs L ib ia 0 us w0 := ⟨fun _ => rfl, fun h => by omega, fun h => by omega⟩
theorem QS.one : QS w0 g i e sz A n xs L ib ia 1 (fun k => if k = ib then .slice (some ⟨w0.heap.size, 0, none⟩) 1 1 else us k) (w0.alloc (.cells L e)) :=
  ⟨fun h => by omega, fun _ => ⟨if_pos rfl, rfl⟩, fun h => by omega⟩
theorem QS.early {c : Nat} (h : QS w0 g i e sz A n xs L ib ia c us w') (hc : c < 2) : Below w0.heap.size w0 w' := by
  rcases (show c = 0 ∨ c = 1 by omega) with h1 | h1
  · rw [h.1 h1]; exact Below.refl _ _
  · rw [(h.2.1 h1).2]; exact (Below.refl _ _).alloc (Nat.le_refl _) _
theorem QS.two {A' : Option Addr} {c' b : Nat} {w2 : World} (h2 : OwnQ w2 e sz A' (n + 1) c' (xs ++ L.toList)) (h3 : (w0.alloc (.cells L e)).grownBy w2 (blk A)) (h4 : blk A' = some b) (h5 : blk A = some b ∨ (w0.alloc (.cells L e)).heap.size ≤ b) :
    QS w0 g i e sz A n xs L ib ia 2 (fun k => if k = ia then .slice A' (n + 1) c' else us k) w2 := ⟨fun h => by omega, fun h => by omega, fun _ => ⟨A', c', w2, b, if_pos rfl, h2, h3, h4, h5, fun _ => rfl, fun h => by omega⟩⟩
theorem QS.three {A' : Option Addr} {c' : Nat} {w2 : World} (h : QS w0 g i e sz A n xs L ib ia 2 us w2) (hu : us ia = .slice A' (n + 1) c') : QS w0 g i e sz A n xs L ib ia 3 us (w2.setCell ⟨g, i, none⟩ (.slice A' (n + 1) c')) := by
  obtain ⟨A2, c2, w3, b, hu2, h2, h3, h4, h5, h6, -⟩ := h.2.2 (by omega)
  have e := hu.symm.trans hu2
  injection e with e1 e2 e3
  subst e1 e3
  have e4 := h6 rfl
  subst e4
  exact ⟨fun h => by omega, fun h => by omega, fun _ => ⟨A', c', w2, b, hu, h2, h3, h4, h5, fun h => by omega, fun _ => rfl⟩⟩
end
theorem WM.drew {base g : Nat} {col : Nat → Nat} {w : World} {S : WrS} {p : WrP} (h : WM base g col w S p) : WM base g col w.drew S p := h.below ((Below.refl _ _).drew)
theorem White.undrew {col : Nat → Nat} {w w' : World} (h : White col w.drew w') : White col w w' := ⟨h.os, h.tape, h.output, h.size, h.block⟩
theorem WrS.enq_e {e : LE} {m : List UInt8} (h : Gd e) (hm : m.length ≤ 1048576) (hq : e.q.length < 64) : enqE e m = 0 ∧ enqL e m = { e with q := e.q ++ [m] } := by
  have h1 : enqE e m = 0 := by unfold enqE; rw [if_pos h.v, if_neg (by omega), if_neg (by omega)]
  exact ⟨h1, by unfold enqL; rw [if_pos h1]⟩
theorem WrS.enq_f {e : LE} {m : List UInt8} (h : Gd e) (hm : m.length ≤ 1048576) (hq : e.q.length = 64) : enqE e m = 65 := by
  unfold enqE
  rw [if_pos h.v, if_neg (by omega), if_pos hq]
theorem WrS.pend {e : LE} (h : Gd e) : pendE e = e.q.length := by unfold pendE; rw [if_pos h.v]
def enqR (S : WrS) (s size : Nat) : WrS := if (S.E s).q.length = 64 then S else { S with E := upd S.E s { S.E s with q := (S.E s).q ++ [fillB size (S.V s).length] }, V := upd S.V s (S.V s ++ [fillB size (S.V s).length]) }
set_option maxRecDepth 100000 in
set_option maxHeartbeats 8000000 in
theorem enq_full0 (base g : Nat) (col : Nat → Nat) (w : World) (S : WrS) (p : WrP) (hM : WM base g col w S p) (hgd : Gd (S.E 0)) (size : Nat) (hs : size ≤ 100000) (hV : (S.V 0).length ≤ 100000) (hq : (S.E 0).q.length = 64) : Calls Try.prog 61 #[.pointer (some ⟨g, 0, none⟩), .int .i64 0, .int .i64 (size : Int)] w (WStep base g col w S) := by
  have HE := Lib.hid (WrS.enq_f (m := fillB size (S.V 0).length) hgd (by rw [fillB_len]; omega) hq)
  have HP := Lib.hid (show pendE (S.E 0) = 64 by rw [WrS.pend hgd, hq]; rfl)
  clear hq
  obtain ⟨e9, he9⟩ : ∃ e9, enqL (S.E 0) (fillB size (S.V 0).length) = e9 := ⟨_, rfl⟩
  have HL := Lib.hid he9
  clear he9
  have hlg := hM.lt
  have ht := hgd.ty
  have hHel := fun {w'} (h : WM base g col w' S p) => (h.held 0 (by omega)).now
  obtain ⟨⟨y0, y1, v0, v1, t0, t1⟩, fz, e0, e1⟩ := hM.cells
  go_enter Try.func61, Try.ntmps61
  go_upto_region 2 with (go_at_call 111; refine (fill_any size (S.V 0).length _ (by omega) (by omega)).mono ?_; rintro en w1 ⟨gm, rfl, hgm, hIm, hb1⟩)
  clear y0 y1 v0 v1 t0 t1 fz e0 e1
  have hM1 := hM.below hb1
  obtain ⟨⟨y0, y1, v0, v1, t0, t1⟩, fz, e0, e1⟩ := hM1.cells
  go_upto_region 3 with (first | ((with_reducible refine wp_load_g ?_ e0 Try.underlying69 rfl (lev_info _ _ _ _ _) ?_ ?_); rfl; rfl) | (go_at_call 42; refine (enq_is HE.out HL.out (fillB_len size _).symm ht (hHel hM1) hIm).mono ?_; rintro en w3 ⟨A3, c3, B3, d3, rfl, hH3, hb3⟩) | ((with_reducible refine wp_row_store (L := LEV e9 A3 c3 B3 d3) (Row.bornAt (g := w3.heap.size) rfl 69 _) ?_ (lev_info _ _ _ _ _) (lev_one _ _ _ _ _) ?_ ?_ ?_); rfl; rfl; rfl; intro w4 u4 r4))
  have hal := (Below.refl w3.heap.size w3).alloc (Nat.le_refl _) (.cells ZE 69)
  have hal2 := Upd.below (hb3.trans (hal.mono hb3.size)) u4 hb3.size
  clear y0 y1 v0 v1 t0 t1 fz e0 e1
  have hM4 := hM1.below hal2
  obtain ⟨⟨y0, y1, v0, v1, t0, t1⟩, fz, e0, e1⟩ := hM4.cells
  go_wp2_with (first | ((with_reducible refine wp_load_g ?_ e0 Try.underlying69 rfl (lev_info _ _ _ _ _) ?_ ?_); rfl; rfl) | (go_at_call 43; refine (pend_is HP.out ht (hHel hM4)).mono ?_; rintro en w5 ⟨rfl, hb5⟩))
  go_ret
  exact WStep.same hM (hb1.trans ((hal2.trans (hb5.mono hal2.size)).mono hb1.size))
set_option maxRecDepth 100000 in
set_option maxHeartbeats 8000000 in
theorem enq_yes0 (base g : Nat) (col : Nat → Nat) (w : World) (S : WrS) (p : WrP) (hM : WM base g col w S p) (hgd : Gd (S.E 0)) (size : Nat) (hs : size ≤ 100000) (hV : (S.V 0).length ≤ 100000) (hq : (S.E 0).q.length < 64) : Calls Try.prog 61 #[.pointer (some ⟨g, 0, none⟩), .int .i64 0, .int .i64 (size : Int)] w (WStep base g col w { S with E := upd S.E 0 { S.E 0 with q := (S.E 0).q ++ [fillB size (S.V 0).length] }, V := upd S.V 0 (S.V 0 ++ [fillB size (S.V 0).length]) }) := by
  have hen := WrS.enq_e (m := fillB size (S.V 0).length) hgd (by rw [fillB_len]; omega) hq
  have HE := Lib.hid hen.1
  have dq : decide (64 ≤ (S.E 0).q.length) = false := decide_eq_false (by omega)
  have dqi : decide ((64 : Int) ≤ ((S.E 0).q.length : Int)) = false := decide_eq_false (by omega)
  have HP := Lib.hid (WrS.pend hgd)
  obtain ⟨e9, he9⟩ : ∃ e9, ({ S.E 0 with q := (S.E 0).q ++ [fillB size (S.V 0).length] } : LE) = e9 := ⟨_, rfl⟩
  have HL := Lib.hid (hen.2.trans he9)
  rw [he9]
  clear hen he9
  have hlg := hM.lt
  have ht := hgd.ty
  have hHel := fun {w'} (h : WM base g col w' S p) => (h.held 0 (by omega)).now
  obtain ⟨⟨y0, y1, v0, v1, t0, t1⟩, fz, e0, e1⟩ := hM.cells
  go_enter Try.func61, Try.ntmps61
  go_upto_region 2 with (go_at_call 111; refine (fill_any size (S.V 0).length _ (by omega) (by omega)).mono ?_; rintro en w1 ⟨gm, rfl, hgm, hIm, hb1⟩)
  clear y0 y1 v0 v1 t0 t1 fz e0 e1
  have hM1 := hM.below hb1
  obtain ⟨⟨y0, y1, v0, v1, t0, t1⟩, fz, e0, e1⟩ := hM1.cells
  go_upto_region 3 with (first | ((with_reducible refine wp_load_g ?_ e0 Try.underlying69 rfl (lev_info _ _ _ _ _) ?_ ?_); rfl; rfl) | (go_at_call 42; refine (enq_is HE.out HL.out (fillB_len size _).symm ht (hHel hM1) hIm).mono ?_; rintro en w3 ⟨A3, c3, B3, d3, rfl, hH3, hb3⟩) | ((with_reducible refine wp_row_store (L := LEV e9 A3 c3 B3 d3) (Row.bornAt (g := w3.heap.size) rfl 69 _) ?_ (lev_info _ _ _ _ _) (lev_one _ _ _ _ _) ?_ ?_ ?_); rfl; rfl; rfl; intro w4 u4 r4))
  have hal := (Below.refl w3.heap.size w3).alloc (Nat.le_refl _) (.cells ZE 69)
  have hal2 := Upd.below (hb3.trans (hal.mono hb3.size)) u4 hb3.size
  clear y0 y1 v0 v1 t0 t1 fz e0 e1
  have hM4 := hM1.below hal2
  obtain ⟨⟨y0, y1, v0, v1, t0, t1⟩, fz, e0, e1⟩ := hM4.cells
  have hrr : Row w4 w3.heap.size 69 (LEV e9 A3 c3 B3 d3) := r4
  have hH4 := (hH3.below hal).upd u4 (.inr (Nat.le_refl _))
  have hb14 : White col w w4 := White.below (hb1.trans (hal2.mono hb1.size))
  have hsz14 : w.heap.size ≤ w4.heap.size := hb14.size
  have hlo : w.heap.size ≤ w1.heap.size := hb1.size
  have hhi := hH4.1
  have hIm4 := hIm.below hal2
  go_upto_region 7 with (first | ((with_reducible refine wp_load_g ?_ e0 Try.underlying69 rfl (lev_info _ _ _ _ _) ?_ ?_); rfl; rfl) | (go_at_call 43; refine (pend_is HP.out ht (hHel hM4)).mono ?_; rintro en w5 ⟨rfl, hb5⟩))
  clear y0 y1 v0 v1 t0 t1 fz e0 e1
  have hM5 := hM4.below hb5
  have r5 := (show Row w5 w3.heap.size 69 (LEV e9 A3 c3 B3 d3) from hrr.below hb5 hrr.lt)
  have hH5 := hH4.below hb5
  have hIm5 := hIm4.below hb5
  have hb15 := hb14.trans (White.below (col := col) hb5)
  clear hM4 r4 hrr hH4 hIm4 hb14 hM1 hIm hb3 hal hal2 u4 hH3 hb5
  have hhi5 := hH5.1
  have hP5 : Part col 0 w5 (fun w => Held w e9 A3 c3 B3 d3) := Part.held hH5 (fun x h1 h2 => hM.cn x (by omega))
  have hIP : Part col 0 w5 (fun w => IsB w (some ⟨gm, 0, none⟩) (fillB size (S.V 0).length).length (fillB size (S.V 0).length)) := fun w' _ hk => by
    rw [fillB_len]
    exact hIm5.of_same fun b o e h0 => by
      injection e with e
      injection e with e1 e2 e3
      subst e1
      obtain ⟨b, o, e, hc⟩ := hIm5.2 h0
      injection e with e
      injection e with e1 e2 e3
      subst e1
      exact hk _ (World.block_lt_of_cell? w5 ⟨gm, o + 0, none⟩ (hc 0 (by rw [fillB_len]; exact h0))) (hM.cn _ hgm)
  clear hIm5 hH5
  have hrow : Row w5.drew g 94 (([] : List Value) ++ (LEV (S.E 0) (p.A 0) (p.c 0) (p.B 0) (p.d 0)).toList ++ ((LEV (S.E 1) (p.A 1) (p.c 1) (p.B 1) (p.d 1)).toList ++ ([.slice (p.yA 0) (S.Y 0).length (p.yc 0), .slice (p.yA 1) (S.Y 1).length (p.yc 1), .slice (p.vA 0) (S.V 0).length (p.vc 0), .slice (p.vA 1) (S.V 1).length (p.vc 1), .slice (p.tA 0) (S.T 0) (p.tc 0), .slice (p.tA 1) (S.T 1) (p.tc 1)] : List Value))).toArray := hM5.row.now
  have r5 : Row w5.drew w3.heap.size 69 (LEV e9 A3 c3 B3 d3) := r5
  refine wp_region_tailN (n := 62) 6 (fun w' => w' = w5.drew) (fun _ _ => True) (by kernel_rfl) (by kernel_rfl) (by decide) (by rfl) rfl ?_
  simp only [List.take_succ_cons, List.take_zero, List.drop_succ_cons, List.drop_zero]
  refine tail_pure (fun w => trivial) (v := ?_) (fun _ => rfl) ?_ ?_; rotate_left; (focus (intro us w9 hS9 hF; clear hF; subst hS9; go_simp; (try with_reducible rfl); done)); simp only [Act.put, List.setIfInBounds_toArray, List.set_cons_zero, List.set_cons_succ, Nat.reduceAdd]
  refine tail_pure (fun w => trivial) (v := ?_) (fun _ => rfl) ?_ ?_; rotate_left; (focus (intro us w9 hS9 hF; clear hF; subst hS9; go_simp; (try with_reducible rfl); done)); simp only [Act.put, List.setIfInBounds_toArray, List.set_cons_zero, List.set_cons_succ, Nat.reduceAdd]
  refine tail_pure (fun w => trivial) (v := .agg (LEV e9 A3 c3 B3 d3)) (fun _ => rfl) ?_ ?_; (focus (intro us w9 hS9 hF; clear hF; subst hS9; exact exec_load_g r5.range Try.underlying69 rfl (lev_info _ _ _ _ _) rfl)); simp only [Act.put, List.setIfInBounds_toArray, List.set_cons_zero, List.set_cons_succ, Nat.reduceAdd]
  refine tail_pure (fun w => trivial) (v := ?_) (fun _ => rfl) ?_ ?_; rotate_left; (focus (intro us w9 hS9 hF; clear hF; subst hS9; go_simp; (try with_reducible rfl); done)); simp only [Act.put, List.setIfInBounds_toArray, List.set_cons_zero, List.set_cons_succ, Nat.reduceAdd]
  refine tail_pure (fun w => trivial) (v := ?_) (fun _ => rfl) ?_ ?_; rotate_left; (focus (intro us w9 hS9 hF; clear hF; subst hS9; go_simp; (try with_reducible rfl); done)); simp only [Act.put, List.setIfInBounds_toArray, List.set_cons_zero, List.set_cons_succ, Nat.reduceAdd]
  refine tail_pure (fun w => trivial) (v := ?_) (fun _ => rfl) ?_ ?_; rotate_left; (focus (intro us w9 hS9 hF; clear hF; subst hS9; go_simp; (try with_reducible rfl); done)); simp only [Act.put, List.setIfInBounds_toArray, List.set_cons_zero, List.set_cons_succ, Nat.reduceAdd]
  refine tail_done fun us w7 hS7 hF => ?_
  subst hS7
  clear hF
  refine wp_put_mid (g := g) (t := 94) (off := 0) (pre := ([] : List Value)) (cs := (LEV (S.E 0) (p.A 0) (p.c 0) (p.B 0) (p.d 0)).toList) (post := ((LEV (S.E 1) (p.A 1) (p.c 1) (p.B 1) (p.d 1)).toList ++ ([.slice (p.yA 0) (S.Y 0).length (p.yc 0), .slice (p.yA 1) (S.Y 1).length (p.yc 1), .slice (p.vA 0) (S.V 0).length (p.vc 0), .slice (p.vA 1) (S.V 1).length (p.vc 1), .slice (p.tA 0) (S.T 0) (p.tc 0), .slice (p.tA 1) (S.T 1) (p.tc 1)] : List Value))) (L := LEV e9 A3 c3 B3 d3) hrow rfl rfl (lev_info _ _ _ _ _) (lev_one _ _ _ _ _) ?_ ?_ ?_; rfl; rfl; intro w8 u7 r7
  have hM5d := hM5.drew
  have hM8 := hM5d.putE (s := 0) (by omega) u7 hP5 r7
  have hw8 : White col w w8 := hb15.trans (((Only.upd u7 hM5.cg).white (by omega)).undrew)
  have hIP8 := Part.only (show Part col 0 w5.drew _ from hIP) (Only.upd u7 hM5.cg) (by omega)
  have hszd : w.heap.size ≤ w8.drew.heap.size := hw8.size
  have hw8d : White col w w8.drew := hw8.trans (White.below ((Below.refl _ _).drew))
  have hIP8 : Part col 0 w8.drew (fun w => IsB w (some ⟨gm, 0, none⟩) (fillB size (S.V 0).length).length (fillB size (S.V 0).length)) := hIP8
  clear hM5 hM5d hrow r5 u7 r7 hIP hP5 hb15
  obtain ⟨vs, hvs, hms⟩ := hM8.given 0 (by omega)
  have hvq := hvs.part.now
  have hlg8 := hM8.lt
  obtain ⟨⟨y0, y1, v0, v1, t0, t1⟩, fz, e0, e1⟩ := hM8.cells
  go_upto_region 8 with (fail)
  have hM8d := hM8.drew
  have hcg8 := hM8.cg
  have hms : MsgK col w8.drew vs (S.V 0) := hms
  have hlg : g < w8.drew.heap.size := hlg8
  have hvq : OwnQ w8.drew 44 1 (p.vA 0) (S.V 0).length (p.vc 0) vs := hvq
  have v0 : w8.drew.cell? ⟨g, 22, none⟩ = some (.slice (p.vA 0) (S.V 0).length (p.vc 0)) := v0
  have hbA0 := Below.refl w8.drew.heap.size w8.drew
  have hal := hbA0.alloc (Nat.le_refl _) (.cells #[.slice (some ⟨gm, 0, none⟩) size size] 44)
  have hMA := hM8d.below hal
  clear hM8 y0 y1 v0 v1 t0 t1 fz e0 e1
  obtain ⟨⟨y0, y1, v0, v1, t0, t1⟩, fz, e0, e1⟩ := hM8d.cells
  have hrowA : ∀ w9, (w8.drew.alloc (.cells #[.slice (some ⟨gm, 0, none⟩) size size] 44)).grownBy w9 (blk (p.vA 0)) → Row w9 g 94 _ := fun w9 h3 => (h3.block g hMA.lt (fun e => by have h9 := hvs.blk g e.symm; have h8 := hcg8; omega)).trans hMA.row.now
  refine wp_region_late (n := 62) [9, 10, 14] (QS w8.drew g 22 44 1 (p.vA 0) (S.V 0).length (vs) (#[.slice (some ⟨gm, 0, none⟩) size size]) 9 10) (fun _ _ => True) (by kernel_rfl) (by kernel_rfl) (by rfl) QS.loc QS.zero ?_
  generalize w8.drew = wd at *
  refine late_pure (by simp) (fun _ => trivial) (v := ?_) (fun _ => rfl) ?_ ?_; rotate_left; (focus (intro c9 us w9 hm9 hS9 hF; clear hF hm9; go_simp; (try with_reducible rfl); done)); simp only [Act.put, List.setIfInBounds_toArray, List.set_cons_zero, List.set_cons_succ, Nat.reduceAdd]
  refine late_pure (by simp) (fun _ => trivial) (v := ?_) (fun _ => rfl) ?_ ?_; rotate_left; (focus (intro c9 us w9 hm9 hS9 hF; clear hF hm9; go_simp; (try with_reducible rfl); done)); simp only [Act.put, List.setIfInBounds_toArray, List.set_cons_zero, List.set_cons_succ, Nat.reduceAdd]
  refine late_pure (by simp) (fun _ => trivial) (v := ?_) (fun _ => rfl) ?_ ?_; rotate_left; (focus (intro c9 us w9 hm9 hS9 hF; clear hF hm9; go_simp; (try with_reducible rfl); done)); simp only [Act.put, List.setIfInBounds_toArray, List.set_cons_zero, List.set_cons_succ, Nat.reduceAdd]
  refine late_pure (by simp) (fun _ => trivial) (v := ?_) (fun _ => rfl) ?_ ?_; rotate_left; (focus (intro c9 us w9 hm9 hS9 hF; clear hF hm9; go_simp; (try with_reducible rfl); done)); simp only [Act.put, List.setIfInBounds_toArray, List.set_cons_zero, List.set_cons_succ, Nat.reduceAdd]
  refine late_pure (by simp) (fun _ => trivial) (v := ?_) (fun _ => rfl) ?_ ?_; rotate_left; (focus (intro c9 us w9 hm9 hS9 hF; clear hF hm9; go_simp; (try with_reducible rfl); done)); simp only [Act.put, List.setIfInBounds_toArray, List.set_cons_zero, List.set_cons_succ, Nat.reduceAdd]
  refine late_pure (by simp) (fun _ => trivial) (v := ?_) (fun _ => rfl) ?_ ?_; rotate_left; (focus (intro c9 us w9 hm9 hS9 hF; clear hF hm9; go_simp; (try with_reducible rfl); done)); simp only [Act.put, List.setIfInBounds_toArray, List.set_cons_zero, List.set_cons_succ, Nat.reduceAdd]
  refine late_pure (by simp) (fun _ => trivial) (v := ?_) (fun _ => rfl) ?_ ?_; rotate_left; (focus (intro c9 us w9 hm9 hS9 hF; clear hF hm9; go_simp; (try with_reducible rfl); done)); simp only [Act.put, List.setIfInBounds_toArray, List.set_cons_zero, List.set_cons_succ, Nat.reduceAdd]
  refine late_pure (by simp) (fun _ => trivial) (v := ?_) (fun _ => rfl) ?_ ?_; rotate_left; (focus (intro c9 us w9 hm9 hS9 hF; have hc9 : c9 < 2 := (by rcases Nat.lt_or_ge c9 2 with h9 | h9; exact h9; exact absurd hm9 (by rw [mayAt_no (d := 1) (by kernel_rfl) (by omega) (by decide)]; decide)); have bcell := ((hS9.early hc9).cell (p := ⟨g, 22, none⟩) hlg).trans v0; clear hF hm9; go_simp; (try with_reducible rfl); done)); simp only [Act.put, List.setIfInBounds_toArray, List.set_cons_zero, List.set_cons_succ, Nat.reduceAdd]
  refine late_pure (by simp) (fun _ => trivial) (v := ?_) (fun _ => rfl) ?_ ?_; rotate_left; (focus (intro c9 us w9 hm9 hS9 hF; clear hF hm9; go_simp; (try with_reducible rfl); done)); simp only [Act.put, List.setIfInBounds_toArray, List.set_cons_zero, List.set_cons_succ, Nat.reduceAdd]
  refine late_chain (by simp) ?_ ?_; (focus (intro us w9 hS9 hF K hK; clear hF; obtain rfl := hS9.1 rfl; go_simp; exact hK _ _ QS.one trivial)); simp only [Act.put, List.setIfInBounds_toArray, List.set_cons_zero, List.set_cons_succ, Nat.reduceAdd]
  refine late_chain (by simp) ?_ ?_; (focus (intro us w9 hS9 hF K hK; clear hF; obtain ⟨hu, rfl⟩ := hS9.2.1 rfl; simp only [hu] at hK ⊢; rw [if_pos (by rfl)]; exact step_append_q (P := Try.prog) Try.underlying67 info_44 rfl (by omega) (hvq.of_same (fun b hb => hal.block b (hvq.lt b hb))) (Row.born _ _ _) rfl (by simp [Value.oneCell']) (by omega) (by omega) rfl rfl (fun A' c'' w' b h2 h3 h4 h5 => hK _ _ (QS.two h2 h3 h4 h5) trivial))); simp only [Act.put, List.setIfInBounds_toArray, List.set_cons_zero, List.set_cons_succ, Nat.reduceAdd]
  refine late_pure (by simp) (fun _ => trivial) (v := ?_) (fun _ => rfl) ?_ ?_; rotate_left; (focus (intro c9 us w9 hm9 hS9 hF; clear hF hm9; go_simp; (try with_reducible rfl); done)); simp only [Act.put, List.setIfInBounds_toArray, List.set_cons_zero, List.set_cons_succ, Nat.reduceAdd]
  refine late_pure (by simp) (fun _ => trivial) (v := ?_) (fun _ => rfl) ?_ ?_; rotate_left; (focus (intro c9 us w9 hm9 hS9 hF; clear hF hm9; go_simp; (try with_reducible rfl); done)); simp only [Act.put, List.setIfInBounds_toArray, List.set_cons_zero, List.set_cons_succ, Nat.reduceAdd]
  refine late_pure (by simp) (fun _ => trivial) (v := ?_) (fun _ => rfl) ?_ ?_; rotate_left; (focus (intro c9 us w9 hm9 hS9 hF; clear hF hm9; go_simp; (try with_reducible rfl); done)); simp only [Act.put, List.setIfInBounds_toArray, List.set_cons_zero, List.set_cons_succ, Nat.reduceAdd]
  refine late_store rfl ?_ ?_; (focus (intro us w9 hS9 hF K hK; clear hF; obtain ⟨A', c', w2, b, hu, h2, h3, h4, h5, h6, -⟩ := hS9.2.2 (by omega); have h6 := h6 rfl; subst h6; simp only [hu] at hK ⊢; have hr9 := hrowA w9 h3; have k9 := hr9.cell 22; have f9 := hr9.frozen 22; simp only [WCell] at k9; have hS10 := hS9.three hu; go_simp; exact hK _ hS10 trivial)); simp only [Nat.reduceAdd]
  refine late_done fun us w12 hS12 hF => ?_
  obtain ⟨A', c', w2, b, -, hq2, hg2, hbA, hbb, -, hw0⟩ := hS12.2.2 (by omega)
  have hw12 := hw0 (by omega)
  clear hF hS12 hw0
  have hG : Grow g (4 + 0) b col (wd.alloc (.cells #[.slice (some ⟨gm, 0, none⟩) size size] 44)) w2 w12 (blk (p.vA 0)) := ⟨hMA.lt, hcg8, by omega, by omega, hg2, hvs.blk, hbb, hq2.lt b hbA, by rw [hw12]; exact Upd.setCell _ _ _ _⟩
  have hr12 := (hrowA w2 hg2).set 22 (.slice A' ((S.V 0).length + 1) c')
  rw [← hw12] at hr12
  have hm2 : MsgK col (wd.alloc (.cells #[.slice (some ⟨gm, 0, none⟩) size size] 44)) vs (S.V 0) := hms.below hal
  have hlen : (S.V 0 ++ [fillB size (S.V 0).length]).length = (S.V 0).length + 1 := by simp
  have hq3 : OwnQ w2 44 1 A' ((S.V 0).length + 1) c' (vs ++ [.slice (some ⟨gm, 0, none⟩) (fillB size (S.V 0).length).length size]) := by rw [fillB_len]; exact hq2
  have hM12 := hMA.appV (s := 0) (by omega) hG hm2 hq3 hbA (hIP8.below hal) (by
    unfold WCell
    simp only [upd, if_true, hlen]
    exact hr12)
  have hw12' := hw8d.trans ((White.below hal).trans hG.white.1)
  have hcol := fun x (hx : x < w.heap.size) (h0 : col x = 0) => hG.white.2 x (Nat.lt_of_lt_of_le hx (Nat.le_trans hszd hal.size)) h0
  clear hw12 hG hr12 hm2 hq3 hrowA hMA hM8d hvq hms hvs hg2 hq2 hw8 hw8d
  go_wp2
  go_ret
  exact ⟨rfl, _, _, hM12, hw12', hcol⟩
set_option maxRecDepth 100000 in
set_option maxHeartbeats 8000000 in
theorem enq_full1 (base g : Nat) (col : Nat → Nat) (w : World) (S : WrS) (p : WrP) (hM : WM base g col w S p) (hgd : Gd (S.E 1)) (size : Nat) (hs : size ≤ 100000) (hV : (S.V 1).length ≤ 100000) (hq : (S.E 1).q.length = 64) : Calls Try.prog 61 #[.pointer (some ⟨g, 0, none⟩), .int .i64 1, .int .i64 (size : Int)] w (WStep base g col w S) := by
  have HE := Lib.hid (WrS.enq_f (m := fillB size (S.V 1).length) hgd (by rw [fillB_len]; omega) hq)
  have HP := Lib.hid (show pendE (S.E 1) = 64 by rw [WrS.pend hgd, hq]; rfl)
  clear hq
  obtain ⟨e9, he9⟩ : ∃ e9, enqL (S.E 1) (fillB size (S.V 1).length) = e9 := ⟨_, rfl⟩
  have HL := Lib.hid he9
  clear he9
  have hlg := hM.lt
  have ht := hgd.ty
  have hHel := fun {w'} (h : WM base g col w' S p) => (h.held 1 (by omega)).now
  obtain ⟨⟨y0, y1, v0, v1, t0, t1⟩, fz, e0, e1⟩ := hM.cells
  go_enter Try.func61, Try.ntmps61
  go_upto_region 2 with (go_at_call 111; refine (fill_any size (S.V 1).length _ (by omega) (by omega)).mono ?_; rintro en w1 ⟨gm, rfl, hgm, hIm, hb1⟩)
  clear y0 y1 v0 v1 t0 t1 fz e0 e1
  have hM1 := hM.below hb1
  obtain ⟨⟨y0, y1, v0, v1, t0, t1⟩, fz, e0, e1⟩ := hM1.cells
  go_upto_region 3 with (first | ((with_reducible refine wp_load_g ?_ e1 Try.underlying69 rfl (lev_info _ _ _ _ _) ?_ ?_); rfl; rfl) | (go_at_call 42; refine (enq_is HE.out HL.out (fillB_len size _).symm ht (hHel hM1) hIm).mono ?_; rintro en w3 ⟨A3, c3, B3, d3, rfl, hH3, hb3⟩) | ((with_reducible refine wp_row_store (L := LEV e9 A3 c3 B3 d3) (Row.bornAt (g := w3.heap.size) rfl 69 _) ?_ (lev_info _ _ _ _ _) (lev_one _ _ _ _ _) ?_ ?_ ?_); rfl; rfl; rfl; intro w4 u4 r4))
  have hal := (Below.refl w3.heap.size w3).alloc (Nat.le_refl _) (.cells ZE 69)
  have hal2 := Upd.below (hb3.trans (hal.mono hb3.size)) u4 hb3.size
  clear y0 y1 v0 v1 t0 t1 fz e0 e1
  have hM4 := hM1.below hal2
  obtain ⟨⟨y0, y1, v0, v1, t0, t1⟩, fz, e0, e1⟩ := hM4.cells
  go_wp2_with (first | ((with_reducible refine wp_load_g ?_ e1 Try.underlying69 rfl (lev_info _ _ _ _ _) ?_ ?_); rfl; rfl) | (go_at_call 43; refine (pend_is HP.out ht (hHel hM4)).mono ?_; rintro en w5 ⟨rfl, hb5⟩))
  go_ret
  exact WStep.same hM (hb1.trans ((hal2.trans (hb5.mono hal2.size)).mono hb1.size))
set_option maxRecDepth 100000 in
set_option maxHeartbeats 8000000 in
theorem enq_yes1 (base g : Nat) (col : Nat → Nat) (w : World) (S : WrS) (p : WrP) (hM : WM base g col w S p) (hgd : Gd (S.E 1)) (size : Nat) (hs : size ≤ 100000) (hV : (S.V 1).length ≤ 100000) (hq : (S.E 1).q.length < 64) : Calls Try.prog 61 #[.pointer (some ⟨g, 0, none⟩), .int .i64 1, .int .i64 (size : Int)] w (WStep base g col w { S with E := upd S.E 1 { S.E 1 with q := (S.E 1).q ++ [fillB size (S.V 1).length] }, V := upd S.V 1 (S.V 1 ++ [fillB size (S.V 1).length]) }) := by
  have hen := WrS.enq_e (m := fillB size (S.V 1).length) hgd (by rw [fillB_len]; omega) hq
  have HE := Lib.hid hen.1
  have dq : decide (64 ≤ (S.E 1).q.length) = false := decide_eq_false (by omega)
  have dqi : decide ((64 : Int) ≤ ((S.E 1).q.length : Int)) = false := decide_eq_false (by omega)
  have HP := Lib.hid (WrS.pend hgd)
  obtain ⟨e9, he9⟩ : ∃ e9, ({ S.E 1 with q := (S.E 1).q ++ [fillB size (S.V 1).length] } : LE) = e9 := ⟨_, rfl⟩
  have HL := Lib.hid (hen.2.trans he9)
  rw [he9]
  clear hen he9
  have hlg := hM.lt
  have ht := hgd.ty
  have hHel := fun {w'} (h : WM base g col w' S p) => (h.held 1 (by omega)).now
  obtain ⟨⟨y0, y1, v0, v1, t0, t1⟩, fz, e0, e1⟩ := hM.cells
  go_enter Try.func61, Try.ntmps61
  go_upto_region 2 with (go_at_call 111; refine (fill_any size (S.V 1).length _ (by omega) (by omega)).mono ?_; rintro en w1 ⟨gm, rfl, hgm, hIm, hb1⟩)
  clear y0 y1 v0 v1 t0 t1 fz e0 e1
  have hM1 := hM.below hb1
  obtain ⟨⟨y0, y1, v0, v1, t0, t1⟩, fz, e0, e1⟩ := hM1.cells
  go_upto_region 3 with (first | ((with_reducible refine wp_load_g ?_ e1 Try.underlying69 rfl (lev_info _ _ _ _ _) ?_ ?_); rfl; rfl) | (go_at_call 42; refine (enq_is HE.out HL.out (fillB_len size _).symm ht (hHel hM1) hIm).mono ?_; rintro en w3 ⟨A3, c3, B3, d3, rfl, hH3, hb3⟩) | ((with_reducible refine wp_row_store (L := LEV e9 A3 c3 B3 d3) (Row.bornAt (g := w3.heap.size) rfl 69 _) ?_ (lev_info _ _ _ _ _) (lev_one _ _ _ _ _) ?_ ?_ ?_); rfl; rfl; rfl; intro w4 u4 r4))
  have hal := (Below.refl w3.heap.size w3).alloc (Nat.le_refl _) (.cells ZE 69)
  have hal2 := Upd.below (hb3.trans (hal.mono hb3.size)) u4 hb3.size
  clear y0 y1 v0 v1 t0 t1 fz e0 e1
  have hM4 := hM1.below hal2
  obtain ⟨⟨y0, y1, v0, v1, t0, t1⟩, fz, e0, e1⟩ := hM4.cells
  have hrr : Row w4 w3.heap.size 69 (LEV e9 A3 c3 B3 d3) := r4
  have hH4 := (hH3.below hal).upd u4 (.inr (Nat.le_refl _))
  have hb14 : White col w w4 := White.below (hb1.trans (hal2.mono hb1.size))
  have hsz14 : w.heap.size ≤ w4.heap.size := hb14.size
  have hlo : w.heap.size ≤ w1.heap.size := hb1.size
  have hhi := hH4.1
  have hIm4 := hIm.below hal2
  go_upto_region 7 with (first | ((with_reducible refine wp_load_g ?_ e1 Try.underlying69 rfl (lev_info _ _ _ _ _) ?_ ?_); rfl; rfl) | (go_at_call 43; refine (pend_is HP.out ht (hHel hM4)).mono ?_; rintro en w5 ⟨rfl, hb5⟩))
  clear y0 y1 v0 v1 t0 t1 fz e0 e1
  have hM5 := hM4.below hb5
  have r5 := (show Row w5 w3.heap.size 69 (LEV e9 A3 c3 B3 d3) from hrr.below hb5 hrr.lt)
  have hH5 := hH4.below hb5
  have hIm5 := hIm4.below hb5
  have hb15 := hb14.trans (White.below (col := col) hb5)
  clear hM4 r4 hrr hH4 hIm4 hb14 hM1 hIm hb3 hal hal2 u4 hH3 hb5
  have hhi5 := hH5.1
  have hP5 : Part col 0 w5 (fun w => Held w e9 A3 c3 B3 d3) := Part.held hH5 (fun x h1 h2 => hM.cn x (by omega))
  have hIP : Part col 0 w5 (fun w => IsB w (some ⟨gm, 0, none⟩) (fillB size (S.V 1).length).length (fillB size (S.V 1).length)) := fun w' _ hk => by
    rw [fillB_len]
    exact hIm5.of_same fun b o e h0 => by
      injection e with e
      injection e with e1 e2 e3
      subst e1
      obtain ⟨b, o, e, hc⟩ := hIm5.2 h0
      injection e with e
      injection e with e1 e2 e3
      subst e1
      exact hk _ (World.block_lt_of_cell? w5 ⟨gm, o + 0, none⟩ (hc 0 (by rw [fillB_len]; exact h0))) (hM.cn _ hgm)
  clear hIm5 hH5
  have hrow : Row w5.drew g 94 ((LEV (S.E 0) (p.A 0) (p.c 0) (p.B 0) (p.d 0)).toList ++ (LEV (S.E 1) (p.A 1) (p.c 1) (p.B 1) (p.d 1)).toList ++ ([.slice (p.yA 0) (S.Y 0).length (p.yc 0), .slice (p.yA 1) (S.Y 1).length (p.yc 1), .slice (p.vA 0) (S.V 0).length (p.vc 0), .slice (p.vA 1) (S.V 1).length (p.vc 1), .slice (p.tA 0) (S.T 0) (p.tc 0), .slice (p.tA 1) (S.T 1) (p.tc 1)] : List Value)).toArray := hM5.row.now
  have r5 : Row w5.drew w3.heap.size 69 (LEV e9 A3 c3 B3 d3) := r5
  refine wp_region_tailN (n := 62) 6 (fun w' => w' = w5.drew) (fun _ _ => True) (by kernel_rfl) (by kernel_rfl) (by decide) (by rfl) rfl ?_
  simp only [List.take_succ_cons, List.take_zero, List.drop_succ_cons, List.drop_zero]
  refine tail_pure (fun w => trivial) (v := ?_) (fun _ => rfl) ?_ ?_; rotate_left; (focus (intro us w9 hS9 hF; clear hF; subst hS9; go_simp; (try with_reducible rfl); done)); simp only [Act.put, List.setIfInBounds_toArray, List.set_cons_zero, List.set_cons_succ, Nat.reduceAdd]
  refine tail_pure (fun w => trivial) (v := ?_) (fun _ => rfl) ?_ ?_; rotate_left; (focus (intro us w9 hS9 hF; clear hF; subst hS9; go_simp; (try with_reducible rfl); done)); simp only [Act.put, List.setIfInBounds_toArray, List.set_cons_zero, List.set_cons_succ, Nat.reduceAdd]
  refine tail_pure (fun w => trivial) (v := .agg (LEV e9 A3 c3 B3 d3)) (fun _ => rfl) ?_ ?_; (focus (intro us w9 hS9 hF; clear hF; subst hS9; exact exec_load_g r5.range Try.underlying69 rfl (lev_info _ _ _ _ _) rfl)); simp only [Act.put, List.setIfInBounds_toArray, List.set_cons_zero, List.set_cons_succ, Nat.reduceAdd]
  refine tail_pure (fun w => trivial) (v := ?_) (fun _ => rfl) ?_ ?_; rotate_left; (focus (intro us w9 hS9 hF; clear hF; subst hS9; go_simp; (try with_reducible rfl); done)); simp only [Act.put, List.setIfInBounds_toArray, List.set_cons_zero, List.set_cons_succ, Nat.reduceAdd]
  refine tail_pure (fun w => trivial) (v := ?_) (fun _ => rfl) ?_ ?_; rotate_left; (focus (intro us w9 hS9 hF; clear hF; subst hS9; go_simp; (try with_reducible rfl); done)); simp only [Act.put, List.setIfInBounds_toArray, List.set_cons_zero, List.set_cons_succ, Nat.reduceAdd]
  refine tail_pure (fun w => trivial) (v := ?_) (fun _ => rfl) ?_ ?_; rotate_left; (focus (intro us w9 hS9 hF; clear hF; subst hS9; go_simp; (try with_reducible rfl); done)); simp only [Act.put, List.setIfInBounds_toArray, List.set_cons_zero, List.set_cons_succ, Nat.reduceAdd]
  refine tail_done fun us w7 hS7 hF => ?_
  subst hS7
  clear hF
  refine wp_put_mid (g := g) (t := 94) (off := 10) (pre := (LEV (S.E 0) (p.A 0) (p.c 0) (p.B 0) (p.d 0)).toList) (cs := (LEV (S.E 1) (p.A 1) (p.c 1) (p.B 1) (p.d 1)).toList) (post := ([.slice (p.yA 0) (S.Y 0).length (p.yc 0), .slice (p.yA 1) (S.Y 1).length (p.yc 1), .slice (p.vA 0) (S.V 0).length (p.vc 0), .slice (p.vA 1) (S.V 1).length (p.vc 1), .slice (p.tA 0) (S.T 0) (p.tc 0), .slice (p.tA 1) (S.T 1) (p.tc 1)] : List Value)) (L := LEV e9 A3 c3 B3 d3) hrow rfl rfl (lev_info _ _ _ _ _) (lev_one _ _ _ _ _) ?_ ?_ ?_; rfl; rfl; intro w8 u7 r7
  have hM5d := hM5.drew
  have hM8 := hM5d.putE (s := 1) (by omega) u7 hP5 r7
  have hw8 : White col w w8 := hb15.trans (((Only.upd u7 hM5.cg).white (by omega)).undrew)
  have hIP8 := Part.only (show Part col 0 w5.drew _ from hIP) (Only.upd u7 hM5.cg) (by omega)
  have hszd : w.heap.size ≤ w8.drew.heap.size := hw8.size
  have hw8d : White col w w8.drew := hw8.trans (White.below ((Below.refl _ _).drew))
  have hIP8 : Part col 0 w8.drew (fun w => IsB w (some ⟨gm, 0, none⟩) (fillB size (S.V 1).length).length (fillB size (S.V 1).length)) := hIP8
  clear hM5 hM5d hrow r5 u7 r7 hIP hP5 hb15
  obtain ⟨vs, hvs, hms⟩ := hM8.given 1 (by omega)
  have hvq := hvs.part.now
  have hlg8 := hM8.lt
  obtain ⟨⟨y0, y1, v0, v1, t0, t1⟩, fz, e0, e1⟩ := hM8.cells
  go_upto_region 8 with (fail)
  have hM8d := hM8.drew
  have hcg8 := hM8.cg
  have hms : MsgK col w8.drew vs (S.V 1) := hms
  have hlg : g < w8.drew.heap.size := hlg8
  have hvq : OwnQ w8.drew 44 1 (p.vA 1) (S.V 1).length (p.vc 1) vs := hvq
  have v1 : w8.drew.cell? ⟨g, 23, none⟩ = some (.slice (p.vA 1) (S.V 1).length (p.vc 1)) := v1
  have hbA0 := Below.refl w8.drew.heap.size w8.drew
  have hal := hbA0.alloc (Nat.le_refl _) (.cells #[.slice (some ⟨gm, 0, none⟩) size size] 44)
  have hMA := hM8d.below hal
  clear hM8 y0 y1 v0 v1 t0 t1 fz e0 e1
  obtain ⟨⟨y0, y1, v0, v1, t0, t1⟩, fz, e0, e1⟩ := hM8d.cells
  have hrowA : ∀ w9, (w8.drew.alloc (.cells #[.slice (some ⟨gm, 0, none⟩) size size] 44)).grownBy w9 (blk (p.vA 1)) → Row w9 g 94 _ := fun w9 h3 => (h3.block g hMA.lt (fun e => by have h9 := hvs.blk g e.symm; have h8 := hcg8; omega)).trans hMA.row.now
  refine wp_region_late (n := 62) [9, 10, 14] (QS w8.drew g 23 44 1 (p.vA 1) (S.V 1).length (vs) (#[.slice (some ⟨gm, 0, none⟩) size size]) 9 10) (fun _ _ => True) (by kernel_rfl) (by kernel_rfl) (by rfl) QS.loc QS.zero ?_
  generalize w8.drew = wd at *
  refine late_pure (by simp) (fun _ => trivial) (v := ?_) (fun _ => rfl) ?_ ?_; rotate_left; (focus (intro c9 us w9 hm9 hS9 hF; clear hF hm9; go_simp; (try with_reducible rfl); done)); simp only [Act.put, List.setIfInBounds_toArray, List.set_cons_zero, List.set_cons_succ, Nat.reduceAdd]
  refine late_pure (by simp) (fun _ => trivial) (v := ?_) (fun _ => rfl) ?_ ?_; rotate_left; (focus (intro c9 us w9 hm9 hS9 hF; clear hF hm9; go_simp; (try with_reducible rfl); done)); simp only [Act.put, List.setIfInBounds_toArray, List.set_cons_zero, List.set_cons_succ, Nat.reduceAdd]
  refine late_pure (by simp) (fun _ => trivial) (v := ?_) (fun _ => rfl) ?_ ?_; rotate_left; (focus (intro c9 us w9 hm9 hS9 hF; clear hF hm9; go_simp; (try with_reducible rfl); done)); simp only [Act.put, List.setIfInBounds_toArray, List.set_cons_zero, List.set_cons_succ, Nat.reduceAdd]
  refine late_pure (by simp) (fun _ => trivial) (v := ?_) (fun _ => rfl) ?_ ?_; rotate_left; (focus (intro c9 us w9 hm9 hS9 hF; clear hF hm9; go_simp; (try with_reducible rfl); done)); simp only [Act.put, List.setIfInBounds_toArray, List.set_cons_zero, List.set_cons_succ, Nat.reduceAdd]
  refine late_pure (by simp) (fun _ => trivial) (v := ?_) (fun _ => rfl) ?_ ?_; rotate_left; (focus (intro c9 us w9 hm9 hS9 hF; clear hF hm9; go_simp; (try with_reducible rfl); done)); simp only [Act.put, List.setIfInBounds_toArray, List.set_cons_zero, List.set_cons_succ, Nat.reduceAdd]
  refine late_pure (by simp) (fun _ => trivial) (v := ?_) (fun _ => rfl) ?_ ?_; rotate_left; (focus (intro c9 us w9 hm9 hS9 hF; clear hF hm9; go_simp; (try with_reducible rfl); done)); simp only [Act.put, List.setIfInBounds_toArray, List.set_cons_zero, List.set_cons_succ, Nat.reduceAdd]
  refine late_pure (by simp) (fun _ => trivial) (v := ?_) (fun _ => rfl) ?_ ?_; rotate_left; (focus (intro c9 us w9 hm9 hS9 hF; clear hF hm9; go_simp; (try with_reducible rfl); done)); simp only [Act.put, List.setIfInBounds_toArray, List.set_cons_zero, List.set_cons_succ, Nat.reduceAdd]
  refine late_pure (by simp) (fun _ => trivial) (v := ?_) (fun _ => rfl) ?_ ?_; rotate_left; (focus (intro c9 us w9 hm9 hS9 hF; have hc9 : c9 < 2 := (by rcases Nat.lt_or_ge c9 2 with h9 | h9; exact h9; exact absurd hm9 (by rw [mayAt_no (d := 1) (by kernel_rfl) (by omega) (by decide)]; decide)); have bcell := ((hS9.early hc9).cell (p := ⟨g, 23, none⟩) hlg).trans v1; clear hF hm9; go_simp; (try with_reducible rfl); done)); simp only [Act.put, List.setIfInBounds_toArray, List.set_cons_zero, List.set_cons_succ, Nat.reduceAdd]
  refine late_pure (by simp) (fun _ => trivial) (v := ?_) (fun _ => rfl) ?_ ?_; rotate_left; (focus (intro c9 us w9 hm9 hS9 hF; clear hF hm9; go_simp; (try with_reducible rfl); done)); simp only [Act.put, List.setIfInBounds_toArray, List.set_cons_zero, List.set_cons_succ, Nat.reduceAdd]
  refine late_chain (by simp) ?_ ?_; (focus (intro us w9 hS9 hF K hK; clear hF; obtain rfl := hS9.1 rfl; go_simp; exact hK _ _ QS.one trivial)); simp only [Act.put, List.setIfInBounds_toArray, List.set_cons_zero, List.set_cons_succ, Nat.reduceAdd]
  refine late_chain (by simp) ?_ ?_; (focus (intro us w9 hS9 hF K hK; clear hF; obtain ⟨hu, rfl⟩ := hS9.2.1 rfl; simp only [hu] at hK ⊢; rw [if_pos (by rfl)]; exact step_append_q (P := Try.prog) Try.underlying67 info_44 rfl (by omega) (hvq.of_same (fun b hb => hal.block b (hvq.lt b hb))) (Row.born _ _ _) rfl (by simp [Value.oneCell']) (by omega) (by omega) rfl rfl (fun A' c'' w' b h2 h3 h4 h5 => hK _ _ (QS.two h2 h3 h4 h5) trivial))); simp only [Act.put, List.setIfInBounds_toArray, List.set_cons_zero, List.set_cons_succ, Nat.reduceAdd]
  refine late_pure (by simp) (fun _ => trivial) (v := ?_) (fun _ => rfl) ?_ ?_; rotate_left; (focus (intro c9 us w9 hm9 hS9 hF; clear hF hm9; go_simp; (try with_reducible rfl); done)); simp only [Act.put, List.setIfInBounds_toArray, List.set_cons_zero, List.set_cons_succ, Nat.reduceAdd]
  refine late_pure (by simp) (fun _ => trivial) (v := ?_) (fun _ => rfl) ?_ ?_; rotate_left; (focus (intro c9 us w9 hm9 hS9 hF; clear hF hm9; go_simp; (try with_reducible rfl); done)); simp only [Act.put, List.setIfInBounds_toArray, List.set_cons_zero, List.set_cons_succ, Nat.reduceAdd]
  refine late_pure (by simp) (fun _ => trivial) (v := ?_) (fun _ => rfl) ?_ ?_; rotate_left; (focus (intro c9 us w9 hm9 hS9 hF; clear hF hm9; go_simp; (try with_reducible rfl); done)); simp only [Act.put, List.setIfInBounds_toArray, List.set_cons_zero, List.set_cons_succ, Nat.reduceAdd]
  refine late_store rfl ?_ ?_; (focus (intro us w9 hS9 hF K hK; clear hF; obtain ⟨A', c', w2, b, hu, h2, h3, h4, h5, h6, -⟩ := hS9.2.2 (by omega); have h6 := h6 rfl; subst h6; simp only [hu] at hK ⊢; have hr9 := hrowA w9 h3; have k9 := hr9.cell 23; have f9 := hr9.frozen 23; simp only [WCell] at k9; have hS10 := hS9.three hu; go_simp; exact hK _ hS10 trivial)); simp only [Nat.reduceAdd]
  refine late_done fun us w12 hS12 hF => ?_
  obtain ⟨A', c', w2, b, -, hq2, hg2, hbA, hbb, -, hw0⟩ := hS12.2.2 (by omega)
  have hw12 := hw0 (by omega)
  clear hF hS12 hw0
  have hG : Grow g (4 + 1) b col (wd.alloc (.cells #[.slice (some ⟨gm, 0, none⟩) size size] 44)) w2 w12 (blk (p.vA 1)) := ⟨hMA.lt, hcg8, by omega, by omega, hg2, hvs.blk, hbb, hq2.lt b hbA, by rw [hw12]; exact Upd.setCell _ _ _ _⟩
  have hr12 := (hrowA w2 hg2).set 23 (.slice A' ((S.V 1).length + 1) c')
  rw [← hw12] at hr12
  have hm2 : MsgK col (wd.alloc (.cells #[.slice (some ⟨gm, 0, none⟩) size size] 44)) vs (S.V 1) := hms.below hal
  have hlen : (S.V 1 ++ [fillB size (S.V 1).length]).length = (S.V 1).length + 1 := by simp
  have hq3 : OwnQ w2 44 1 A' ((S.V 1).length + 1) c' (vs ++ [.slice (some ⟨gm, 0, none⟩) (fillB size (S.V 1).length).length size]) := by rw [fillB_len]; exact hq2
  have hM12 := hMA.appV (s := 1) (by omega) hG hm2 hq3 hbA (hIP8.below hal) (by
    unfold WCell
    simp only [upd, if_true, hlen]
    exact hr12)
  have hw12' := hw8d.trans ((White.below hal).trans hG.white.1)
  have hcol := fun x (hx : x < w.heap.size) (h0 : col x = 0) => hG.white.2 x (Nat.lt_of_lt_of_le hx (Nat.le_trans hszd hal.size)) h0
  clear hw12 hG hr12 hm2 hq3 hrowA hMA hM8d hvq hms hvs hg2 hq2 hw8 hw8d
  go_wp2
  go_ret
  exact ⟨rfl, _, _, hM12, hw12', hcol⟩
section
variable {P : Program} {K : Act → World → Prop} {Q : Exit → Act → World → Prop} {a : Act} {w : World} {dst : Option Tmp} {typ : TypeId} {pos : String} {after : Array Edge}
/-- A slice literal of one struct. -/
theorem step_build_1 {t e : TypeId} {x : Operand} {L : Array Value} {zv : Value} {size bytes : Nat} (hu : P.underlying t = some (.slice e)) (hinfo : (P.info? e).map (fun i => (i.zero, i.size, i.bytes)) = some (some zv, size, bytes)) (hL : L.size = size) (hsz : 0 < size) (hsm : size ≤ 1000)
    (hx : a.eval x = .agg L) (h : K (a.put dst (.slice (some ⟨w.heap.size, 0, none⟩) 1 1)) (w.alloc (.cells L e))) :
    Oper.wp P { dst := dst, op := .buildSlice t 1 #[(0, x)], type := typ, pos := pos, after := after, guard := none } a w K Q := by
  obtain ⟨i, hi, hz⟩ := Option.map_eq_some_iff.1 hinfo
  simp only [Prod.mk.injEq] at hz
  obtain ⟨hz0, hz1, hz2⟩ := hz
  refine wp_buildSlice (o := { dst := dst, op := .buildSlice t 1 #[(0, x)], type := typ, pos := pos, after := after, guard := none }) t e 1 #[(0, x)] rfl L i zv hu hi hz0 (by omega) (by omega) ?_ h
  have e1 : (#[(0, x)].map fun (i, x) => (i, a.eval x)).toList = (([Value.agg L] : List Value).zipIdx 0).map fun x => (x.2, x.1) := by simp [hx]
  rw [e1, hz1, Great.fill_whole hsz [Value.agg L] _ (fun v hv => by obtain rfl := List.mem_singleton.1 hv; exact hL) (by simp)]
  simp [Value.cells]
end
theorem LV_list (k : Int) (e f : Bool) (n a : Int) {p : List UInt8} (hp : p.length = 56) : (LV k e f n a p).toList.length = 61 := by have := LV_size k e f n a hp; simpa using this
theorem LV_ones (k : Int) (e f : Bool) (n a : Int) (p : List UInt8) : ∀ u ∈ (LV k e f n a p).toList, u.oneCell' = true := by
  intro u hu
  have h := LV_one k e f n a p
  rw [Array.all_eq_true'] at h
  exact h u (by simpa using hu)
def trR (S : WrS) (s : Nat) : WrS := { S with E := upd S.E s (nxL (S.E s)), Y := upd S.Y (1 - s) (S.Y (1 - s) ++ [nxn (S.E s)]) }
set_option maxRecDepth 100000 in
set_option maxHeartbeats 8000000 in
theorem tr_no0 (base g : Nat) (col : Nat → Nat) (w : World) (S : WrS) (p : WrP) (hM : WM base g col w S p) (hgd : Gd (S.E 0)) (hE : nxE (S.E 0) = 17) : Calls Try.prog 59 #[.pointer (some ⟨g, 0, none⟩), .int .i64 0] w (WStep base g col w S) := by
  have HE := Lib.hid hE
  obtain ⟨k, hk⟩ : ∃ k : Int, k = 0 := ⟨_, rfl⟩
  obtain ⟨el, hel⟩ : ∃ el : Bool, el = false := ⟨_, rfl⟩
  obtain ⟨fl, hfl⟩ : ∃ fl : Bool, fl = false := ⟨_, rfl⟩
  obtain ⟨len, hlen⟩ : ∃ len : Int, len = 0 := ⟨_, rfl⟩
  obtain ⟨ack, hack⟩ : ∃ ack : Int, ack = 0 := ⟨_, rfl⟩
  obtain ⟨pp, hpp'⟩ : ∃ pp, pp = z56 := ⟨_, rfl⟩
  have hpp : pp.length = 56 := by rw [hpp']; rfl
  have HV := Lib.hid (show nxV (S.E 0) = LV k el fl len ack pp by unfold nxV; rw [if_neg (by rw [hE]; decide), hk, hel, hfl, hlen, hack, hpp']; rfl)
  clear hk hel hfl hlen hack hpp' hE
  obtain ⟨e9, he9⟩ : ∃ e9, nxL (S.E 0) = e9 := ⟨_, rfl⟩
  have HL := Lib.hid he9
  clear he9
  have hlg := hM.lt
  have ht := hgd.ty
  have hHel := fun {w'} (h : WM base g col w' S p) => (h.held 0 (by omega)).now
  obtain ⟨⟨y0, y1, v0, v1, t0, t1⟩, fz, e0, e1⟩ := hM.cells
  go_enter Try.func59, Try.ntmps59
  go_upto_region 2 with (first | ((with_reducible refine wp_load_g ?_ e0 Try.underlying69 rfl (lev_info _ _ _ _ _) ?_ ?_); rfl; rfl) | (go_at_call 45; refine (next_is HE.out HL.out HV.out ht (hHel hM)).mono ?_; rintro en w3 ⟨A3, c3, B3, d3, rfl, hH3, hb3⟩) | ((with_reducible refine wp_row_store (L := LEV e9 A3 c3 B3 d3) ((Row.bornAt (g := w3.heap.size) rfl 69 _).alloc _) ?_ (lev_info _ _ _ _ _) (lev_one _ _ _ _ _) ?_ ?_ ?_); rfl; rfl; rfl; intro w4 u4 r8) | ((with_reducible refine wp_row_store (L := LV k el fl len ack pp) ((Row.bornAt (g := w3.heap.size + 1) (by simp) 40 _).upd u4 (by omega)) ?_ (line_info _ _ _ _ _ hpp) (LV_one _ _ _ _ _ _) ?_ ?_ ?_); exact (LV_size _ _ _ _ _ hpp).symm; rfl; rfl; intro w5 u5 r9))
  clear y0 y1 v0 v1 t0 t1 fz e0 e1
  have hal := ((Below.refl w3.heap.size w3).alloc (Nat.le_refl _) (.cells ZE 69)).alloc (by simp) (.cells ZL 40)
  have hal2 := Upd.below (Upd.below (hb3.trans (hal.mono hb3.size)) u4 hb3.size) u5 (by have := hb3.size; omega)
  go_wp2
  go_ret
  exact WStep.same hM hal2
set_option maxRecDepth 100000 in
set_option maxHeartbeats 8000000 in
theorem tr_go0 (base g : Nat) (col : Nat → Nat) (w : World) (S : WrS) (p : WrP) (hM : WM base g col w S p) (hgd : Gd (S.E 0)) (hE : nxE (S.E 0) = 0) (hY : (S.Y 1).length ≤ 100000) : Calls Try.prog 59 #[.pointer (some ⟨g, 0, none⟩), .int .i64 0] w (WStep base g col w { S with E := upd S.E 0 (nxL (S.E 0)), Y := upd S.Y 1 (S.Y 1 ++ [nxn (S.E 0)]) }) := by
  have HE := Lib.hid hE
  have hok := nxn_ok hgd.ve
  have hnv := nxn_v hE
  obtain ⟨⟨k, el, fl, len, ack, pp⟩, hln⟩ : ∃ l, nxn (S.E 0) = l := ⟨_, rfl⟩
  rw [hln] at hok hnv
  have hpp : pp.length = 56 := hok.1
  have HV := Lib.hid (show nxV (S.E 0) = LV k el fl len ack pp from hnv)
  obtain ⟨e9, he9⟩ : ∃ e9, nxL (S.E 0) = e9 := ⟨_, rfl⟩
  have HL := Lib.hid he9
  rw [he9, hln]
  clear he9 hE hnv hln
  have hlg := hM.lt
  have ht := hgd.ty
  have hHel := fun {w'} (h : WM base g col w' S p) => (h.held 0 (by omega)).now
  obtain ⟨⟨y0, y1, v0, v1, t0, t1⟩, fz, e0, e1⟩ := hM.cells
  go_enter Try.func59, Try.ntmps59
  go_upto_region 2 with (first | ((with_reducible refine wp_load_g ?_ e0 Try.underlying69 rfl (lev_info _ _ _ _ _) ?_ ?_); rfl; rfl) | (go_at_call 45; refine (next_is HE.out HL.out HV.out ht (hHel hM)).mono ?_; rintro en w3 ⟨A3, c3, B3, d3, rfl, hH3, hb3⟩) | ((with_reducible refine wp_row_store (L := LEV e9 A3 c3 B3 d3) ((Row.bornAt (g := w3.heap.size) rfl 69 _).alloc _) ?_ (lev_info _ _ _ _ _) (lev_one _ _ _ _ _) ?_ ?_ ?_); rfl; rfl; rfl; intro w4 u4 r8) | ((with_reducible refine wp_row_store (L := LV k el fl len ack pp) ((Row.bornAt (g := w3.heap.size + 1) (by simp) 40 _).upd u4 (by omega)) ?_ (line_info _ _ _ _ _ hpp) (LV_one _ _ _ _ _ _) ?_ ?_ ?_); exact (LV_size _ _ _ _ _ hpp).symm; rfl; rfl; intro w5 u5 r9))
  clear y0 y1 v0 v1 t0 t1 fz e0 e1
  have hal := ((Below.refl w3.heap.size w3).alloc (Nat.le_refl _) (.cells ZE 69)).alloc (by simp) (.cells ZL 40)
  have hal2 := Upd.below (Upd.below (hb3.trans (hal.mono hb3.size)) u4 hb3.size) u5 (by have := hb3.size; omega)
  have r8 := r8.upd u5 (by omega)
  have hH5 := ((hH3.below hal).upd u4 (.inr (Nat.le_refl _))).upd u5 (.inr (by omega))
  have hw5 : White col w w5 := White.below hal2
  have hlo : w.heap.size ≤ w3.heap.size := hb3.size
  have hM5 := hM.below hal2
  have hP5 : Part col 0 w5 (fun w => Held w e9 A3 c3 B3 d3) := Part.held hH5 (fun x h1 h2 => hM.cn x h1)
  have hg8 : w3.heap.size < w5.heap.size := r8.lt
  clear hal hal2 hb3 hH3 u4 u5 hH5
  go_upto_region 6 with (fail)
  have hrow : Row w5.drew g 94 (([] : List Value) ++ (LEV (S.E 0) (p.A 0) (p.c 0) (p.B 0) (p.d 0)).toList ++ ((LEV (S.E 1) (p.A 1) (p.c 1) (p.B 1) (p.d 1)).toList ++ ([.slice (p.yA 0) (S.Y 0).length (p.yc 0), .slice (p.yA 1) (S.Y 1).length (p.yc 1), .slice (p.vA 0) (S.V 0).length (p.vc 0), .slice (p.vA 1) (S.V 1).length (p.vc 1), .slice (p.tA 0) (S.T 0) (p.tc 0), .slice (p.tA 1) (S.T 1) (p.tc 1)] : List Value))).toArray := hM5.row.now
  have r8 : Row w5.drew w3.heap.size 69 (LEV e9 A3 c3 B3 d3) := r8
  refine wp_region_tailN (n := 45) 6 (fun w' => w' = w5.drew) (fun _ _ => True) (by kernel_rfl) (by kernel_rfl) (by decide) (by rfl) rfl ?_
  simp only [List.take_succ_cons, List.take_zero, List.drop_succ_cons, List.drop_zero]
  refine tail_pure (fun w => trivial) (v := ?_) (fun _ => rfl) ?_ ?_; rotate_left; (focus (intro us w9 hS9 hF; clear hF; subst hS9; go_simp; (try with_reducible rfl); done)); simp only [Act.put, List.setIfInBounds_toArray, List.set_cons_zero, List.set_cons_succ, Nat.reduceAdd]
  refine tail_pure (fun w => trivial) (v := ?_) (fun _ => rfl) ?_ ?_; rotate_left; (focus (intro us w9 hS9 hF; clear hF; subst hS9; go_simp; (try with_reducible rfl); done)); simp only [Act.put, List.setIfInBounds_toArray, List.set_cons_zero, List.set_cons_succ, Nat.reduceAdd]
  refine tail_pure (fun w => trivial) (v := .agg (LEV e9 A3 c3 B3 d3)) (fun _ => rfl) ?_ ?_; (focus (intro us w9 hS9 hF; clear hF; subst hS9; exact exec_load_g r8.range Try.underlying69 rfl (lev_info _ _ _ _ _) rfl)); simp only [Act.put, List.setIfInBounds_toArray, List.set_cons_zero, List.set_cons_succ, Nat.reduceAdd]
  refine tail_pure (fun w => trivial) (v := ?_) (fun _ => rfl) ?_ ?_; rotate_left; (focus (intro us w9 hS9 hF; clear hF; subst hS9; go_simp; (try with_reducible rfl); done)); simp only [Act.put, List.setIfInBounds_toArray, List.set_cons_zero, List.set_cons_succ, Nat.reduceAdd]
  refine tail_pure (fun w => trivial) (v := ?_) (fun _ => rfl) ?_ ?_; rotate_left; (focus (intro us w9 hS9 hF; clear hF; subst hS9; go_simp; (try with_reducible rfl); done)); simp only [Act.put, List.setIfInBounds_toArray, List.set_cons_zero, List.set_cons_succ, Nat.reduceAdd]
  refine tail_pure (fun w => trivial) (v := ?_) (fun _ => rfl) ?_ ?_; rotate_left; (focus (intro us w9 hS9 hF; clear hF; subst hS9; go_simp; (try with_reducible rfl); done)); simp only [Act.put, List.setIfInBounds_toArray, List.set_cons_zero, List.set_cons_succ, Nat.reduceAdd]
  refine tail_done fun us w7 hS7 hF => ?_
  subst hS7
  clear hF
  refine wp_put_mid (g := g) (t := 94) (off := 0) (pre := ([] : List Value)) (cs := (LEV (S.E 0) (p.A 0) (p.c 0) (p.B 0) (p.d 0)).toList) (post := ((LEV (S.E 1) (p.A 1) (p.c 1) (p.B 1) (p.d 1)).toList ++ ([.slice (p.yA 0) (S.Y 0).length (p.yc 0), .slice (p.yA 1) (S.Y 1).length (p.yc 1), .slice (p.vA 0) (S.V 0).length (p.vc 0), .slice (p.vA 1) (S.V 1).length (p.vc 1), .slice (p.tA 0) (S.T 0) (p.tc 0), .slice (p.tA 1) (S.T 1) (p.tc 1)] : List Value))) (L := LEV e9 A3 c3 B3 d3) hrow rfl rfl (lev_info _ _ _ _ _) (lev_one _ _ _ _ _) ?_ ?_ ?_; rfl; rfl; intro w8 u7 r7
  have hM5d := hM5.drew
  have hM8 := hM5d.putE (s := 0) (by omega) u7 hP5 r7
  have hw8 : White col w w8 := hw5.trans (((Only.upd u7 hM5.cg).white (by omega)).undrew)
  have hgl : w3.heap.size + 1 ≠ g := by have := hM.lt; omega
  have r9 := (show Row w5.drew (w3.heap.size + 1) 40 (LV k el fl len ack pp) from r9).upd u7 hgl
  have hszd : w.heap.size ≤ w8.drew.heap.size := hw8.size
  have hw8d : White col w w8.drew := hw8.trans (White.below ((Below.refl _ _).drew))
  clear hM5 hM5d hrow r8 u7 r7 hP5 hw5 hw8 hgl
  generalize w3.heap.size = g3 at *
  have hvs := hM8.way 1 (by omega)
  have hwr : IntKind.i64.wrap 1 = 1 := by rw [IntKind.wrap_i64]; rfl
  have hlg8 := hM8.lt
  obtain ⟨⟨y0, y1, v0, v1, t0, t1⟩, fz, e0, e1⟩ := hM8.cells
  go_upto_region 7 with (fail)
  have hM8d := hM8.drew
  have hcg8 := hM8.cg
  have hlg : g < w8.drew.heap.size := hlg8
  have hvq : OwnQ w8.drew 40 61 (p.yA 1) (S.Y 1).length (p.yc 1) (lsC (S.Y 1)) := hvs.part.now
  have r9 : Row w8.drew (g3 + 1) 40 (LV k el fl len ack pp) := r9
  have hbA0 := Below.refl w8.drew.heap.size w8.drew
  have hal := hbA0.alloc (Nat.le_refl _) (.cells (LV k el fl len ack pp) 40)
  have hMA := hM8d.below hal
  clear hM8 y0 y1 v0 v1 t0 t1 fz e0 e1
  obtain ⟨⟨y0, y1, v0, v1, t0, t1⟩, fz, e0, e1⟩ := hM8d.cells
  have hrowA : ∀ w9, (w8.drew.alloc (.cells (LV k el fl len ack pp) 40)).grownBy w9 (blk (p.yA 1)) → Row w9 g 94 _ := fun w9 h3 => (h3.block g hMA.lt (fun e => by have h9 := hvs.blk g e.symm; have h8 := hcg8; omega)).trans hMA.row.now
  refine wp_region_late (n := 45) [11, 12, 16] (QS w8.drew g 21 40 61 (p.yA 1) (S.Y 1).length (lsC (S.Y 1)) (LV k el fl len ack pp) 11 12) (fun _ _ => True) (by kernel_rfl) (by kernel_rfl) (by rfl) QS.loc QS.zero ?_
  generalize w8.drew = wd at *
  refine late_pure (by simp) (fun _ => trivial) (v := ?_) (fun _ => rfl) ?_ ?_; rotate_left; (focus (intro c9 us w9 hm9 hS9 hF; clear hF hm9; go_simp; (try with_reducible rfl); done)); simp only [Act.put, List.setIfInBounds_toArray, List.set_cons_zero, List.set_cons_succ, Nat.reduceAdd]
  refine late_pure (by simp) (fun _ => trivial) (v := ?_) (fun _ => rfl) ?_ ?_; rotate_left; (focus (intro c9 us w9 hm9 hS9 hF; clear hF hm9; go_simp; (try with_reducible rfl); done)); simp only [Act.put, List.setIfInBounds_toArray, List.set_cons_zero, List.set_cons_succ, Nat.reduceAdd]
  refine late_pure (by simp) (fun _ => trivial) (v := ?_) (fun _ => rfl) ?_ ?_; rotate_left; (focus (intro c9 us w9 hm9 hS9 hF; clear hF hm9; go_simp; (try with_reducible rfl); done)); simp only [Act.put, List.setIfInBounds_toArray, List.set_cons_zero, List.set_cons_succ, Nat.reduceAdd]
  refine late_pure (by simp) (fun _ => trivial) (v := ?_) (fun _ => rfl) ?_ ?_; rotate_left; (focus (intro c9 us w9 hm9 hS9 hF; clear hF hm9; go_simp; (try with_reducible rfl); done)); simp only [Act.put, List.setIfInBounds_toArray, List.set_cons_zero, List.set_cons_succ, Nat.reduceAdd]
  refine late_pure (by simp) (fun _ => trivial) (v := ?_) (fun _ => rfl) ?_ ?_; rotate_left; (focus (intro c9 us w9 hm9 hS9 hF; clear hF hm9; go_simp; (try with_reducible rfl); done)); simp only [Act.put, List.setIfInBounds_toArray, List.set_cons_zero, List.set_cons_succ, Nat.reduceAdd]
  refine late_pure (by simp) (fun _ => trivial) (v := ?_) (fun _ => rfl) ?_ ?_; rotate_left; (focus (intro c9 us w9 hm9 hS9 hF; clear hF hm9; go_simp; (try with_reducible rfl); done)); simp only [Act.put, List.setIfInBounds_toArray, List.set_cons_zero, List.set_cons_succ, Nat.reduceAdd]
  refine late_pure (by simp) (fun _ => trivial) (v := ?_) (fun _ => rfl) ?_ ?_; rotate_left; (focus (intro c9 us w9 hm9 hS9 hF; clear hF hm9; go_simp; (try with_reducible rfl); done)); simp only [Act.put, List.setIfInBounds_toArray, List.set_cons_zero, List.set_cons_succ, Nat.reduceAdd]
  refine late_pure (by simp) (fun _ => trivial) (v := ?_) (fun _ => rfl) ?_ ?_; rotate_left; (focus (intro c9 us w9 hm9 hS9 hF; clear hF hm9; go_simp; (try with_reducible rfl); done)); simp only [Act.put, List.setIfInBounds_toArray, List.set_cons_zero, List.set_cons_succ, Nat.reduceAdd]
  refine late_pure (by simp) (fun _ => trivial) (v := ?_) (fun _ => rfl) ?_ ?_; rotate_left; (focus (intro c9 us w9 hm9 hS9 hF; clear hF hm9; go_simp; (try with_reducible rfl); done)); simp only [Act.put, List.setIfInBounds_toArray, List.set_cons_zero, List.set_cons_succ, Nat.reduceAdd]
  refine late_pure (by simp) (fun _ => trivial) (v := ?_) (fun _ => rfl) ?_ ?_; rotate_left; (focus (intro c9 us w9 hm9 hS9 hF; have hc9 : c9 < 2 := (by rcases Nat.lt_or_ge c9 2 with h9 | h9; exact h9; exact absurd hm9 (by rw [mayAt_no (d := 1) (by kernel_rfl) (by omega) (by decide)]; decide)); have bcell := ((hS9.early hc9).cell (p := ⟨g, 21, none⟩) hlg).trans y1; clear hF hm9; go_simp; (try with_reducible rfl); done)); simp only [Act.put, List.setIfInBounds_toArray, List.set_cons_zero, List.set_cons_succ, Nat.reduceAdd]
  refine late_pure (by simp) (fun _ => trivial) (v := .agg (LV k el fl len ack pp)) (fun _ => rfl) ?_ ?_; (focus (intro c9 us w9 hm9 hS9 hF; have hc9 : c9 < 1 := (by rcases Nat.lt_or_ge c9 1 with h9 | h9; exact h9; exact absurd hm9 (by rw [mayAt_no (d := 0) (by kernel_rfl) (by omega) (by decide)]; decide)); have h0 : c9 = 0 := (by omega); have hw9 := hS9.1 h0; subst hw9; exact exec_load_g r9.range Try.underlying40 rfl (line_info _ _ _ _ _ hpp) rfl)); simp only [Act.put, List.setIfInBounds_toArray, List.set_cons_zero, List.set_cons_succ, Nat.reduceAdd]
  refine late_chain (by simp) ?_ ?_; (focus (intro us w9 hS9 hF K hK; clear hF; obtain rfl := hS9.1 rfl; rw [if_pos (by rfl)]; exact step_build_1 Try.underlying36 info_ln (LV_size _ _ _ _ _ hpp) (by omega) (by omega) rfl (hK _ _ QS.one trivial))); simp only [Act.put, List.setIfInBounds_toArray, List.set_cons_zero, List.set_cons_succ, Nat.reduceAdd]
  refine late_chain (by simp) ?_ ?_; (focus (intro us w9 hS9 hF K hK; clear hF; obtain ⟨hu, rfl⟩ := hS9.2.1 rfl; simp only [hu] at hK ⊢; rw [if_pos (by rfl)]; exact step_append_q (P := Try.prog) Try.underlying36 info_ln rfl (by omega) (hvq.of_same (fun b hb => hal.block b (hvq.lt b hb))) (Row.born _ _ _) (LV_list _ _ _ _ _ hpp) (LV_ones _ _ _ _ _ _) (by omega) (by omega) rfl rfl (fun A' c'' w' b h2 h3 h4 h5 => hK _ _ (QS.two h2 h3 h4 h5) trivial))); simp only [Act.put, List.setIfInBounds_toArray, List.set_cons_zero, List.set_cons_succ, Nat.reduceAdd]
  refine late_pure (by simp) (fun _ => trivial) (v := ?_) (fun _ => rfl) ?_ ?_; rotate_left; (focus (intro c9 us w9 hm9 hS9 hF; clear hF hm9; go_simp; (try with_reducible rfl); done)); simp only [Act.put, List.setIfInBounds_toArray, List.set_cons_zero, List.set_cons_succ, Nat.reduceAdd]
  refine late_pure (by simp) (fun _ => trivial) (v := ?_) (fun _ => rfl) ?_ ?_; rotate_left; (focus (intro c9 us w9 hm9 hS9 hF; clear hF hm9; go_simp; (try with_reducible rfl); done)); simp only [Act.put, List.setIfInBounds_toArray, List.set_cons_zero, List.set_cons_succ, Nat.reduceAdd]
  refine late_pure (by simp) (fun _ => trivial) (v := ?_) (fun _ => rfl) ?_ ?_; rotate_left; (focus (intro c9 us w9 hm9 hS9 hF; clear hF hm9; go_simp; (try with_reducible rfl); done)); simp only [Act.put, List.setIfInBounds_toArray, List.set_cons_zero, List.set_cons_succ, Nat.reduceAdd]
  refine late_store rfl ?_ ?_; (focus (intro us w9 hS9 hF K hK; clear hF; obtain ⟨A', c', w2, b, hu, h2, h3, h4, h5, h6, -⟩ := hS9.2.2 (by omega); have h6 := h6 rfl; subst h6; simp only [hu] at hK ⊢; have hr9 := hrowA w9 h3; have k9 := hr9.cell 21; have f9 := hr9.frozen 21; simp only [WCell] at k9; have hS10 := hS9.three hu; go_simp; exact hK _ hS10 trivial)); simp only [Nat.reduceAdd]
  refine late_done fun us w12 hS12 hF => ?_
  obtain ⟨A', c', w2, b, -, hq2, hg2, hbA, hbb, -, hw0⟩ := hS12.2.2 (by omega)
  have hw12 := hw0 (by omega)
  clear hF hS12 hw0
  have hG : Grow g (2 + 1) b col (wd.alloc (.cells (LV k el fl len ack pp) 40)) w2 w12 (blk (p.yA 1)) := ⟨hMA.lt, hcg8, by omega, by omega, hg2, hvs.blk, hbb, hq2.lt b hbA, by rw [hw12]; exact Upd.setCell _ _ _ _⟩
  have hr12 := (hrowA w2 hg2).set 21 (.slice A' ((S.Y 1).length + 1) c')
  rw [← hw12] at hr12
  have hlen : (S.Y 1 ++ [(⟨k, el, fl, len, ack, pp⟩ : Ln)]).length = (S.Y 1).length + 1 := by simp
  have hM12 := hMA.appY (s := 1) (by omega) hG hok hq2 hbA (by
    unfold WCell
    simp only [upd, if_true, hlen]
    exact hr12)
  have hw12' := hw8d.trans ((White.below hal).trans hG.white.1)
  have hcol := fun x (hx : x < w.heap.size) (h0 : col x = 0) => hG.white.2 x (Nat.lt_of_lt_of_le hx (Nat.le_trans hszd hal.size)) h0
  clear hw12 hG hr12 hrowA hMA hM8d hvq hvs hg2 hq2 hw8d
  go_wp2
  go_ret
  exact ⟨rfl, _, _, hM12, hw12', hcol⟩
set_option maxRecDepth 100000 in
set_option maxHeartbeats 8000000 in
theorem tr_no1 (base g : Nat) (col : Nat → Nat) (w : World) (S : WrS) (p : WrP) (hM : WM base g col w S p) (hgd : Gd (S.E 1)) (hE : nxE (S.E 1) = 17) : Calls Try.prog 59 #[.pointer (some ⟨g, 0, none⟩), .int .i64 1] w (WStep base g col w S) := by
  have HE := Lib.hid hE
  obtain ⟨k, hk⟩ : ∃ k : Int, k = 0 := ⟨_, rfl⟩
  obtain ⟨el, hel⟩ : ∃ el : Bool, el = false := ⟨_, rfl⟩
  obtain ⟨fl, hfl⟩ : ∃ fl : Bool, fl = false := ⟨_, rfl⟩
  obtain ⟨len, hlen⟩ : ∃ len : Int, len = 0 := ⟨_, rfl⟩
  obtain ⟨ack, hack⟩ : ∃ ack : Int, ack = 0 := ⟨_, rfl⟩
  obtain ⟨pp, hpp'⟩ : ∃ pp, pp = z56 := ⟨_, rfl⟩
  have hpp : pp.length = 56 := by rw [hpp']; rfl
  have HV := Lib.hid (show nxV (S.E 1) = LV k el fl len ack pp by unfold nxV; rw [if_neg (by rw [hE]; decide), hk, hel, hfl, hlen, hack, hpp']; rfl)
  clear hk hel hfl hlen hack hpp' hE
  obtain ⟨e9, he9⟩ : ∃ e9, nxL (S.E 1) = e9 := ⟨_, rfl⟩
  have HL := Lib.hid he9
  clear he9
  have hlg := hM.lt
  have ht := hgd.ty
  have hHel := fun {w'} (h : WM base g col w' S p) => (h.held 1 (by omega)).now
  obtain ⟨⟨y0, y1, v0, v1, t0, t1⟩, fz, e0, e1⟩ := hM.cells
  go_enter Try.func59, Try.ntmps59
  go_upto_region 2 with (first | ((with_reducible refine wp_load_g ?_ e1 Try.underlying69 rfl (lev_info _ _ _ _ _) ?_ ?_); rfl; rfl) | (go_at_call 45; refine (next_is HE.out HL.out HV.out ht (hHel hM)).mono ?_; rintro en w3 ⟨A3, c3, B3, d3, rfl, hH3, hb3⟩) | ((with_reducible refine wp_row_store (L := LEV e9 A3 c3 B3 d3) ((Row.bornAt (g := w3.heap.size) rfl 69 _).alloc _) ?_ (lev_info _ _ _ _ _) (lev_one _ _ _ _ _) ?_ ?_ ?_); rfl; rfl; rfl; intro w4 u4 r8) | ((with_reducible refine wp_row_store (L := LV k el fl len ack pp) ((Row.bornAt (g := w3.heap.size + 1) (by simp) 40 _).upd u4 (by omega)) ?_ (line_info _ _ _ _ _ hpp) (LV_one _ _ _ _ _ _) ?_ ?_ ?_); exact (LV_size _ _ _ _ _ hpp).symm; rfl; rfl; intro w5 u5 r9))
  clear y0 y1 v0 v1 t0 t1 fz e0 e1
  have hal := ((Below.refl w3.heap.size w3).alloc (Nat.le_refl _) (.cells ZE 69)).alloc (by simp) (.cells ZL 40)
  have hal2 := Upd.below (Upd.below (hb3.trans (hal.mono hb3.size)) u4 hb3.size) u5 (by have := hb3.size; omega)
  go_wp2
  go_ret
  exact WStep.same hM hal2
set_option maxRecDepth 100000 in
set_option maxHeartbeats 8000000 in
theorem tr_go1 (base g : Nat) (col : Nat → Nat) (w : World) (S : WrS) (p : WrP) (hM : WM base g col w S p) (hgd : Gd (S.E 1)) (hE : nxE (S.E 1) = 0) (hY : (S.Y 0).length ≤ 100000) : Calls Try.prog 59 #[.pointer (some ⟨g, 0, none⟩), .int .i64 1] w (WStep base g col w { S with E := upd S.E 1 (nxL (S.E 1)), Y := upd S.Y 0 (S.Y 0 ++ [nxn (S.E 1)]) }) := by
  have HE := Lib.hid hE
  have hok := nxn_ok hgd.ve
  have hnv := nxn_v hE
  obtain ⟨⟨k, el, fl, len, ack, pp⟩, hln⟩ : ∃ l, nxn (S.E 1) = l := ⟨_, rfl⟩
  rw [hln] at hok hnv
  have hpp : pp.length = 56 := hok.1
  have HV := Lib.hid (show nxV (S.E 1) = LV k el fl len ack pp from hnv)
  obtain ⟨e9, he9⟩ : ∃ e9, nxL (S.E 1) = e9 := ⟨_, rfl⟩
  have HL := Lib.hid he9
  rw [he9, hln]
  clear he9 hE hnv hln
  have hlg := hM.lt
  have ht := hgd.ty
  have hHel := fun {w'} (h : WM base g col w' S p) => (h.held 1 (by omega)).now
  obtain ⟨⟨y0, y1, v0, v1, t0, t1⟩, fz, e0, e1⟩ := hM.cells
  go_enter Try.func59, Try.ntmps59
  go_upto_region 2 with (first | ((with_reducible refine wp_load_g ?_ e1 Try.underlying69 rfl (lev_info _ _ _ _ _) ?_ ?_); rfl; rfl) | (go_at_call 45; refine (next_is HE.out HL.out HV.out ht (hHel hM)).mono ?_; rintro en w3 ⟨A3, c3, B3, d3, rfl, hH3, hb3⟩) | ((with_reducible refine wp_row_store (L := LEV e9 A3 c3 B3 d3) ((Row.bornAt (g := w3.heap.size) rfl 69 _).alloc _) ?_ (lev_info _ _ _ _ _) (lev_one _ _ _ _ _) ?_ ?_ ?_); rfl; rfl; rfl; intro w4 u4 r8) | ((with_reducible refine wp_row_store (L := LV k el fl len ack pp) ((Row.bornAt (g := w3.heap.size + 1) (by simp) 40 _).upd u4 (by omega)) ?_ (line_info _ _ _ _ _ hpp) (LV_one _ _ _ _ _ _) ?_ ?_ ?_); exact (LV_size _ _ _ _ _ hpp).symm; rfl; rfl; intro w5 u5 r9))
  clear y0 y1 v0 v1 t0 t1 fz e0 e1
  have hal := ((Below.refl w3.heap.size w3).alloc (Nat.le_refl _) (.cells ZE 69)).alloc (by simp) (.cells ZL 40)
  have hal2 := Upd.below (Upd.below (hb3.trans (hal.mono hb3.size)) u4 hb3.size) u5 (by have := hb3.size; omega)
  have r8 := r8.upd u5 (by omega)
  have hH5 := ((hH3.below hal).upd u4 (.inr (Nat.le_refl _))).upd u5 (.inr (by omega))
  have hw5 : White col w w5 := White.below hal2
  have hlo : w.heap.size ≤ w3.heap.size := hb3.size
  have hM5 := hM.below hal2
  have hP5 : Part col 0 w5 (fun w => Held w e9 A3 c3 B3 d3) := Part.held hH5 (fun x h1 h2 => hM.cn x h1)
  have hg8 : w3.heap.size < w5.heap.size := r8.lt
  clear hal hal2 hb3 hH3 u4 u5 hH5
  go_upto_region 6 with (fail)
  have hrow : Row w5.drew g 94 ((LEV (S.E 0) (p.A 0) (p.c 0) (p.B 0) (p.d 0)).toList ++ (LEV (S.E 1) (p.A 1) (p.c 1) (p.B 1) (p.d 1)).toList ++ ([.slice (p.yA 0) (S.Y 0).length (p.yc 0), .slice (p.yA 1) (S.Y 1).length (p.yc 1), .slice (p.vA 0) (S.V 0).length (p.vc 0), .slice (p.vA 1) (S.V 1).length (p.vc 1), .slice (p.tA 0) (S.T 0) (p.tc 0), .slice (p.tA 1) (S.T 1) (p.tc 1)] : List Value)).toArray := hM5.row.now
  have r8 : Row w5.drew w3.heap.size 69 (LEV e9 A3 c3 B3 d3) := r8
  refine wp_region_tailN (n := 45) 6 (fun w' => w' = w5.drew) (fun _ _ => True) (by kernel_rfl) (by kernel_rfl) (by decide) (by rfl) rfl ?_
  simp only [List.take_succ_cons, List.take_zero, List.drop_succ_cons, List.drop_zero]
  refine tail_pure (fun w => trivial) (v := ?_) (fun _ => rfl) ?_ ?_; rotate_left; (focus (intro us w9 hS9 hF; clear hF; subst hS9; go_simp; (try with_reducible rfl); done)); simp only [Act.put, List.setIfInBounds_toArray, List.set_cons_zero, List.set_cons_succ, Nat.reduceAdd]
  refine tail_pure (fun w => trivial) (v := ?_) (fun _ => rfl) ?_ ?_; rotate_left; (focus (intro us w9 hS9 hF; clear hF; subst hS9; go_simp; (try with_reducible rfl); done)); simp only [Act.put, List.setIfInBounds_toArray, List.set_cons_zero, List.set_cons_succ, Nat.reduceAdd]
  refine tail_pure (fun w => trivial) (v := .agg (LEV e9 A3 c3 B3 d3)) (fun _ => rfl) ?_ ?_; (focus (intro us w9 hS9 hF; clear hF; subst hS9; exact exec_load_g r8.range Try.underlying69 rfl (lev_info _ _ _ _ _) rfl)); simp only [Act.put, List.setIfInBounds_toArray, List.set_cons_zero, List.set_cons_succ, Nat.reduceAdd]
  refine tail_pure (fun w => trivial) (v := ?_) (fun _ => rfl) ?_ ?_; rotate_left; (focus (intro us w9 hS9 hF; clear hF; subst hS9; go_simp; (try with_reducible rfl); done)); simp only [Act.put, List.setIfInBounds_toArray, List.set_cons_zero, List.set_cons_succ, Nat.reduceAdd]
  refine tail_pure (fun w => trivial) (v := ?_) (fun _ => rfl) ?_ ?_; rotate_left; (focus (intro us w9 hS9 hF; clear hF; subst hS9; go_simp; (try with_reducible rfl); done)); simp only [Act.put, List.setIfInBounds_toArray, List.set_cons_zero, List.set_cons_succ, Nat.reduceAdd]
  refine tail_pure (fun w => trivial) (v := ?_) (fun _ => rfl) ?_ ?_; rotate_left; (focus (intro us w9 hS9 hF; clear hF; subst hS9; go_simp; (try with_reducible rfl); done)); simp only [Act.put, List.setIfInBounds_toArray, List.set_cons_zero, List.set_cons_succ, Nat.reduceAdd]
  refine tail_done fun us w7 hS7 hF => ?_
  subst hS7
  clear hF
  refine wp_put_mid (g := g) (t := 94) (off := 10) (pre := (LEV (S.E 0) (p.A 0) (p.c 0) (p.B 0) (p.d 0)).toList) (cs := (LEV (S.E 1) (p.A 1) (p.c 1) (p.B 1) (p.d 1)).toList) (post := ([.slice (p.yA 0) (S.Y 0).length (p.yc 0), .slice (p.yA 1) (S.Y 1).length (p.yc 1), .slice (p.vA 0) (S.V 0).length (p.vc 0), .slice (p.vA 1) (S.V 1).length (p.vc 1), .slice (p.tA 0) (S.T 0) (p.tc 0), .slice (p.tA 1) (S.T 1) (p.tc 1)] : List Value)) (L := LEV e9 A3 c3 B3 d3) hrow rfl rfl (lev_info _ _ _ _ _) (lev_one _ _ _ _ _) ?_ ?_ ?_; rfl; rfl; intro w8 u7 r7
  have hM5d := hM5.drew
  have hM8 := hM5d.putE (s := 1) (by omega) u7 hP5 r7
  have hw8 : White col w w8 := hw5.trans (((Only.upd u7 hM5.cg).white (by omega)).undrew)
  have hgl : w3.heap.size + 1 ≠ g := by have := hM.lt; omega
  have r9 := (show Row w5.drew (w3.heap.size + 1) 40 (LV k el fl len ack pp) from r9).upd u7 hgl
  have hszd : w.heap.size ≤ w8.drew.heap.size := hw8.size
  have hw8d : White col w w8.drew := hw8.trans (White.below ((Below.refl _ _).drew))
  clear hM5 hM5d hrow r8 u7 r7 hP5 hw5 hw8 hgl
  generalize w3.heap.size = g3 at *
  have hvs := hM8.way 0 (by omega)
  have hwr : IntKind.i64.wrap 0 = 0 := by rw [IntKind.wrap_i64]; rfl
  have hlg8 := hM8.lt
  obtain ⟨⟨y0, y1, v0, v1, t0, t1⟩, fz, e0, e1⟩ := hM8.cells
  go_upto_region 7 with (fail)
  have hM8d := hM8.drew
  have hcg8 := hM8.cg
  have hlg : g < w8.drew.heap.size := hlg8
  have hvq : OwnQ w8.drew 40 61 (p.yA 0) (S.Y 0).length (p.yc 0) (lsC (S.Y 0)) := hvs.part.now
  have r9 : Row w8.drew (g3 + 1) 40 (LV k el fl len ack pp) := r9
  have hbA0 := Below.refl w8.drew.heap.size w8.drew
  have hal := hbA0.alloc (Nat.le_refl _) (.cells (LV k el fl len ack pp) 40)
  have hMA := hM8d.below hal
  clear hM8 y0 y1 v0 v1 t0 t1 fz e0 e1
  obtain ⟨⟨y0, y1, v0, v1, t0, t1⟩, fz, e0, e1⟩ := hM8d.cells
  have hrowA : ∀ w9, (w8.drew.alloc (.cells (LV k el fl len ack pp) 40)).grownBy w9 (blk (p.yA 0)) → Row w9 g 94 _ := fun w9 h3 => (h3.block g hMA.lt (fun e => by have h9 := hvs.blk g e.symm; have h8 := hcg8; omega)).trans hMA.row.now
  refine wp_region_late (n := 45) [11, 12, 16] (QS w8.drew g 20 40 61 (p.yA 0) (S.Y 0).length (lsC (S.Y 0)) (LV k el fl len ack pp) 11 12) (fun _ _ => True) (by kernel_rfl) (by kernel_rfl) (by rfl) QS.loc QS.zero ?_
  generalize w8.drew = wd at *
  refine late_pure (by simp) (fun _ => trivial) (v := ?_) (fun _ => rfl) ?_ ?_; rotate_left; (focus (intro c9 us w9 hm9 hS9 hF; clear hF hm9; go_simp; (try with_reducible rfl); done)); simp only [Act.put, List.setIfInBounds_toArray, List.set_cons_zero, List.set_cons_succ, Nat.reduceAdd]
  refine late_pure (by simp) (fun _ => trivial) (v := ?_) (fun _ => rfl) ?_ ?_; rotate_left; (focus (intro c9 us w9 hm9 hS9 hF; clear hF hm9; go_simp; (try with_reducible rfl); done)); simp only [Act.put, List.setIfInBounds_toArray, List.set_cons_zero, List.set_cons_succ, Nat.reduceAdd]
  refine late_pure (by simp) (fun _ => trivial) (v := ?_) (fun _ => rfl) ?_ ?_; rotate_left; (focus (intro c9 us w9 hm9 hS9 hF; clear hF hm9; go_simp; (try with_reducible rfl); done)); simp only [Act.put, List.setIfInBounds_toArray, List.set_cons_zero, List.set_cons_succ, Nat.reduceAdd]
  refine late_pure (by simp) (fun _ => trivial) (v := ?_) (fun _ => rfl) ?_ ?_; rotate_left; (focus (intro c9 us w9 hm9 hS9 hF; clear hF hm9; go_simp; (try with_reducible rfl); done)); simp only [Act.put, List.setIfInBounds_toArray, List.set_cons_zero, List.set_cons_succ, Nat.reduceAdd]
  refine late_pure (by simp) (fun _ => trivial) (v := ?_) (fun _ => rfl) ?_ ?_; rotate_left; (focus (intro c9 us w9 hm9 hS9 hF; clear hF hm9; go_simp; (try with_reducible rfl); done)); simp only [Act.put, List.setIfInBounds_toArray, List.set_cons_zero, List.set_cons_succ, Nat.reduceAdd]
  refine late_pure (by simp) (fun _ => trivial) (v := ?_) (fun _ => rfl) ?_ ?_; rotate_left; (focus (intro c9 us w9 hm9 hS9 hF; clear hF hm9; go_simp; (try with_reducible rfl); done)); simp only [Act.put, List.setIfInBounds_toArray, List.set_cons_zero, List.set_cons_succ, Nat.reduceAdd]
  refine late_pure (by simp) (fun _ => trivial) (v := ?_) (fun _ => rfl) ?_ ?_; rotate_left; (focus (intro c9 us w9 hm9 hS9 hF; clear hF hm9; go_simp; (try with_reducible rfl); done)); simp only [Act.put, List.setIfInBounds_toArray, List.set_cons_zero, List.set_cons_succ, Nat.reduceAdd]
  refine late_pure (by simp) (fun _ => trivial) (v := ?_) (fun _ => rfl) ?_ ?_; rotate_left; (focus (intro c9 us w9 hm9 hS9 hF; clear hF hm9; go_simp; (try with_reducible rfl); done)); simp only [Act.put, List.setIfInBounds_toArray, List.set_cons_zero, List.set_cons_succ, Nat.reduceAdd]
  refine late_pure (by simp) (fun _ => trivial) (v := ?_) (fun _ => rfl) ?_ ?_; rotate_left; (focus (intro c9 us w9 hm9 hS9 hF; clear hF hm9; go_simp; (try with_reducible rfl); done)); simp only [Act.put, List.setIfInBounds_toArray, List.set_cons_zero, List.set_cons_succ, Nat.reduceAdd]
  refine late_pure (by simp) (fun _ => trivial) (v := ?_) (fun _ => rfl) ?_ ?_; rotate_left; (focus (intro c9 us w9 hm9 hS9 hF; have hc9 : c9 < 2 := (by rcases Nat.lt_or_ge c9 2 with h9 | h9; exact h9; exact absurd hm9 (by rw [mayAt_no (d := 1) (by kernel_rfl) (by omega) (by decide)]; decide)); have bcell := ((hS9.early hc9).cell (p := ⟨g, 20, none⟩) hlg).trans y0; clear hF hm9; go_simp; (try with_reducible rfl); done)); simp only [Act.put, List.setIfInBounds_toArray, List.set_cons_zero, List.set_cons_succ, Nat.reduceAdd]
  refine late_pure (by simp) (fun _ => trivial) (v := .agg (LV k el fl len ack pp)) (fun _ => rfl) ?_ ?_; (focus (intro c9 us w9 hm9 hS9 hF; have hc9 : c9 < 1 := (by rcases Nat.lt_or_ge c9 1 with h9 | h9; exact h9; exact absurd hm9 (by rw [mayAt_no (d := 0) (by kernel_rfl) (by omega) (by decide)]; decide)); have h0 : c9 = 0 := (by omega); have hw9 := hS9.1 h0; subst hw9; exact exec_load_g r9.range Try.underlying40 rfl (line_info _ _ _ _ _ hpp) rfl)); simp only [Act.put, List.setIfInBounds_toArray, List.set_cons_zero, List.set_cons_succ, Nat.reduceAdd]
  refine late_chain (by simp) ?_ ?_; (focus (intro us w9 hS9 hF K hK; clear hF; obtain rfl := hS9.1 rfl; rw [if_pos (by rfl)]; exact step_build_1 Try.underlying36 info_ln (LV_size _ _ _ _ _ hpp) (by omega) (by omega) rfl (hK _ _ QS.one trivial))); simp only [Act.put, List.setIfInBounds_toArray, List.set_cons_zero, List.set_cons_succ, Nat.reduceAdd]
  refine late_chain (by simp) ?_ ?_; (focus (intro us w9 hS9 hF K hK; clear hF; obtain ⟨hu, rfl⟩ := hS9.2.1 rfl; simp only [hu] at hK ⊢; rw [if_pos (by rfl)]; exact step_append_q (P := Try.prog) Try.underlying36 info_ln rfl (by omega) (hvq.of_same (fun b hb => hal.block b (hvq.lt b hb))) (Row.born _ _ _) (LV_list _ _ _ _ _ hpp) (LV_ones _ _ _ _ _ _) (by omega) (by omega) rfl rfl (fun A' c'' w' b h2 h3 h4 h5 => hK _ _ (QS.two h2 h3 h4 h5) trivial))); simp only [Act.put, List.setIfInBounds_toArray, List.set_cons_zero, List.set_cons_succ, Nat.reduceAdd]
  refine late_pure (by simp) (fun _ => trivial) (v := ?_) (fun _ => rfl) ?_ ?_; rotate_left; (focus (intro c9 us w9 hm9 hS9 hF; clear hF hm9; go_simp; (try with_reducible rfl); done)); simp only [Act.put, List.setIfInBounds_toArray, List.set_cons_zero, List.set_cons_succ, Nat.reduceAdd]
  refine late_pure (by simp) (fun _ => trivial) (v := ?_) (fun _ => rfl) ?_ ?_; rotate_left; (focus (intro c9 us w9 hm9 hS9 hF; clear hF hm9; go_simp; (try with_reducible rfl); done)); simp only [Act.put, List.setIfInBounds_toArray, List.set_cons_zero, List.set_cons_succ, Nat.reduceAdd]
  refine late_pure (by simp) (fun _ => trivial) (v := ?_) (fun _ => rfl) ?_ ?_; rotate_left; (focus (intro c9 us w9 hm9 hS9 hF; clear hF hm9; go_simp; (try with_reducible rfl); done)); simp only [Act.put, List.setIfInBounds_toArray, List.set_cons_zero, List.set_cons_succ, Nat.reduceAdd]
  refine late_store rfl ?_ ?_; (focus (intro us w9 hS9 hF K hK; clear hF; obtain ⟨A', c', w2, b, hu, h2, h3, h4, h5, h6, -⟩ := hS9.2.2 (by omega); have h6 := h6 rfl; subst h6; simp only [hu] at hK ⊢; have hr9 := hrowA w9 h3; have k9 := hr9.cell 20; have f9 := hr9.frozen 20; simp only [WCell] at k9; have hS10 := hS9.three hu; go_simp; exact hK _ hS10 trivial)); simp only [Nat.reduceAdd]
  refine late_done fun us w12 hS12 hF => ?_
  obtain ⟨A', c', w2, b, -, hq2, hg2, hbA, hbb, -, hw0⟩ := hS12.2.2 (by omega)
  have hw12 := hw0 (by omega)
  clear hF hS12 hw0
  have hG : Grow g (2 + 0) b col (wd.alloc (.cells (LV k el fl len ack pp) 40)) w2 w12 (blk (p.yA 0)) := ⟨hMA.lt, hcg8, by omega, by omega, hg2, hvs.blk, hbb, hq2.lt b hbA, by rw [hw12]; exact Upd.setCell _ _ _ _⟩
  have hr12 := (hrowA w2 hg2).set 20 (.slice A' ((S.Y 0).length + 1) c')
  rw [← hw12] at hr12
  have hlen : (S.Y 0 ++ [(⟨k, el, fl, len, ack, pp⟩ : Ln)]).length = (S.Y 0).length + 1 := by simp
  have hM12 := hMA.appY (s := 0) (by omega) hG hok hq2 hbA (by
    unfold WCell
    simp only [upd, if_true, hlen]
    exact hr12)
  have hw12' := hw8d.trans ((White.below hal).trans hG.white.1)
  have hcol := fun x (hx : x < w.heap.size) (h0 : col x = 0) => hG.white.2 x (Nat.lt_of_lt_of_le hx (Nat.le_trans hszd hal.size)) h0
  clear hw12 hG hr12 hrowA hMA hM8d hvq hvs hg2 hq2 hw8d
  go_wp2
  go_ret
  exact ⟨rfl, _, _, hM12, hw12', hcol⟩
end Go.Proofs.Ythjkhambmgepdaa
