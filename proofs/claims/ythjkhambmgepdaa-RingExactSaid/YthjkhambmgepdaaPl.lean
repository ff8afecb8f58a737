/- ring.Poll and the reference's, for every receiver and every slice of lines. -/
import Derived.Test.YthjkhambmgepdaaLsl
import Derived.Test.YthjkhambmgepdaaPoll
import Derived.Test.YthjkhambmgepdaaRf1
namespace Go.Proofs.Ythjkhambmgepdaa
open Go.RowKit
set_option linter.unusedVariables false
def plE (n x : Int) (m : Nat) (ls : List Ln) : Int :=
  if vr n x = true then (if (m : Int) = n then (if (ls.getD (x % n).toNat default).k = 1 ∧ (ls.getD (x % n).toNat default).e = ep n x then (if (ls.getD (x % n).toNat default).n < 0 ∨ 56 < (ls.getD (x % n).toNat default).n then 66 else if x = 4611686018427387904 then 15 else 0) else 17) else 6) else 74
def plR (n x : Int) (m : Nat) (ls : List Ln) : Array Value := if plE n x m ls = 0 then #[.int .i64 n, .int .u64 (x + 1)] else ZR
def plL (n x : Int) (m : Nat) (ls : List Ln) : Array Value := if plE n x m ls = 0 then (ls.getD (x % n).toNat default).v else ZL
def PlPost (n x : Int) (m : Nat) (ls : List Ln) (W : World) (e : Ending) (W' : World) : Prop := e = .returned (.tuple #[.agg (plR n x m ls), .agg (plL n x m ls), .int .i64 (plE n x m ls)]) ∧ Below W.heap.size W W'
theorem pl_no {n x : Int} {m : Nat} {ls : List Ln} {E : Int} (h : plE n x m ls = E) (hE : E ≠ 0) {W W' : World} (hb : Below W.heap.size W W') : PlPost n x m ls W (.returned (.tuple #[.agg ZR, .agg ZL, .int .i64 E])) W' := by
  unfold PlPost plR plL
  rw [h, if_neg hE, if_neg hE]
  exact ⟨rfl, hb⟩
theorem pl_yes {n x : Int} {m : Nat} {ls : List Ln} {L : Array Value} (h : plE n x m ls = 0) (hL : (ls.getD (x % n).toNat default).v = L) {W W' : World} (hb : Below W.heap.size W W') : PlPost n x m ls W (.returned (.tuple #[.agg #[.int .i64 n, .int .u64 (x + 1)], .agg L, .int .i64 0])) W' := by
  unfold PlPost plR plL
  rw [h, if_pos rfl, if_pos rfl, hL]
  exact ⟨rfl, hb⟩
theorem getD_of {ls : List Ln} {i : Nat} {l : Ln} (h : ls[i]? = some l) : ls.getD i default = l := by rw [List.getD_eq_getElem?_getD, h]; rfl
theorem vr_yes {n x : Int} (h : vr n x = true) : vl n = true ∧ x ≤ 4611686018427387904 := by simpa [vr] using h
set_option maxRecDepth 100000 in
set_option maxHeartbeats 4000000 in
theorem pl26_state (n x : Int) (A : Option Addr) (m c : Nat) (ls : List Ln) (W : World) (hv : vr n x = false) : Calls Try.prog 26 #[.agg #[.int .i64 n, .int .u64 x], .slice A m c] W (PlPost n x m ls W) := by
  have HE := Lib.hid (show plE n x m ls = 74 by simp [plE, hv])
  have HV := Lib.hid hv
  clear hv
  go_enter Try.func26, Try.ntmps26
  go_wp2_with fail
  refine (valid_receiver _ _ _).mono ?_
  rintro e' w1 ⟨rfl, hb⟩
  rw [HV.out]
  obtain ⟨r1, r2, r3, hz, hB⟩ := three_new hb
  have r3 : Row w1 (W.heap.size + 2) 40 ZL := r3
  have r2 : Row w1 (W.heap.size + 1) 35 ZR := r2
  clear hb
  obtain ⟨⟨c0, c1⟩, f1⟩ := two_cells r1
  go_wp2_with (first | ((with_reducible refine wp_row_store (L := ZR) r2 rfl zr_info zr_one ?_ ?_ ?_); rfl; rfl; intro w4 u4 r4) | ((with_reducible refine wp_row_store (L := ZL) (r3.upd u4 (by omega)) rfl zl_info zl_one ?_ ?_ ?_); rfl; rfl; intro w5 u5 r5))
  refine bodyPost_ret (results_cct rfl rfl rfl (r4.upd u5 (by omega)) r5 Try.underlying35 Try.underlying40 rfl rfl zr_info zl_info) rfl ?_
  exact pl_no HE.out (by decide) (Upd.below (Upd.below hB u4 (by omega)) u5 (by omega))
set_option maxRecDepth 100000 in
set_option maxHeartbeats 4000000 in
theorem pl26_size (n x : Int) (A : Option Addr) (m c : Nat) (ls : List Ln) (W : World) (hv : vr n x = true) (hm : (m : Int) ≠ n) : Calls Try.prog 26 #[.agg #[.int .i64 n, .int .u64 x], .slice A m c] W (PlPost n x m ls W) := by
  have HE := Lib.hid (show plE n x m ls = 6 by simp [plE, hv, hm])
  have hne : ((m : Int) != n) = true := by simpa using hm
  have HV := Lib.hid hv
  clear hv hm
  go_enter Try.func26, Try.ntmps26
  go_wp2_with fail
  refine (valid_receiver _ _ _).mono ?_
  rintro e' w1 ⟨rfl, hb⟩
  rw [HV.out]
  obtain ⟨r1, r2, r3, hz, hB⟩ := three_new hb
  have r3 : Row w1 (W.heap.size + 2) 40 ZL := r3
  have r2 : Row w1 (W.heap.size + 1) 35 ZR := r2
  clear hb
  obtain ⟨⟨c0, c1⟩, f1⟩ := two_cells r1
  go_wp2_with (first | ((with_reducible refine wp_row_store (L := ZR) r2 rfl zr_info zr_one ?_ ?_ ?_); rfl; rfl; intro w4 u4 r4) | ((with_reducible refine wp_row_store (L := ZL) (r3.upd u4 (by omega)) rfl zl_info zl_one ?_ ?_ ?_); rfl; rfl; intro w5 u5 r5))
  refine bodyPost_ret (results_cct rfl rfl rfl (r4.upd u5 (by omega)) r5 Try.underlying35 Try.underlying40 rfl rfl zr_info zl_info) rfl ?_
  exact pl_no HE.out (by decide) (Upd.below (Upd.below hB u4 (by omega)) u5 (by omega))
set_option maxRecDepth 100000 in
set_option maxHeartbeats 8000000 in
theorem pl26_main (N : Nat) (x : Int) (A : Option Addr) (c : Nat) (ls : List Ln) (K : Int) (e f : Bool) (len a : Int) (p : List UInt8) (W : World) (hx0 : 0 ≤ x) (hv : vr N x = true) (hM : IsLs W A N ls) (hl : ls[(x % N).toNat]? = some ⟨K, e, f, len, a, p⟩) :
    Calls Try.prog 26 #[.agg #[.int .i64 N, .int .u64 x], .slice A N c] W (PlPost N x N ls W) := by
  have hgd := getD_of hl
  obtain ⟨hvl, hx1⟩ := vr_yes hv
  obtain ⟨n0, n1⟩ := vl_range hvl
  have q0 : 0 ≤ x % N := Int.emod_nonneg _ (by omega)
  have q1 : x % N < N := Int.emod_lt_of_pos _ (by omega)
  obtain ⟨i, hi⟩ : ∃ i : Nat, x % (N : Int) = i := ⟨(x % N).toNat, by omega⟩
  have HEE := Lib.hid (show plE N x N ls = if K = 1 ∧ e = ep N x then (if len < 0 ∨ 56 < len then 66 else if x = 4611686018427387904 then 15 else 0) else 17 by simp only [plE, hv, if_true, hgd])
  have HGD := Lib.hid hgd
  have HV := Lib.hid hv
  rw [hi] at hl
  clear hv hgd
  have hlt : i < N := by omega
  obtain ⟨b, o, l', hA, hl', hok, hrng0⟩ := hM.at_ i hlt
  rw [show (i : Int).toNat = i by omega, hl'] at hl
  injection hl with hl
  subst hl hA
  have hp : p.length = 56 := hok.1
  clear hl'
  go_enter Try.func26, Try.ntmps26
  go_wp2_with fail
  refine (valid_receiver _ _ _).mono ?_
  rintro e' w1 ⟨rfl, hb⟩
  rw [HV.out]
  obtain ⟨r1, r2, r3, hz, hB⟩ := three_new hb
  have r3 : Row w1 (W.heap.size + 2) 40 ZL := r3
  have r2 : Row w1 (W.heap.size + 1) 35 ZR := r2
  clear hb
  obtain ⟨⟨c0, c1⟩, f1⟩ := two_cells r1
  have hrng : w1.rangeAt b (o + i * 61) (Ln.mk K e f len a p).v.toList := fun j v hj => (hB.cell (p := ⟨b, o + i * 61 + j, none⟩) (block_lt_of_cell (hrng0 j v hj))).trans (hrng0 j v hj)
  clear hrng0 hM
  go_upto_region 5 with (fail)
  rw [hi] at q0 q1
  go_upto_region 6 with (first | ((with_reducible refine wp_ls_load hrng hok Try.underlying40 rfl info40 rfl ?_)) | ((with_reducible refine wp_row_store (L := LV K e f len a p) r3 (zl_size.trans (LV_size _ _ _ _ _ hp).symm) (line_info _ _ _ _ _ hp) (LV_one _ _ _ _ _ _) ?_ ?_ ?_); rfl; rfl; intro w2 u2 r3'))
  have hB2 := Upd.below hB u2 (by omega)
  have r1 := r1.upd u2 (by omega)
  have r2 := r2.upd u2 (by omega)
  clear r3
  have r3 := r3'
  clear c0 c1 f1 u2 r3' hrng q0 q1 hB hi
  refine wp_region_told (n := 66) (fun w' => w' = w2.drew) (fun _ _ => True) (by kernel_rfl) (by kernel_rfl) (by rfl) rfl ?_
  have r1 : Row w2.drew W.heap.size 35 #[.int .i64 N, .int .u64 x] := r1
  have r2 : Row w2.drew (W.heap.size + 1) 35 ZR := r2
  have r3 : Row w2.drew (W.heap.size + 2) 40 (LV K e f len a p) := r3
  have hB2 : Below W.heap.size W w2.drew := hB2.drew
  generalize w2.drew = w3 at *
  obtain ⟨⟨c0, c1⟩, f1⟩ := two_cells r1
  obtain ⟨d0, d1, d2, d3, d4⟩ := line_cells r3
  by_cases hK : K = 1
  · subst hK
    by_cases he : e = ep N x
    · subst he
      repeat (first | (refine walk_pure (v := ?_) (fun _ => trivial) (fun _ => rfl) ?_ ?_; rotate_left; (focus (intro us w9 hS9 hF; subst hS9; go_simp; (try with_reducible rfl); done)); simp only [Act.put, List.setIfInBounds_toArray, List.set_cons_zero, List.set_cons_succ, Nat.reduceAdd]) | (refine walk_skip (fun _ => trivial) (fun _ => rfl) ?_; simp only [Act.put, List.setIfInBounds_toArray, List.set_cons_zero, List.set_cons_succ, Nat.reduceAdd]))
      refine walk_fix (v := ?_) ?_ ?_; rotate_left; (focus (intro us w9 hS9 hF K hK; subst hS9; go_simp; refine (epoch _ _ hx0 (by omega) n0 n1 _).mono ?_; rintro e' w' ⟨rfl, rfl⟩; exact hK _ rfl trivial)); simp only [Act.put, List.setIfInBounds_toArray, List.set_cons_zero, List.set_cons_succ, Nat.reduceAdd]
      repeat (first | (refine walk_pure (v := ?_) (fun _ => trivial) (fun _ => rfl) ?_ ?_; rotate_left; (focus (intro us w9 hS9 hF; subst hS9; go_simp; (try with_reducible rfl); done)); simp only [Act.put, List.setIfInBounds_toArray, List.set_cons_zero, List.set_cons_succ, Nat.reduceAdd]) | (refine walk_skip (fun _ => trivial) (fun _ => rfl) ?_; simp only [Act.put, List.setIfInBounds_toArray, List.set_cons_zero, List.set_cons_succ, Nat.reduceAdd]))
      refine walk_done fun us w9 hS9 hF => ?_
      subst hS9
      clear hF
      rcases Int.lt_or_le len 0 with hn | hn
      · have HE := Lib.hid (show plE N x N ls = 66 by rw [HEE.out]; simp [hn])
        go_wp2_with (first | ((with_reducible refine wp_row_store (L := ZR) r2 rfl zr_info zr_one ?_ ?_ ?_); rfl; rfl; intro w4 u4 r4) | ((with_reducible refine wp_row_store (L := ZL) (r3.upd u4 (by omega)) (zl_size.trans (LV_size _ _ _ _ _ hp).symm).symm zl_info zl_one ?_ ?_ ?_); rfl; rfl; intro w5 u5 r5))
        refine bodyPost_ret (results_cct rfl rfl rfl (r4.upd u5 (by omega)) r5 Try.underlying35 Try.underlying40 rfl rfl zr_info zl_info) rfl ?_
        exact pl_no HE.out (by decide) (Upd.below (Upd.below hB2 u4 (by omega)) u5 (by omega))
      rcases Int.lt_or_le 56 len with hn' | hn'
      · have HE := Lib.hid (show plE N x N ls = 66 by rw [HEE.out]; simp [hn'])
        go_wp2_with (first | ((with_reducible refine wp_row_store (L := ZR) r2 rfl zr_info zr_one ?_ ?_ ?_); rfl; rfl; intro w4 u4 r4) | ((with_reducible refine wp_row_store (L := ZL) (r3.upd u4 (by omega)) (zl_size.trans (LV_size _ _ _ _ _ hp).symm).symm zl_info zl_one ?_ ?_ ?_); rfl; rfl; intro w5 u5 r5))
        refine bodyPost_ret (results_cct rfl rfl rfl (r4.upd u5 (by omega)) r5 Try.underlying35 Try.underlying40 rfl rfl zr_info zl_info) rfl ?_
        exact pl_no HE.out (by decide) (Upd.below (Upd.below hB2 u4 (by omega)) u5 (by omega))
      by_cases hxm : x = 4611686018427387904
      · have HE := Lib.hid (show plE N x N ls = 15 by rw [HEE.out]; simp [hxm, hn, hn'])
        have hxl : (x == 4611686018427387904) = true := by simpa using hxm
        clear hxm
        go_wp2_with (first | ((with_reducible refine wp_row_store (L := ZR) r2 rfl zr_info zr_one ?_ ?_ ?_); rfl; rfl; intro w4 u4 r4) | ((with_reducible refine wp_row_store (L := ZL) (r3.upd u4 (by omega)) (zl_size.trans (LV_size _ _ _ _ _ hp).symm).symm zl_info zl_one ?_ ?_ ?_); rfl; rfl; intro w5 u5 r5))
        refine bodyPost_ret (results_cct rfl rfl rfl (r4.upd u5 (by omega)) r5 Try.underlying35 Try.underlying40 rfl rfl zr_info zl_info) rfl ?_
        exact pl_no HE.out (by decide) (Upd.below (Upd.below hB2 u4 (by omega)) u5 (by omega))
      have HE := Lib.hid (show plE N x N ls = 0 by rw [HEE.out]; simp [hxm]; omega)
      have hxl : (x == 4611686018427387904) = false := by simpa using hxm
      clear hxm
      have q1 : Row (w9.setCell ⟨W.heap.size, 1, none⟩ (.int .u64 (x + 1))) W.heap.size 35 #[.int .i64 N, .int .u64 (x + 1)] := r1.set 1 _
      have q2 : Row (w9.setCell ⟨W.heap.size, 1, none⟩ (.int .u64 (x + 1))) (W.heap.size + 1) 35 ZR := r2.other (by simp) _
      have q3 := r3.other (p := ⟨W.heap.size, 1, none⟩) (by simp) (.int .u64 (x + 1))
      have q7 := r3.other (p := ⟨W.heap.size, 1, none⟩) (by simp) (.int .u64 (x + 1))
      have hB4 : Below W.heap.size W (w9.setCell ⟨W.heap.size, 1, none⟩ (.int .u64 (x + 1))) := hB2.setCell (Nat.le_refl _) _
      clear r1 r2 r3 hB2
      go_upto_region 15 with (fail)
      generalize w9.setCell ⟨W.heap.size, 1, none⟩ (.int .u64 (x + 1)) = w4 at *
      clear c0 c1 f1 d0 d1 d2 d3 d4
      have hS : PollS W.heap.size #[.int .i64 N, .int .u64 (x + 1)] (LV 1 (ep N x) f len a p) w4 := ⟨q1, q7⟩
      have hi4 := line_info 1 (ep N x) f len a hp
      refine wp_region_held (S := PollS W.heap.size #[.int .i64 N, .int .u64 (x + 1)] (LV 1 (ep N x) f len a p)) (by kernel_rfl) ?_
      have e5 : ({ w4 with drawn := w4.drawn + 1 } : World) = w4.drew := rfl
      rw [e5]
      have hS : PollS W.heap.size #[.int .i64 N, .int .u64 (x + 1)] (LV 1 (ep N x) f len a p) w4.drew := hS
      have q2 : Row w4.drew (W.heap.size + 1) 35 ZR := q2
      have hB4 : Below W.heap.size W w4.drew := hB4.drew
      generalize w4.drew = w5 at *
      clear q1 q3 q7 e5
      refine take_load 0 rfl (by kernel_rfl) (by kernel_rfl) (by kernel_rfl) (fun _ _ _ _ h => h) hS (fun _ h => h.1) Try.underlying35 rfl info35 rfl ?_
      refine take_load 1 rfl (by kernel_rfl) (by kernel_rfl) (by kernel_rfl) (fun _ _ _ _ h => h) hS (fun _ h => h.2) Try.underlying40 rfl hi4 rfl ?_
      refine one_store 2 (L := #[.int .i64 N, .int .u64 (x + 1)]) rfl (by kernel_rfl) q2 rfl info35 (recv_one _ _) rfl rfl (fun w6 u6 r6 => ?_)
      have hS6 := hS.upd u6
      refine ⟨hS6, ?_⟩
      refine one_store 3 rfl (by kernel_rfl) hS6.2 rfl hi4 (LV_one _ _ _ _ _ _) rfl rfl (fun w7 u7 r7 => ?_)
      have r6 := r6.upd u7 (by omega)
      refine ⟨⟨hS6.1.upd u7 (by omega), r7⟩, ?_⟩
      refine one_assign 4 rfl (by kernel_rfl) ⟨hS6.1.upd u7 (by omega), r7⟩ ?_
      refine wpAnyH_done (by kernel_rfl) ?_ _
      go_wp2
      refine bodyPost_ret (results_cct rfl rfl rfl r6 r7 Try.underlying35 Try.underlying40 rfl rfl info35 hi4) rfl ?_
      exact pl_yes HE.out (by rw [HGD.out]; rfl) (Upd.below (Upd.below hB4 u6 (by omega)) u7 (by omega))
    · have HE := Lib.hid (show plE N x N ls = 17 by rw [HEE.out]; simp [he])
      have he' : (e == ep N x) = false := by simpa using he
      have he2 : (e != ep N x) = true := by simpa using he
      clear he
      repeat (first | (refine walk_pure (v := ?_) (fun _ => trivial) (fun _ => rfl) ?_ ?_; rotate_left; (focus (intro us w9 hS9 hF; subst hS9; go_simp; (try with_reducible rfl); done)); simp only [Act.put, List.setIfInBounds_toArray, List.set_cons_zero, List.set_cons_succ, Nat.reduceAdd]) | (refine walk_skip (fun _ => trivial) (fun _ => rfl) ?_; simp only [Act.put, List.setIfInBounds_toArray, List.set_cons_zero, List.set_cons_succ, Nat.reduceAdd]))
      refine walk_fix (v := ?_) ?_ ?_; rotate_left; (focus (intro us w9 hS9 hF K hK; subst hS9; go_simp; refine (epoch _ _ hx0 (by omega) n0 n1 _).mono ?_; rintro e' w' ⟨rfl, rfl⟩; exact hK _ rfl trivial)); simp only [Act.put, List.setIfInBounds_toArray, List.set_cons_zero, List.set_cons_succ, Nat.reduceAdd]
      repeat (first | (refine walk_pure (v := ?_) (fun _ => trivial) (fun _ => rfl) ?_ ?_; rotate_left; (focus (intro us w9 hS9 hF; subst hS9; go_simp; (try with_reducible rfl); done)); simp only [Act.put, List.setIfInBounds_toArray, List.set_cons_zero, List.set_cons_succ, Nat.reduceAdd]) | (refine walk_skip (fun _ => trivial) (fun _ => rfl) ?_; simp only [Act.put, List.setIfInBounds_toArray, List.set_cons_zero, List.set_cons_succ, Nat.reduceAdd]))
      refine walk_done fun us w9 hS9 hF => ?_
      subst hS9
      clear hF
      go_wp2_with (first | ((with_reducible refine wp_row_store (L := ZR) r2 rfl zr_info zr_one ?_ ?_ ?_); rfl; rfl; intro w4 u4 r4) | ((with_reducible refine wp_row_store (L := ZL) (r3.upd u4 (by omega)) (zl_size.trans (LV_size _ _ _ _ _ hp).symm).symm zl_info zl_one ?_ ?_ ?_); rfl; rfl; intro w5 u5 r5))
      refine bodyPost_ret (results_cct rfl rfl rfl (r4.upd u5 (by omega)) r5 Try.underlying35 Try.underlying40 rfl rfl zr_info zl_info) rfl ?_
      exact pl_no HE.out (by decide) (Upd.below (Upd.below hB2 u4 (by omega)) u5 (by omega))
  · have HE := Lib.hid (show plE N x N ls = 17 by rw [HEE.out]; simp [hK])
    have hK' : (K != 1) = true := by simpa using hK
    clear hK
    repeat (first | (refine walk_pure (v := ?_) (fun _ => trivial) (fun _ => rfl) ?_ ?_; rotate_left; (focus (intro us w9 hS9 hF; subst hS9; go_simp; (try with_reducible rfl); done)); simp only [Act.put, List.setIfInBounds_toArray, List.set_cons_zero, List.set_cons_succ, Nat.reduceAdd]) | (refine walk_skip (fun _ => trivial) (fun _ => rfl) ?_; simp only [Act.put, List.setIfInBounds_toArray, List.set_cons_zero, List.set_cons_succ, Nat.reduceAdd]))
    refine walk_done fun us w9 hS9 hF => ?_
    subst hS9
    clear hF
    go_wp2_with (first | ((with_reducible refine wp_row_store (L := ZR) r2 rfl zr_info zr_one ?_ ?_ ?_); rfl; rfl; intro w4 u4 r4) | ((with_reducible refine wp_row_store (L := ZL) (r3.upd u4 (by omega)) (zl_size.trans (LV_size _ _ _ _ _ hp).symm).symm zl_info zl_one ?_ ?_ ?_); rfl; rfl; intro w5 u5 r5))
    refine bodyPost_ret (results_cct rfl rfl rfl (r4.upd u5 (by omega)) r5 Try.underlying35 Try.underlying40 rfl rfl zr_info zl_info) rfl ?_
    exact pl_no HE.out (by decide) (Upd.below (Upd.below hB2 u4 (by omega)) u5 (by omega))
theorem poll_any (n x : Int) (A : Option Addr) (m c : Nat) (ls : List Ln) (W : World) (hx0 : 0 ≤ x) (hM : IsLs W A m ls) : Calls Try.prog 26 #[.agg #[.int .i64 n, .int .u64 x], .slice A m c] W (PlPost n x m ls W) := by
  cases hv : vr n x
  · exact pl26_state n x A m c ls W hv
  · by_cases hm : (m : Int) = n
    · subst hm
      obtain ⟨n0, n1⟩ := vl_range (vr_yes hv).1
      have q0 : 0 ≤ x % (m : Int) := Int.emod_nonneg _ (by omega)
      have q1 : x % (m : Int) < m := Int.emod_lt_of_pos _ (by omega)
      have hlt : (x % (m : Int)).toNat < ls.length := by have := hM.1; omega
      exact pl26_main m x A c ls _ _ _ _ _ _ W hx0 hv hM (List.getElem?_eq_getElem hlt)
    · exact pl26_size n x A m c ls W hv hm
def PollT (B g : Nat) (cs L : Array Value) (w : World) : Prop := Row w B 35 cs ∧ Row w g 40 L
theorem PollT.upd {B g x : Nat} {cs L : Array Value} {w w' : World} (h : PollT B g cs L w) (u : Upd w w' x) (h1 : B ≠ x) (h2 : g ≠ x) : PollT B g cs L w' := ⟨h.1.upd u h1, h.2.upd u h2⟩
set_option maxRecDepth 100000 in
set_option maxHeartbeats 4000000 in
theorem pl36_state (n x : Int) (A : Option Addr) (m c : Nat) (ls : List Ln) (W : World) (hv : vr n x = false) : Calls Try.prog 36 #[.agg #[.int .i64 n, .int .u64 x], .slice A m c] W (PlPost n x m ls W) := by
  have HE := Lib.hid (show plE n x m ls = 74 by simp [plE, hv])
  have HV := Lib.hid hv
  clear hv
  go_enter Try.func36, Try.ntmps36
  go_wp2_with fail
  refine (receiver_ref _ _ _).mono ?_
  rintro e' w1 ⟨rfl, hb⟩
  rw [HV.out]
  obtain ⟨r1, r2, r3, hz, hB⟩ := three_new hb
  have r3 : Row w1 (W.heap.size + 2) 40 ZL := r3
  have r2 : Row w1 (W.heap.size + 1) 35 ZR := r2
  clear hb
  obtain ⟨⟨c0, c1⟩, f1⟩ := two_cells r1
  go_wp2_with (first | ((with_reducible refine wp_row_store (L := ZR) r2 rfl zr_info zr_one ?_ ?_ ?_); rfl; rfl; intro w4 u4 r4) | ((with_reducible refine wp_row_store (L := ZL) (r3.upd u4 (by omega)) rfl zl_info zl_one ?_ ?_ ?_); rfl; rfl; intro w5 u5 r5))
  refine bodyPost_ret (results_cct rfl rfl rfl (r4.upd u5 (by omega)) r5 Try.underlying35 Try.underlying40 rfl rfl zr_info zl_info) rfl ?_
  exact pl_no HE.out (by decide) (Upd.below (Upd.below hB u4 (by omega)) u5 (by omega))
set_option maxRecDepth 100000 in
set_option maxHeartbeats 4000000 in
theorem pl36_size (n x : Int) (A : Option Addr) (m c : Nat) (ls : List Ln) (W : World) (hv : vr n x = true) (hm : (m : Int) ≠ n) : Calls Try.prog 36 #[.agg #[.int .i64 n, .int .u64 x], .slice A m c] W (PlPost n x m ls W) := by
  have HE := Lib.hid (show plE n x m ls = 6 by simp [plE, hv, hm])
  have hne : ((m : Int) != n) = true := by simpa using hm
  have HV := Lib.hid hv
  clear hv hm
  go_enter Try.func36, Try.ntmps36
  go_wp2_with fail
  refine (receiver_ref _ _ _).mono ?_
  rintro e' w1 ⟨rfl, hb⟩
  rw [HV.out]
  obtain ⟨r1, r2, r3, hz, hB⟩ := three_new hb
  have r3 : Row w1 (W.heap.size + 2) 40 ZL := r3
  have r2 : Row w1 (W.heap.size + 1) 35 ZR := r2
  clear hb
  obtain ⟨⟨c0, c1⟩, f1⟩ := two_cells r1
  go_wp2_with (first | ((with_reducible refine wp_row_store (L := ZR) r2 rfl zr_info zr_one ?_ ?_ ?_); rfl; rfl; intro w4 u4 r4) | ((with_reducible refine wp_row_store (L := ZL) (r3.upd u4 (by omega)) rfl zl_info zl_one ?_ ?_ ?_); rfl; rfl; intro w5 u5 r5))
  refine bodyPost_ret (results_cct rfl rfl rfl (r4.upd u5 (by omega)) r5 Try.underlying35 Try.underlying40 rfl rfl zr_info zl_info) rfl ?_
  exact pl_no HE.out (by decide) (Upd.below (Upd.below hB u4 (by omega)) u5 (by omega))
set_option maxRecDepth 100000 in
set_option maxHeartbeats 8000000 in
theorem pl36_main (N : Nat) (x : Int) (A : Option Addr) (c : Nat) (ls : List Ln) (K : Int) (e f : Bool) (len a : Int) (p : List UInt8) (W : World) (hx0 : 0 ≤ x) (hv : vr N x = true) (hM : IsLs W A N ls) (hl : ls[(x % N).toNat]? = some ⟨K, e, f, len, a, p⟩) :
    Calls Try.prog 36 #[.agg #[.int .i64 N, .int .u64 x], .slice A N c] W (PlPost N x N ls W) := by
  have hgd := getD_of hl
  obtain ⟨hvl, hx1⟩ := vr_yes hv
  obtain ⟨n0, n1⟩ := vl_range hvl
  have q0 : 0 ≤ x % N := Int.emod_nonneg _ (by omega)
  have q1 : x % N < N := Int.emod_lt_of_pos _ (by omega)
  obtain ⟨i, hi⟩ : ∃ i : Nat, x % (N : Int) = i := ⟨(x % N).toNat, by omega⟩
  have HEE := Lib.hid (show plE N x N ls = if K = 1 ∧ e = ep N x then (if len < 0 ∨ 56 < len then 66 else if x = 4611686018427387904 then 15 else 0) else 17 by simp only [plE, hv, if_true, hgd])
  have HGD := Lib.hid hgd
  have HV := Lib.hid hv
  rw [hi] at hl
  clear hv hgd
  have hlt : i < N := by omega
  obtain ⟨b, o, l', hA, hl', hok, hrng0⟩ := hM.at_ i hlt
  rw [show (i : Int).toNat = i by omega, hl'] at hl
  injection hl with hl
  subst hl hA
  have hp : p.length = 56 := hok.1
  clear hl'
  go_enter Try.func36, Try.ntmps36
  go_wp2_with fail
  refine (receiver_ref _ _ _).mono ?_
  rintro e' w1 ⟨rfl, hb⟩
  rw [HV.out]
  obtain ⟨r1, r2, r3, hz, hB⟩ := three_new hb
  have r3 : Row w1 (W.heap.size + 2) 40 ZL := r3
  have r2 : Row w1 (W.heap.size + 1) 35 ZR := r2
  clear hb
  obtain ⟨⟨c0, c1⟩, f1⟩ := two_cells r1
  have hrng : w1.rangeAt b (o + i * 61) (Ln.mk K e f len a p).v.toList := fun j v hj => (hB.cell (p := ⟨b, o + i * 61 + j, none⟩) (block_lt_of_cell (hrng0 j v hj))).trans (hrng0 j v hj)
  clear hrng0 hM
  go_upto_region 5 with (fail)
  rw [hi] at q0 q1
  go_upto_region 7 with (first | ((with_reducible refine wp_ls_load hrng hok Try.underlying40 rfl info40 rfl ?_)) | ((with_reducible refine wp_row_store (L := LV K e f len a p) (Row.bornAt (g := w1.heap.size) rfl 40 _) ?_ (line_info _ _ _ _ _ hp) (LV_one _ _ _ _ _ _) ?_ ?_ ?_); exact (LV_size _ _ _ _ _ hp).symm; rfl; rfl; intro w2 u2 r7))
  have hbz := Upd.below ((Below.refl w1.heap.size w1).alloc (Nat.le_refl _) _) u2 (Nat.le_refl _)
  have r1 := r1.below hbz r1.lt
  have r2 := r2.below hbz r2.lt
  have r3 := r3.below hbz r3.lt
  have hB2 := hB.trans (hbz.mono hB.size)
  have hg7 : W.heap.size + 2 < w1.heap.size := hz
  generalize w1.heap.size = g7 at *
  clear c0 c1 f1 hbz u2 hz hrng q0 q1 hB hi
  refine wp_region_told (n := 68) (fun w' => w' = w2.drew) (fun _ _ => True) (by kernel_rfl) (by kernel_rfl) (by rfl) rfl ?_
  have r1 : Row w2.drew W.heap.size 35 #[.int .i64 N, .int .u64 x] := r1
  have r2 : Row w2.drew (W.heap.size + 1) 35 ZR := r2
  have r3 : Row w2.drew (W.heap.size + 2) 40 ZL := r3
  have r7 : Row w2.drew g7 40 (LV K e f len a p) := r7
  have hB2 : Below W.heap.size W w2.drew := hB2.drew
  generalize w2.drew = w3 at *
  obtain ⟨⟨c0, c1⟩, f1⟩ := two_cells r1
  obtain ⟨d0, d1, d2, d3, d4⟩ := line_cells r7
  by_cases hK : K = 1
  · subst hK
    by_cases he : e = ep N x
    · subst he
      repeat (first | (refine walk_pure (v := ?_) (fun _ => trivial) (fun _ => rfl) ?_ ?_; rotate_left; (focus (intro us w9 hS9 hF; subst hS9; go_simp; (try with_reducible rfl); done)); simp only [Act.put, List.setIfInBounds_toArray, List.set_cons_zero, List.set_cons_succ, Nat.reduceAdd]) | (refine walk_skip (fun _ => trivial) (fun _ => rfl) ?_; simp only [Act.put, List.setIfInBounds_toArray, List.set_cons_zero, List.set_cons_succ, Nat.reduceAdd]))
      refine walk_fix (v := ?_) ?_ ?_; rotate_left; (focus (intro us w9 hS9 hF K hK; subst hS9; go_simp; refine (epoch_ref _ _ hx0 (by omega) n0 n1 _).mono ?_; rintro e' w' ⟨rfl, rfl⟩; exact hK _ rfl trivial)); simp only [Act.put, List.setIfInBounds_toArray, List.set_cons_zero, List.set_cons_succ, Nat.reduceAdd]
      repeat (first | (refine walk_pure (v := ?_) (fun _ => trivial) (fun _ => rfl) ?_ ?_; rotate_left; (focus (intro us w9 hS9 hF; subst hS9; go_simp; (try with_reducible rfl); done)); simp only [Act.put, List.setIfInBounds_toArray, List.set_cons_zero, List.set_cons_succ, Nat.reduceAdd]) | (refine walk_skip (fun _ => trivial) (fun _ => rfl) ?_; simp only [Act.put, List.setIfInBounds_toArray, List.set_cons_zero, List.set_cons_succ, Nat.reduceAdd]))
      refine walk_done fun us w9 hS9 hF => ?_
      subst hS9
      clear hF
      rcases Int.lt_or_le len 0 with hn | hn
      · have HE := Lib.hid (show plE N x N ls = 66 by rw [HEE.out]; simp [hn])
        go_wp2_with (first | ((with_reducible refine wp_row_store (L := ZR) r2 rfl zr_info zr_one ?_ ?_ ?_); rfl; rfl; intro w4 u4 r4) | ((with_reducible refine wp_row_store (L := ZL) (r3.upd u4 (by omega)) rfl zl_info zl_one ?_ ?_ ?_); rfl; rfl; intro w5 u5 r5))
        refine bodyPost_ret (results_cct rfl rfl rfl (r4.upd u5 (by omega)) r5 Try.underlying35 Try.underlying40 rfl rfl zr_info zl_info) rfl ?_
        exact pl_no HE.out (by decide) (Upd.below (Upd.below hB2 u4 (by omega)) u5 (by omega))
      rcases Int.lt_or_le 56 len with hn' | hn'
      · have HE := Lib.hid (show plE N x N ls = 66 by rw [HEE.out]; simp [hn'])
        go_wp2_with (first | ((with_reducible refine wp_row_store (L := ZR) r2 rfl zr_info zr_one ?_ ?_ ?_); rfl; rfl; intro w4 u4 r4) | ((with_reducible refine wp_row_store (L := ZL) (r3.upd u4 (by omega)) rfl zl_info zl_one ?_ ?_ ?_); rfl; rfl; intro w5 u5 r5))
        refine bodyPost_ret (results_cct rfl rfl rfl (r4.upd u5 (by omega)) r5 Try.underlying35 Try.underlying40 rfl rfl zr_info zl_info) rfl ?_
        exact pl_no HE.out (by decide) (Upd.below (Upd.below hB2 u4 (by omega)) u5 (by omega))
      by_cases hxm : x = 4611686018427387904
      · have HE := Lib.hid (show plE N x N ls = 15 by rw [HEE.out]; simp [hxm, hn, hn'])
        have hxl : (x == 4611686018427387904) = true := by simpa using hxm
        clear hxm
        go_wp2_with (first | ((with_reducible refine wp_row_store (L := ZR) r2 rfl zr_info zr_one ?_ ?_ ?_); rfl; rfl; intro w4 u4 r4) | ((with_reducible refine wp_row_store (L := ZL) (r3.upd u4 (by omega)) rfl zl_info zl_one ?_ ?_ ?_); rfl; rfl; intro w5 u5 r5))
        refine bodyPost_ret (results_cct rfl rfl rfl (r4.upd u5 (by omega)) r5 Try.underlying35 Try.underlying40 rfl rfl zr_info zl_info) rfl ?_
        exact pl_no HE.out (by decide) (Upd.below (Upd.below hB2 u4 (by omega)) u5 (by omega))
      have HE := Lib.hid (show plE N x N ls = 0 by rw [HEE.out]; simp [hxm]; omega)
      have hxl : (x == 4611686018427387904) = false := by simpa using hxm
      clear hxm
      have q1 : Row (w9.setCell ⟨W.heap.size, 1, none⟩ (.int .u64 (x + 1))) W.heap.size 35 #[.int .i64 N, .int .u64 (x + 1)] := r1.set 1 _
      have q2 : Row (w9.setCell ⟨W.heap.size, 1, none⟩ (.int .u64 (x + 1))) (W.heap.size + 1) 35 ZR := r2.other (by simp) _
      have q3 := r3.other (p := ⟨W.heap.size, 1, none⟩) (by simp) (.int .u64 (x + 1))
      have q7 := r7.other (p := ⟨W.heap.size, 1, none⟩) (by simp; omega) (.int .u64 (x + 1))
      have hB4 : Below W.heap.size W (w9.setCell ⟨W.heap.size, 1, none⟩ (.int .u64 (x + 1))) := hB2.setCell (Nat.le_refl _) _
      clear r1 r2 r3 r7 hB2
      go_upto_region 16 with (fail)
      generalize w9.setCell ⟨W.heap.size, 1, none⟩ (.int .u64 (x + 1)) = w4 at *
      clear c0 c1 f1 d0 d1 d2 d3 d4
      have hS : PollT W.heap.size g7 #[.int .i64 N, .int .u64 (x + 1)] (LV 1 (ep N x) f len a p) w4 := ⟨q1, q7⟩
      have hi4 := line_info 1 (ep N x) f len a hp
      refine wp_region_held (S := PollT W.heap.size g7 #[.int .i64 N, .int .u64 (x + 1)] (LV 1 (ep N x) f len a p)) (by kernel_rfl) ?_
      have e5 : ({ w4 with drawn := w4.drawn + 1 } : World) = w4.drew := rfl
      rw [e5]
      have hS : PollT W.heap.size g7 #[.int .i64 N, .int .u64 (x + 1)] (LV 1 (ep N x) f len a p) w4.drew := hS
      have q2 : Row w4.drew (W.heap.size + 1) 35 ZR := q2
      have q3 : Row w4.drew (W.heap.size + 2) 40 ZL := q3
      have hB4 : Below W.heap.size W w4.drew := hB4.drew
      generalize w4.drew = w5 at *
      clear q1 q7 e5
      refine take_load 0 rfl (by kernel_rfl) (by kernel_rfl) (by kernel_rfl) (fun _ _ _ _ h => h) hS (fun _ h => h.1) Try.underlying35 rfl info35 rfl ?_
      refine take_load 1 rfl (by kernel_rfl) (by kernel_rfl) (by kernel_rfl) (fun _ _ _ _ h => h) hS (fun _ h => h.2) Try.underlying40 rfl hi4 rfl ?_
      refine one_store 2 (L := #[.int .i64 N, .int .u64 (x + 1)]) rfl (by kernel_rfl) q2 rfl info35 (recv_one _ _) rfl rfl (fun w6 u6 r6 => ?_)
      have hS6 := hS.upd u6 (by omega) (by omega)
      have q3 := q3.upd u6 (by omega)
      refine ⟨hS6, ?_⟩
      refine one_store 3 rfl (by kernel_rfl) q3 (zl_size.trans (LV_size _ _ _ _ _ hp).symm) hi4 (LV_one _ _ _ _ _ _) rfl rfl (fun w7 u7 r8 => ?_)
      have r6 := r6.upd u7 (by omega)
      have hS7 := hS6.upd u7 (by omega) (by omega)
      refine ⟨hS7, ?_⟩
      refine one_assign 4 rfl (by kernel_rfl) hS7 ?_
      refine wpAnyH_done (by kernel_rfl) ?_ _
      go_wp2
      refine bodyPost_ret (results_cct rfl rfl rfl r6 r8 Try.underlying35 Try.underlying40 rfl rfl info35 hi4) rfl ?_
      exact pl_yes HE.out (by rw [HGD.out]; rfl) (Upd.below (Upd.below hB4 u6 (by omega)) u7 (by omega))
    · have HE := Lib.hid (show plE N x N ls = 17 by rw [HEE.out]; simp [he])
      have he' : (e == ep N x) = false := by simpa using he
      have he2 : (e != ep N x) = true := by simpa using he
      clear he
      repeat (first | (refine walk_pure (v := ?_) (fun _ => trivial) (fun _ => rfl) ?_ ?_; rotate_left; (focus (intro us w9 hS9 hF; subst hS9; go_simp; (try with_reducible rfl); done)); simp only [Act.put, List.setIfInBounds_toArray, List.set_cons_zero, List.set_cons_succ, Nat.reduceAdd]) | (refine walk_skip (fun _ => trivial) (fun _ => rfl) ?_; simp only [Act.put, List.setIfInBounds_toArray, List.set_cons_zero, List.set_cons_succ, Nat.reduceAdd]))
      refine walk_fix (v := ?_) ?_ ?_; rotate_left; (focus (intro us w9 hS9 hF K hK; subst hS9; go_simp; refine (epoch_ref _ _ hx0 (by omega) n0 n1 _).mono ?_; rintro e' w' ⟨rfl, rfl⟩; exact hK _ rfl trivial)); simp only [Act.put, List.setIfInBounds_toArray, List.set_cons_zero, List.set_cons_succ, Nat.reduceAdd]
      repeat (first | (refine walk_pure (v := ?_) (fun _ => trivial) (fun _ => rfl) ?_ ?_; rotate_left; (focus (intro us w9 hS9 hF; subst hS9; go_simp; (try with_reducible rfl); done)); simp only [Act.put, List.setIfInBounds_toArray, List.set_cons_zero, List.set_cons_succ, Nat.reduceAdd]) | (refine walk_skip (fun _ => trivial) (fun _ => rfl) ?_; simp only [Act.put, List.setIfInBounds_toArray, List.set_cons_zero, List.set_cons_succ, Nat.reduceAdd]))
      refine walk_done fun us w9 hS9 hF => ?_
      subst hS9
      clear hF
      go_wp2_with (first | ((with_reducible refine wp_row_store (L := ZR) r2 rfl zr_info zr_one ?_ ?_ ?_); rfl; rfl; intro w4 u4 r4) | ((with_reducible refine wp_row_store (L := ZL) (r3.upd u4 (by omega)) rfl zl_info zl_one ?_ ?_ ?_); rfl; rfl; intro w5 u5 r5))
      refine bodyPost_ret (results_cct rfl rfl rfl (r4.upd u5 (by omega)) r5 Try.underlying35 Try.underlying40 rfl rfl zr_info zl_info) rfl ?_
      exact pl_no HE.out (by decide) (Upd.below (Upd.below hB2 u4 (by omega)) u5 (by omega))
  · have HE := Lib.hid (show plE N x N ls = 17 by rw [HEE.out]; simp [hK])
    have hK' : (K != 1) = true := by simpa using hK
    clear hK
    repeat (first | (refine walk_pure (v := ?_) (fun _ => trivial) (fun _ => rfl) ?_ ?_; rotate_left; (focus (intro us w9 hS9 hF; subst hS9; go_simp; (try with_reducible rfl); done)); simp only [Act.put, List.setIfInBounds_toArray, List.set_cons_zero, List.set_cons_succ, Nat.reduceAdd]) | (refine walk_skip (fun _ => trivial) (fun _ => rfl) ?_; simp only [Act.put, List.setIfInBounds_toArray, List.set_cons_zero, List.set_cons_succ, Nat.reduceAdd]))
    refine walk_done fun us w9 hS9 hF => ?_
    subst hS9
    clear hF
    go_wp2_with (first | ((with_reducible refine wp_row_store (L := ZR) r2 rfl zr_info zr_one ?_ ?_ ?_); rfl; rfl; intro w4 u4 r4) | ((with_reducible refine wp_row_store (L := ZL) (r3.upd u4 (by omega)) rfl zl_info zl_one ?_ ?_ ?_); rfl; rfl; intro w5 u5 r5))
    refine bodyPost_ret (results_cct rfl rfl rfl (r4.upd u5 (by omega)) r5 Try.underlying35 Try.underlying40 rfl rfl zr_info zl_info) rfl ?_
    exact pl_no HE.out (by decide) (Upd.below (Upd.below hB2 u4 (by omega)) u5 (by omega))
theorem poll_ref (n x : Int) (A : Option Addr) (m c : Nat) (ls : List Ln) (W : World) (hx0 : 0 ≤ x) (hM : IsLs W A m ls) : Calls Try.prog 36 #[.agg #[.int .i64 n, .int .u64 x], .slice A m c] W (PlPost n x m ls W) := by
  cases hv : vr n x
  · exact pl36_state n x A m c ls W hv
  · by_cases hm : (m : Int) = n
    · subst hm
      obtain ⟨n0, n1⟩ := vl_range (vr_yes hv).1
      have q0 : 0 ≤ x % (m : Int) := Int.emod_nonneg _ (by omega)
      have q1 : x % (m : Int) < m := Int.emod_lt_of_pos _ (by omega)
      have hlt : (x % (m : Int)).toNat < ls.length := by have := hM.1; omega
      exact pl36_main m x A c ls _ _ _ _ _ _ W hx0 hv hM (List.getElem?_eq_getElem hlt)
    · exact pl36_size n x A m c ls W hv hm
end Go.Proofs.Ythjkhambmgepdaa
