/- Contracts of validReceiver, of the reference's Epoch, and of Poll where a line is at its place. -/
import Derived.Test.YthjkhambmgepdaaLmem
import Derived.Test.YthjkhambmgepdaaR3
import Derived.Test.YthjkhambmgepdaaTold
namespace Go.Proofs.Ythjkhambmgepdaa
open Go.RowKit
set_option linter.unusedVariables false
theorem two_cells {w : World} {g : Nat} {t : TypeId} {a b : Value} (h : Row w g t #[a, b]) :
    (w.cell? ⟨g, 0, none⟩ = some a ∧ w.cell? ⟨g, 1, none⟩ = some b) ∧ ∀ i, w.frozen? ⟨g, i, none⟩ = false := ⟨⟨h.cell 0, h.cell 1⟩, h.frozen⟩
def vr (n x : Int) : Bool := vl n && decide (x ≤ 4611686018427387904)
def VrPost (n x : Int) (W : World) (e : Ending) (W' : World) : Prop := e = .returned (.bool (vr n x)) ∧ Below W.heap.size W W'
theorem valid_receiver (n x : Int) (W : World) : Calls Try.prog 90 #[.agg #[.int .i64 n, .int .u64 x]] W (VrPost n x W) := by
  cases hn : vl n
  · go_enter Try.func90, Try.ntmps90
    go_wp2_with (go_at_call 91; refine (valid_lines _ _).mono ?_; rintro e w' ⟨rfl, rfl⟩)
    go_ret
    exact ⟨ret_bool (by simp [vr, hn]), (Below.refl _ _).alloc (Nat.le_refl _) _⟩
  · go_enter Try.func90, Try.ntmps90
    go_wp2_with (go_at_call 91; refine (valid_lines _ _).mono ?_; rintro e w' ⟨rfl, rfl⟩)
    go_ret
    exact ⟨ret_bool (by simp [vr, hn]), (Below.refl _ _).alloc (Nat.le_refl _) _⟩
theorem epoch_ref (x n : Int) (h0 : 0 ≤ x) (h1 : x < 18446744073709551616) (n0 : 2 ≤ n) (n1 : n ≤ 64) (W : World) : Calls Try.prog 24 #[.int .i64 n, .int .u64 x] W fun e W' => e = .returned (.bool (ep n x)) ∧ W = W' := by
  have hq : 0 ≤ x / n := Int.ediv_nonneg h0 (by omega)
  go_enter Try.func24, Try.ntmps24
  go_wp2
  go_ret
  exact ⟨rfl, rfl⟩
theorem results_cct {P : Program} {fn : Func} {p q u : Tmp} {ty1 ty2 : TypeId} {d1 d2 : TypeDesc} (h : fn.results = #[.cell p ty1, .cell q ty2, .tmp u]) {tmps : Array Value} {w : World} {g1 g2 : Nat} {t1 t2 : TypeId} {cs1 cs2 : Array Value}
    (h1 : tmps.getD p undef = .pointer (some ⟨g1, 0, none⟩)) (h2 : tmps.getD q undef = .pointer (some ⟨g2, 0, none⟩)) (r1 : Row w g1 t1 cs1) (r2 : Row w g2 t2 cs2)
    (u1 : P.underlying ty1 = some d1) (u2 : P.underlying ty2 = some d2) (k1 : d1.isRow = true) (k2 : d2.isRow = true) (i1 : (P.info? ty1).map (·.size) = some cs1.size) (i2 : (P.info? ty2).map (·.size) = some cs2.size) :
    (results fn tmps).run P w = .ok (.tuple #[.agg cs1, .agg cs2, tmps.getD u undef]) w := by
  have l1 := run_loadVar_mid (P := P) w g1 0 ty1 cs1.toList d1 r1.range u1 k1 (by simpa using i1)
  have l2 := run_loadVar_mid (P := P) w g2 0 ty2 cs2.toList d2 r2.range u2 k2 (by simpa using i2)
  simp only [Array.toArray_toList] at l1 l2
  simp only [Array.getD_eq_getD_getElem?] at h1 h2
  simp [results, h, h1, h2, asAddr, l1, l2]
def ZR : Array Value := #[.int .i64 0, .int .u64 0]
def PollS (B : Nat) (cs L : Array Value) (w : World) : Prop := Row w B 35 cs ∧ Row w (B + 2) 40 L
theorem PollS.upd {B : Nat} {cs L : Array Value} {w w' : World} (h : PollS B cs L w) (u : Upd w w' (B + 1)) : PollS B cs L w' := ⟨h.1.upd u (by omega), h.2.upd u (by omega)⟩
theorem recv_one (n s : Int) : (#[.int .i64 n, .int .u64 s] : Array Value).all (·.oneCell') = true := by simp [Value.oneCell']
theorem zr_one : ZR.all (·.oneCell') = true := by simp [ZR, Value.oneCell']
theorem info35 : (Try.prog.info? 35).map (·.size) = some 2 := by kernel_rfl
theorem zr_info : (Try.prog.info? 35).map (·.size) = some ZR.size := info35
set_option maxRecDepth 100000 in
set_option maxHeartbeats 4000000 in
/-- The line at its place is of the other epoch: nothing yet. -/
theorem poll_none (N : Nat) (x : Int) (g C : Nat) (ls : List (List Value)) (i : Nat) (e f : Bool) (len a : Int) (p : List UInt8) (W : World) (hx0 : 0 ≤ x) (hx1 : x ≤ 4611686018427387904) (hv : vl N = true) (hM : MemL W g 40 ls) (hls : ls.length = N)
    (hi : x % N = (i : Int)) (hl : ls[i]? = some (LV 1 e f len a p).toList) (hp : p.length = 56) (he : (e == ep N x) = false) :
    Calls Try.prog 26 #[.agg #[.int .i64 N, .int .u64 x], .slice (some ⟨g, 0, none⟩) N C] W (fun e W' => e = .returned (.tuple #[.agg ZR, .agg ZL, .int .i64 17]) ∧ Below W.heap.size W W') := by
  obtain ⟨n0, n1⟩ := vl_range hv
  have hvr : Hid (vr N x = true) := Lib.hid (by simp [vr, hv, hx1])
  have q0 : 0 ≤ x % N := Int.emod_nonneg _ (by omega)
  have q1 : x % N < N := Int.emod_lt_of_pos _ (by omega)
  go_enter Try.func26, Try.ntmps26
  go_wp2_with fail
  refine (valid_receiver _ _ _).mono ?_
  rintro e w1 ⟨rfl, hb⟩
  rw [hvr.out]
  obtain ⟨r1, r2, r3, hz, hB⟩ := three_new hb
  have r3 : Row w1 (W.heap.size + 2) 40 ZL := r3
  have r2 : Row w1 (W.heap.size + 1) 35 ZR := r2
  have hM1 := hM.below hB hM.lt
  clear hb
  obtain ⟨⟨c0, c1⟩, f1⟩ := two_cells r1
  go_upto_region 5 with (fail)
  rw [hi] at q0 q1
  have hlt : i < N := by omega
  go_upto_region 6 with (first
    | ((with_reducible refine wp_mem_load (off := i * 61) hM1 hl (Nat.mul_comm i 61) Try.underlying40 rfl info40 rfl ?_))
    | ((with_reducible refine wp_row_store (L := LV 1 e f len a p) r3 (zl_size.trans (LV_size _ _ _ _ _ hp).symm) (line_info _ _ _ _ _ hp) (LV_one _ _ _ _ _ _) ?_ ?_ ?_); rfl; rfl; intro w2 u2 r3'))
  have hB2 := Upd.below hB u2 (by omega)
  have r1 := r1.upd u2 (by omega)
  have r2 := r2.upd u2 (by omega)
  clear c0 c1 f1 r3 u2 hM1 hM hi hl q0 q1
  refine wp_region_told (n := 66) (fun w' => w' = w2.drew) (fun _ _ => True) (by kernel_rfl) (by kernel_rfl) (by rfl) rfl ?_
  have r1 : Row w2.drew W.heap.size 35 #[.int .i64 N, .int .u64 x] := r1
  have r2 : Row w2.drew (W.heap.size + 1) 35 ZR := r2
  have r3 : Row w2.drew (W.heap.size + 2) 40 (LV 1 e f len a p) := r3'
  have hB2 : Below W.heap.size W w2.drew := hB2.drew
  clear r3'
  generalize w2.drew = w3 at *
  obtain ⟨⟨c0, c1⟩, f1⟩ := two_cells r1
  obtain ⟨d0, d1, d2, d3, d4⟩ := line_cells r3
  repeat (first | (refine walk_pure (v := ?_) (fun _ => trivial) (fun _ => rfl) ?_ ?_; rotate_left; (focus (intro us w9 hS9 hF; subst hS9; go_simp; (try with_reducible rfl); done)); simp only [Act.put, List.setIfInBounds_toArray, List.set_cons_zero, List.set_cons_succ, Nat.reduceAdd]) | (refine walk_skip (fun _ => trivial) (fun _ => rfl) ?_; simp only [Act.put, List.setIfInBounds_toArray, List.set_cons_zero, List.set_cons_succ, Nat.reduceAdd]))
  refine walk_fix (v := ?_) ?_ ?_; rotate_left; (focus (intro us w9 hS9 hF K hK; subst hS9; go_simp; refine (epoch _ _ hx0 (by omega) n0 n1 _).mono ?_; rintro e w' ⟨rfl, rfl⟩; exact hK _ rfl trivial)); simp only [Act.put, List.setIfInBounds_toArray, List.set_cons_zero, List.set_cons_succ, Nat.reduceAdd]
  repeat (first | (refine walk_pure (v := ?_) (fun _ => trivial) (fun _ => rfl) ?_ ?_; rotate_left; (focus (intro us w9 hS9 hF; subst hS9; go_simp; (try with_reducible rfl); done)); simp only [Act.put, List.setIfInBounds_toArray, List.set_cons_zero, List.set_cons_succ, Nat.reduceAdd]) | (refine walk_skip (fun _ => trivial) (fun _ => rfl) ?_; simp only [Act.put, List.setIfInBounds_toArray, List.set_cons_zero, List.set_cons_succ, Nat.reduceAdd]))
  refine walk_done fun us w9 hS9 hF => ?_
  subst hS9
  clear hF
  go_wp2_with (first
    | ((with_reducible refine wp_row_store (L := ZR) r2 rfl zr_info zr_one ?_ ?_ ?_); rfl; rfl; intro w4 u4 r4)
    | ((with_reducible refine wp_row_store (L := ZL) (r3.upd u4 (by omega)) (zl_size.trans (LV_size _ _ _ _ _ hp).symm).symm zl_info zl_one ?_ ?_ ?_); rfl; rfl; intro w5 u5 r5))
  refine bodyPost_ret (results_cct rfl rfl rfl (r4.upd u5 (by omega)) r5 Try.underlying35 Try.underlying40 rfl rfl zr_info zl_info) rfl ?_
  exact ⟨rfl, Upd.below (Upd.below hB2 u4 (by omega)) u5 (by omega)⟩
set_option maxRecDepth 100000 in
set_option maxHeartbeats 4000000 in
/-- The line at its place is of this epoch: it is handed over. -/
theorem poll_ok (N : Nat) (x : Int) (g C : Nat) (ls : List (List Value)) (i : Nat) (e f : Bool) (len a : Int) (p : List UInt8) (W : World) (hx0 : 0 ≤ x) (hx1 : x ≤ 4611686018427387904) (hv : vl N = true) (hM : MemL W g 40 ls) (hls : ls.length = N)
    (hi : x % N = (i : Int)) (hl : ls[i]? = some (LV 1 e f len a p).toList) (hp : p.length = 56) (he : (e == ep N x) = true) (hx2 : x < 4611686018427387904) (l0 : 0 ≤ len) (l1 : len ≤ 56) :
    Calls Try.prog 26 #[.agg #[.int .i64 N, .int .u64 x], .slice (some ⟨g, 0, none⟩) N C] W (fun e W' => e = .returned (.tuple #[.agg #[.int .i64 N, .int .u64 (x + 1)], .agg (LV 1 (ep N x) f len a p), .int .i64 0]) ∧ Below W.heap.size W W') := by
  obtain ⟨n0, n1⟩ := vl_range hv
  have hvr : Hid (vr N x = true) := Lib.hid (by simp [vr, hv, hx1])
  have q0 : 0 ≤ x % N := Int.emod_nonneg _ (by omega)
  have q1 : x % N < N := Int.emod_lt_of_pos _ (by omega)
  go_enter Try.func26, Try.ntmps26
  go_wp2_with fail
  refine (valid_receiver _ _ _).mono ?_
  rintro e w1 ⟨rfl, hb⟩
  rw [hvr.out]
  obtain ⟨r1, r2, r3, hz, hB⟩ := three_new hb
  have r3 : Row w1 (W.heap.size + 2) 40 ZL := r3
  have r2 : Row w1 (W.heap.size + 1) 35 ZR := r2
  have hM1 := hM.below hB hM.lt
  clear hb
  obtain ⟨⟨c0, c1⟩, f1⟩ := two_cells r1
  go_upto_region 5 with (fail)
  rw [hi] at q0 q1
  have hlt : i < N := by omega
  go_upto_region 6 with (first
    | ((with_reducible refine wp_mem_load (off := i * 61) hM1 hl (Nat.mul_comm i 61) Try.underlying40 rfl info40 rfl ?_))
    | ((with_reducible refine wp_row_store (L := LV 1 e f len a p) r3 (zl_size.trans (LV_size _ _ _ _ _ hp).symm) (line_info _ _ _ _ _ hp) (LV_one _ _ _ _ _ _) ?_ ?_ ?_); rfl; rfl; intro w2 u2 r3'))
  have hB2 := Upd.below hB u2 (by omega)
  have r1 := r1.upd u2 (by omega)
  have r2 := r2.upd u2 (by omega)
  clear c0 c1 f1 r3 u2 hM1 hM hi hl q0 q1
  refine wp_region_told (n := 66) (fun w' => w' = w2.drew) (fun _ _ => True) (by kernel_rfl) (by kernel_rfl) (by rfl) rfl ?_
  have r1 : Row w2.drew W.heap.size 35 #[.int .i64 N, .int .u64 x] := r1
  have r2 : Row w2.drew (W.heap.size + 1) 35 ZR := r2
  have r3 : Row w2.drew (W.heap.size + 2) 40 (LV 1 e f len a p) := r3'
  have hB2 : Below W.heap.size W w2.drew := hB2.drew
  clear r3'
  generalize w2.drew = w3 at *
  obtain ⟨⟨c0, c1⟩, f1⟩ := two_cells r1
  obtain ⟨d0, d1, d2, d3, d4⟩ := line_cells r3
  repeat (first | (refine walk_pure (v := ?_) (fun _ => trivial) (fun _ => rfl) ?_ ?_; rotate_left; (focus (intro us w9 hS9 hF; subst hS9; go_simp; (try with_reducible rfl); done)); simp only [Act.put, List.setIfInBounds_toArray, List.set_cons_zero, List.set_cons_succ, Nat.reduceAdd]) | (refine walk_skip (fun _ => trivial) (fun _ => rfl) ?_; simp only [Act.put, List.setIfInBounds_toArray, List.set_cons_zero, List.set_cons_succ, Nat.reduceAdd]))
  refine walk_fix (v := ?_) ?_ ?_; rotate_left; (focus (intro us w9 hS9 hF K hK; subst hS9; go_simp; refine (epoch _ _ hx0 (by omega) n0 n1 _).mono ?_; rintro e w' ⟨rfl, rfl⟩; exact hK _ rfl trivial)); simp only [Act.put, List.setIfInBounds_toArray, List.set_cons_zero, List.set_cons_succ, Nat.reduceAdd]
  repeat (first | (refine walk_pure (v := ?_) (fun _ => trivial) (fun _ => rfl) ?_ ?_; rotate_left; (focus (intro us w9 hS9 hF; subst hS9; go_simp; (try with_reducible rfl); done)); simp only [Act.put, List.setIfInBounds_toArray, List.set_cons_zero, List.set_cons_succ, Nat.reduceAdd]) | (refine walk_skip (fun _ => trivial) (fun _ => rfl) ?_; simp only [Act.put, List.setIfInBounds_toArray, List.set_cons_zero, List.set_cons_succ, Nat.reduceAdd]))
  refine walk_done fun us w9 hS9 hF => ?_
  subst hS9
  clear hF
  have hxl : (x == 4611686018427387904) = false := by simp; omega
  obtain rfl : e = ep N x := by simpa using he
  have q1 : Row (w9.setCell ⟨W.heap.size, 1, none⟩ (.int .u64 (x + 1))) W.heap.size 35 #[.int .i64 N, .int .u64 (x + 1)] := r1.set 1 _
  have q2 : Row (w9.setCell ⟨W.heap.size, 1, none⟩ (.int .u64 (x + 1))) (W.heap.size + 1) 35 ZR := r2.other (by simp) _
  have q3 : Row (w9.setCell ⟨W.heap.size, 1, none⟩ (.int .u64 (x + 1))) (W.heap.size + 2) 40 (LV 1 (ep N x) f len a p) := r3.other (by simp) _
  have hB4 : Below W.heap.size W (w9.setCell ⟨W.heap.size, 1, none⟩ (.int .u64 (x + 1))) := hB2.setCell (Nat.le_refl _) _
  clear r1 r2 r3 hB2 he
  go_upto_region 15 with (fail)
  generalize w9.setCell ⟨W.heap.size, 1, none⟩ (.int .u64 (x + 1)) = w4 at *
  clear c0 c1 f1 d0 d1 d2 d3 d4
  have hS : PollS W.heap.size #[.int .i64 N, .int .u64 (x + 1)] (LV 1 (ep N x) f len a p) w4 := ⟨q1, q3⟩
  have hi4 := line_info 1 (ep N x) f len a hp
  refine wp_region_held (S := PollS W.heap.size #[.int .i64 N, .int .u64 (x + 1)] (LV 1 (ep N x) f len a p)) (by kernel_rfl) ?_
  have e5 : ({ w4 with drawn := w4.drawn + 1 } : World) = w4.drew := rfl
  rw [e5]
  have hS : PollS W.heap.size #[.int .i64 N, .int .u64 (x + 1)] (LV 1 (ep N x) f len a p) w4.drew := hS
  have q2 : Row w4.drew (W.heap.size + 1) 35 ZR := q2
  have hB4 : Below W.heap.size W w4.drew := hB4.drew
  generalize w4.drew = w5 at *
  clear q1 q3 e5
  refine take_load 0 rfl (by kernel_rfl) (by kernel_rfl) (by kernel_rfl) (fun _ _ _ _ h => h) hS (fun _ h => h.1) Try.underlying35 rfl info35 rfl ?_
  refine take_load 1 rfl (by kernel_rfl) (by kernel_rfl) (by kernel_rfl) (fun _ _ _ _ h => h) hS (fun _ h => h.2) Try.underlying40 rfl hi4 rfl ?_
  refine one_store 2 (L := #[.int .i64 N, .int .u64 (x + 1)]) rfl (by kernel_rfl) q2 rfl info35 (recv_one _ _) rfl rfl (fun w6 u6 r6 => ?_)
  have hS6 := hS.upd u6
  refine ⟨hS6, ?_⟩
  refine one_store 3 rfl (by kernel_rfl) hS6.2 rfl hi4 (LV_one _ _ _ _ _ _) rfl rfl (fun w7 u7 r7 => ?_)
  have r6 := r6.upd u7 (by omega)
  refine ⟨⟨hS6.1.upd u7 (by omega), r7⟩, ?_⟩
  refine one_assign 4 rfl (by kernel_rfl) ⟨hS6.1.upd u7 (by omega), r7⟩ ?_
  refine wpAnyH_done (by kernel_rfl) ?_ _
  go_wp2
  refine bodyPost_ret (results_cct rfl rfl rfl r6 r7 Try.underlying35 Try.underlying40 rfl rfl info35 hi4) rfl ?_
  exact ⟨rfl, Upd.below (Upd.below hB4 u6 (by omega)) u7 (by omega)⟩
end Go.Proofs.Ythjkhambmgepdaa
