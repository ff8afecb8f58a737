/- RingOrder: Poll where no line is at its place. -/
import Derived.Test.YthjkhambmgepdaaOrd2
namespace Go.Proofs.Ythjkhambmgepdaa
open Go.RowKit
set_option linter.unusedVariables false
set_option maxRecDepth 100000 in
set_option maxHeartbeats 4000000 in
/-- There is no line at its place yet. -/
theorem poll_zero (N : Nat) (x : Int) (g C : Nat) (ls : List (List Value)) (i : Nat) (W : World) (hx0 : 0 ≤ x) (hx1 : x ≤ 4611686018427387904) (hv : vl N = true) (hM : MemL W g 40 ls) (hls : ls.length = N)
    (hi : x % N = (i : Int)) (hl : ls[i]? = some ZL.toList) :
    Calls Try.prog 26 #[.agg #[.int .i64 N, .int .u64 x], .slice (some ⟨g, 0, none⟩) N C] W (fun e W' => e = .returned (.tuple #[.agg ZR, .agg ZL, .int .i64 17]) ∧ Below W.heap.size W W') := by
  obtain ⟨n0, n1⟩ := vl_range hv
  have hvr : Hid (vr N x = true) := Lib.hid (by simp [vr, hv, hx1])
  have q0 : 0 ≤ x % N := Int.emod_nonneg _ (by omega)
  have q1 : x % N < N := Int.emod_lt_of_pos _ (by omega)
  go_enter Try.func26, Try.ntmps26
  go_wp2_with fail
  refine (valid_receiver _ _ _).mono ?_
  rintro e w1 ⟨rfl, hb⟩
  rw [hvr.out]
  obtain ⟨r1, r2, r3, hz, hB⟩ := three_new hb
  have r3 : Row w1 (W.heap.size + 2) 40 ZL := r3
  have r2 : Row w1 (W.heap.size + 1) 35 ZR := r2
  have hM1 := hM.below hB hM.lt
  clear hb
  obtain ⟨⟨c0, c1⟩, f1⟩ := two_cells r1
  go_upto_region 5 with (fail)
  rw [hi] at q0 q1
  have hlt : i < N := by omega
  go_upto_region 6 with (first
    | ((with_reducible refine wp_mem_load (off := i * 61) hM1 hl (Nat.mul_comm i 61) Try.underlying40 rfl info40 rfl ?_))
    | ((with_reducible refine wp_row_store (L := ZL) r3 rfl zl_info zl_one ?_ ?_ ?_); rfl; rfl; intro w2 u2 r3'))
  have hB2 := Upd.below hB u2 (by omega)
  have r1 := r1.upd u2 (by omega)
  have r2 := r2.upd u2 (by omega)
  clear c0 c1 f1 r3 u2 hM1 hM hi hl q0 q1
  refine wp_region_told (n := 66) (fun w' => w' = w2.drew) (fun _ _ => True) (by kernel_rfl) (by kernel_rfl) (by rfl) rfl ?_
  have r1 : Row w2.drew W.heap.size 35 #[.int .i64 N, .int .u64 x] := r1
  have r2 : Row w2.drew (W.heap.size + 1) 35 ZR := r2
  have r3 : Row w2.drew (W.heap.size + 2) 40 ZL := r3'
  have hB2 : Below W.heap.size W w2.drew := hB2.drew
  clear r3'
  generalize w2.drew = w3 at *
  obtain ⟨⟨c0, c1⟩, f1⟩ := two_cells r1
  obtain ⟨d0, d1, d2, d3, d4⟩ := line_cells r3
  repeat (first | (refine walk_pure (v := ?_) (fun _ => trivial) (fun _ => rfl) ?_ ?_; rotate_left; (focus (intro us w9 hS9 hF; subst hS9; go_simp; (try with_reducible rfl); done)); simp only [Act.put, List.setIfInBounds_toArray, List.set_cons_zero, List.set_cons_succ, Nat.reduceAdd]) | (refine walk_skip (fun _ => trivial) (fun _ => rfl) ?_; simp only [Act.put, List.setIfInBounds_toArray, List.set_cons_zero, List.set_cons_succ, Nat.reduceAdd]))
  refine walk_done fun us w9 hS9 hF => ?_
  subst hS9
  clear hF
  go_wp2_with (first
    | ((with_reducible refine wp_row_store (L := ZR) r2 rfl zr_info zr_one ?_ ?_ ?_); rfl; rfl; intro w4 u4 r4)
    | ((with_reducible refine wp_row_store (L := ZL) (r3.upd u4 (by omega)) rfl zl_info zl_one ?_ ?_ ?_); rfl; rfl; intro w5 u5 r5))
  refine bodyPost_ret (results_cct rfl rfl rfl (r4.upd u5 (by omega)) r5 Try.underlying35 Try.underlying40 rfl rfl zr_info zl_info) rfl ?_
  exact ⟨rfl, Upd.below (Upd.below hB2 u4 (by omega)) u5 (by omega)⟩
end Go.Proofs.Ythjkhambmgepdaa
