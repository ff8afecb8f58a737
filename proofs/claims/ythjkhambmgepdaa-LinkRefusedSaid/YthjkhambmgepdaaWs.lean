/- Links: the reference's comparison of two equal ends. -/
import Derived.Test.YthjkhambmgepdaaMb
import Derived.Test.YthjkhambmgepdaaOps
import Derived.Test.YthjkhambmgepdaaMake
namespace Go.Proofs.Ythjkhambmgepdaa
open Go.RowKit
set_option linter.unusedVariables false
set_option maxRecDepth 100000 in
set_option maxHeartbeats 8000000 in
theorem same_ref (e : LE) (A B A' B' : Option Addr) (c d c' d' : Nat) (W : World) (hql : e.q.length ≤ 1000000) (hH : Held W e A c B d) (hH' : Held W e A' c' B' d') : Calls Try.prog 53 #[.agg (LEV e A c B d), .agg (LEV e A' c' B' d')] W (fun en W' => en = .returned (.bool true) ∧ Below W.heap.size W W') := by
  have hB1 := ((Below.refl W.heap.size W).alloc (Nat.le_refl _) (.cells (LEV e A c B d) 69)).alloc (by simp) (.cells (LEV e A' c' B' d') 69)
  have r1 := (Row.born W 69 (LEV e A c B d)).alloc (.cells (LEV e A' c' B' d') 69)
  have r2 : Row ((W.alloc (.cells (LEV e A c B d) 69)).alloc (.cells (LEV e A' c' B' d') 69)) (W.heap.size + 1) 69 (LEV e A' c' B' d') := by
    have h := Row.born (W.alloc (.cells (LEV e A c B d) 69)) 69 (LEV e A' c' B' d')
    have e1 : (W.alloc (.cells (LEV e A c B d) 69)).heap.size = W.heap.size + 1 := by simp
    rwa [e1] at h
  have hH1 := hH.below hB1
  have hH2 := hH'.below hB1
  go_enter Try.func53, Try.ntmps53
  go_upto_region 1 with (fail)
  generalize (W.alloc (.cells (LEV e A c B d) 69)).alloc (.cells (LEV e A' c' B' d') 69) = w1 at *
  obtain ⟨⟨c0, c1, c2, c3, c4⟩, ⟨c5, c6, c7, c8, c9⟩, -⟩ := end_cells r1
  obtain ⟨⟨d0, d1, d2, d3, d4⟩, ⟨d5, d6, d7, d8, d9⟩, -⟩ := end_cells r2
  have hs1 := run_str (P := Try.prog) (w := w1) (dst := 9) Try.underlying44 Try.underlying5 Try.underlying9 d hH1.p
  have hs2 := run_str (P := Try.prog) (w := w1) (dst := 9) Try.underlying44 Try.underlying5 Try.underlying9 d' hH2.p
  have hq1 := hH1.q
  have hq2 := hH2.q
  clear hH1 hH2
  go_upto_region 4 with (fail)
  clear hs1 hs2
  go_loopw [5] (fun i wr => ∃ j : Nat, j ≤ e.q.length ∧ i = .int .i64 j ∧ Row wr W.heap.size 69 (LEV e A c B d) ∧ Row wr (W.heap.size + 1) 69 (LEV e A' c' B' d') ∧ IsM wr A e.q.length e.q ∧ IsM wr A' e.q.length e.q ∧ Below W.heap.size W wr) (fun i _ => e.q.length - (intOf i).toNat)
  case atStart => exact ⟨0, by omega, rfl, r1, r2, hq1, hq2, hB1⟩
  case round =>
    clear c0 c1 c2 c3 c4 c5 c6 c7 c8 c9 d0 d1 d2 d3 d4 d5 d6 d7 d8 d9 r1 r2 hq1 hq2 hB1
    obtain ⟨j, hj, rfl, r1, r2, hq1, hq2, hB1⟩ := hrel
    have c5 : wr.cell? ⟨W.heap.size, 5, none⟩ = some (.slice A e.q.length c) := r1.cell 5
    have d5 : wr.cell? ⟨W.heap.size + 1, 5, none⟩ = some (.slice A' e.q.length c') := r2.cell 5
    rcases Nat.lt_or_ge j e.q.length with hjl | hjl
    · have hd1 : decide (j < e.q.length) = true := by simpa using hjl
      have hji : (j : Int) < e.q.length := by omega
      have hj0 : (0 : Int) ≤ (j : Int) := by omega
      obtain ⟨b, o, hA, hrow⟩ := hq1.2 (by omega)
      obtain ⟨b', o', hA', hrow'⟩ := hq2.2 (by omega)
      subst hA hA'
      obtain ⟨Ar, Cr, x, -, -, hI⟩ := hrow j hjl
      obtain ⟨Ar', Cr', x', -, -, hI'⟩ := hrow' j hjl
      clear hrow hrow'
      generalize e.q[j] = bs at *
      go_upto_region 6 with (fail)
      have c5 : wr.drew.cell? ⟨W.heap.size, 5, none⟩ = some (.slice (some ⟨b, o, none⟩) e.q.length c) := c5
      have d5 : wr.drew.cell? ⟨W.heap.size + 1, 5, none⟩ = some (.slice (some ⟨b', o', none⟩) e.q.length c') := d5
      have x : wr.drew.cell? ⟨b, o + j, none⟩ = some (.slice Ar bs.length Cr) := x
      have x' : wr.drew.cell? ⟨b', o' + j, none⟩ = some (.slice Ar' bs.length Cr') := x'
      have hs1 := run_str (P := Try.prog) (w := wr.drew) (dst := 9) Try.underlying44 Try.underlying5 Try.underlying9 Cr (show IsB wr.drew Ar bs.length bs from hI)
      have hs2 := run_str (P := Try.prog) (w := wr.drew) (dst := 9) Try.underlying44 Try.underlying5 Try.underlying9 Cr' (show IsB wr.drew Ar' bs.length bs from hI')
      refine wp_region_told (n := 77) (fun w' => w' = wr.drew) (fun _ _ => True) (by kernel_rfl) (by kernel_rfl) (by rfl) rfl ?_
      repeat (first | (refine walk_pure (v := ?_) (fun _ => trivial) (fun _ => rfl) ?_ ?_; rotate_left; (focus (intro us w9 hS9 hF; subst hS9; clear hF; go_simp; (try with_reducible rfl); done)); simp only [Act.put, List.setIfInBounds_toArray, List.set_cons_zero, List.set_cons_succ, Nat.reduceAdd]) | (refine walk_skip (fun _ => trivial) (fun _ => rfl) ?_; simp only [Act.put, List.setIfInBounds_toArray, List.set_cons_zero, List.set_cons_succ, Nat.reduceAdd]))
      refine walk_done fun us w9 hS9 hF => ?_
      subst hS9
      clear hF hs1 hs2 x x' c5 d5
      have r1 : Row wr.drew W.heap.size 69 (LEV e (some ⟨b, o, none⟩) c B d) := r1
      go_wp2
      exact ⟨⟨j + 1, by omega, by go_num, r1, r2, hq1, hq2, hB1.drew⟩, by simp [intOf]; omega⟩
    · obtain rfl : j = e.q.length := by omega
      have hd1 : decide (e.q.length < e.q.length) = false := by simp
      go_wp2
      go_ret
      exact ⟨rfl, hB1⟩
end Go.Proofs.Ythjkhambmgepdaa
