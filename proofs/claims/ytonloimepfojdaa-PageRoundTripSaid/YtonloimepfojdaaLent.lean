/- The walk of PageEntryExact: it returns true, for every argument, and writes nothing that was there. -/
import Derived.Test.YtonloimepfojdaaLgeo
namespace Go.Proofs.Ytonloimepfojdaa
open Go.RowKit
set_option linter.unusedVariables false
theorem below_size {w w1 : World} (hb : Below w.heap.size w w1) : w.heap.size ≤ w1.heap.size := hb.size
set_option maxHeartbeats 1000000 in
theorem law_entry (w : Int) (p l : Bool) (r b v : Int) (h0 : 0 ≤ v) (W : World) :
    Calls Try.prog 5 #[.int .i64 w, .agg #[.bool p, .bool l, .int .i64 r, .int .i64 b], .int .u64 v] W (True1 W) := by
  go_enter Try.func5, Try.ntmps5
  go_wp2_with fail
  refine (encode _ _ _ _ _ _).mono ?_
  rintro e w1 ⟨rfl, hb⟩
  obtain ⟨r1, hz1, hB1⟩ := one_new hb
  obtain ⟨⟨c0, c1, c2, c3⟩, f1⟩ := four_cells r1
  clear hb
  go_wp2_with fail
  refine (encode_ref _ _ _ _ _ _).mono ?_
  rintro e w2 ⟨rfl, hb2⟩
  have hB2 := hB1.trans (hb2.mono hB1.size)
  clear c0 c1 c2 c3 f1 r1 hz1
  go_wp2_with fail
  refine (decode _ _ h0 _).mono ?_
  rintro e w3 ⟨rfl, hb3⟩
  have hB3 := hB2.trans (hb3.mono hB2.size)
  clear hb2 hb3
  go_wp2_with fail
  refine (decode_ref _ _ h0 _).mono ?_
  rintro e w4 ⟨rfl, hb4⟩
  obtain ⟨r4, hz4, hB4'⟩ := one_new hb4
  obtain ⟨⟨c0, c1, c2, c3⟩, f1⟩ := four_cells r4
  have hB4 := hB3.trans (hB4'.mono hB3.size)
  clear hb4 r4 hB4'
  go_wp2_with fail
  refine (awake_ok _).mono ?_
  rintro e w5 ⟨rfl, hb5⟩
  go_wp2_with fail
  go_ret
  exact ⟨rfl, (hB4.alloc hB4.size _).trans (hb5.mono (by have := hB4.size; simp; omega))⟩
theorem walk_entry (w : Int) (p l : Bool) (r b v : Int) (_ : (Lit.int .i64 w).wf = true) (_ : (Lit.int .i64 r).wf = true) (_ : (Lit.int .i64 b).wf = true) (h : (Lit.int .u64 v).wf = true) (W : World) :
    Calls Try.prog 5 #[.int .i64 w, .agg #[.bool p, .bool l, .int .i64 r, .int .i64 b], .int .u64 v] W (True1 W) :=
  law_entry w p l r b v (bounds_u64 h).1 W
end Go.Proofs.Ytonloimepfojdaa
