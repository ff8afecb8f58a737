/- The walks of awake, PageGeometryExact and PageIndices: each returns true, for every argument, and writes nothing that was there. -/
import Derived.Test.YtonloimepfojdaaDec
namespace Go.Proofs.Ytonloimepfojdaa
open Go.RowKit
set_option linter.unusedVariables false
def True1 (W : World) (e : Ending) (W' : World) : Prop := e = .returned (.bool true) ∧ Below W.heap.size W W'
theorem awake_ok (W : World) : Calls Try.prog 18 #[] W (True1 W) := by
  have e1 : encV 32 true true 3 8192 = 47 := by decide
  have e2 : encE 32 true true 3 8192 = 0 := by decide
  have e3 : idx 32 1 4194304 = 1 := by decide
  have e4 : lev 39 = 3 := rfl
  have e5 : ib 39 = 9 := rfl
  have e6 : eb 39 = 8 := rfl
  have e7 : okw 39 = true := rfl
  go_enter Try.func18, Try.ntmps18
  go_wp2_with (first | (go_at_call 10; refine (geom _ _).mono ?_; rintro e w' ⟨rfl, rfl⟩) | (go_at_call 21; refine (encode _ _ _ _ _ _).mono ?_; rintro e w1 ⟨rfl, hb⟩) | (go_at_call 16; refine (index _ _ _ _).mono ?_; rintro e w' ⟨rfl, n, rfl⟩))
  go_ret
  exact ⟨rfl, below_drewN hb _⟩
theorem okw_lev (w : Int) : okw w = decide (0 < lev w) := by
  rcases w_cases w with rfl | rfl | ⟨h1, h2, h3, h4⟩
  · rfl
  · rfl
  · simp [okw, lev, h3, h4]
theorem law_geometry (w l a : Int) (W : World) : Calls Try.prog 3 #[.int .i64 w, .int .i64 l, .int .i64 a] W (True1 W) := by
  have e1 : (okw w == decide (0 < lev w)) = true := by rw [okw_lev]; simp
  go_enter Try.func3, Try.ntmps3
  go_wp2_with (first | (go_at_call 10; refine (geom _ _).mono ?_; rintro e w' ⟨rfl, rfl⟩) | (go_at_call 11; refine (levels _ _).mono ?_; rintro e w' ⟨rfl, rfl⟩) | (go_at_call 12; refine (ibits _ _).mono ?_; rintro e w' ⟨rfl, rfl⟩) | (go_at_call 13; refine (ebytes _ _).mono ?_; rintro e w' ⟨rfl, rfl⟩) | (go_at_call 14; refine (valid_addr _ _ _).mono ?_; rintro e w' ⟨rfl, rfl⟩) | (go_at_call 15; refine (valid_addr_ref _ _ _).mono ?_; rintro e w' ⟨rfl, rfl⟩) | (go_at_call 16; refine (index _ _ _ _).mono ?_; rintro e w' ⟨rfl, n, rfl⟩) | (go_at_call 17; refine (index_ref _ _ _ _).mono ?_; rintro e w' ⟨rfl, m, rfl⟩) | (go_at_call 18; refine (awake_ok _).mono ?_; rintro e w' ⟨rfl, hb⟩))
  go_ret
  exact ⟨rfl, (below_drewN (Below.refl _ _) _).trans hb⟩
theorem walk_geometry (w l a : Int) (_ : (Lit.int .i64 w).wf = true) (_ : (Lit.int .i64 l).wf = true) (_ : (Lit.int .i64 a).wf = true) (W : World) :
    Calls Try.prog 3 #[.int .i64 w, .int .i64 l, .int .i64 a] W (True1 W) := law_geometry w l a W
end Go.Proofs.Ytonloimepfojdaa
