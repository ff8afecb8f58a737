/- The law LinkOrder: under every schedule no call fails, the ends stay valid, each end obtains what was given at the other one, in order. -/
import Derived.Test.YthjkhambmgepdaaMg
namespace Go.Proofs.Ythjkhambmgepdaa
open Go.RowKit
set_option linter.unusedVariables false
/-- The script that came in stays, behind open. -/
theorem trips_behind {W w1 : World} {base g : Nat} {col : Nat → Nat} {S : WrS} {p : WrP} {A : Option Addr} {n : Nat} (h : IsTr W A n) (hb : Below W.heap.size W w1) (hM : WM base g col w1 S p) (hg : W.heap.size ≤ g) (hc : ∀ x, x ≠ g → col x = 0) : Part col 0 w1 (fun w => IsTr w A n) :=
  (h.part (col := fun _ => 0) (fun _ _ => rfl)).ofWhite (White.below hb) (fun x hx _ => hc x (by omega))
set_option maxRecDepth 100000 in
set_option maxHeartbeats 8000000 in
theorem walk_order (W : World) (t : Int) (A : Option Addr) (n cc : Nat) (_ : (Lit.int .i64 t).wf = true) (hT : IsTr W A n) : Calls Try.prog 11 #[.int .i64 t, .slice A n cc] W (True1 W) := by
  go_enter Try.func11, Try.ntmps11
  go_upto_region 2 with (go_at_call 57; refine (wire_open W.heap.size t _ (Nat.le_refl _)).mono ?_; rintro en w1 ⟨g, N, col, p, -, hv, rfl, hM, hc, hb⟩)
  have hT1 := trips_behind hT hb hM hM.bg hc
  go_wp2_with (first | (go_at_call 58; refine (run_any W.heap.size g col w1 _ p hM A n cc 0 (newS_inv hv) (by omega) hT1).mono ?_; rintro en w2 ⟨rfl, S2, col2, p2, hI2, hM2, hw2, hc2⟩) | (go_at_call 44; refine (awake20 _).mono ?_; rintro en w3 ⟨rfl, hb3⟩))
  go_ret
  have hB := hM.white hw2 hb
  exact ⟨rfl, hB.trans (hb3.mono hB.size)⟩
end Go.Proofs.Ythjkhambmgepdaa
