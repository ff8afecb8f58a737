/- Closed facts on the whole program, shared by the claims of this seat. -/
import Derived.Test.YtigbmlgllgcbhaaDoorRows
import Derived.JoinedOf
namespace Go.Proofs.YtigbmlgllgcbhaaDoor.Facts
theorem laid : laidOutB Tryd.prog = true := by kernel_rfl
theorem rowed : mapsRowed Tryd.prog = true := by kernel_rfl
theorem may : Tryd.prog.mayEnter = true := by kernel_rfl
theorem lifts0 : Tryd.prog.liftsFinal = false := by kernel_rfl
theorem make0 : (Tryd.prog.make == some .cut) = true := by kernel_rfl
theorem lifts (b : Bool) (h : b = false) : (b == Tryd.prog.liftsFinal) = true := by rw [h, lifts0]; rfl
theorem make (m : Make) (h : m = .cut) : (Tryd.prog.make == some m) = true := by rw [h]; exact make0
end Go.Proofs.YtigbmlgllgcbhaaDoor.Facts
