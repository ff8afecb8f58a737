/- Closed facts on the whole program, shared by the claims of this seat. -/
import Derived.Test.YthjkhambmgepdaaRows
import Derived.JoinedOf
namespace Go.Proofs.Ythjkhambmgepdaa.Facts
theorem laid : laidOutB Try.prog = true := by kernel_rfl
theorem rowed : mapsRowed Try.prog = true := by kernel_rfl
theorem may : Try.prog.mayEnter = true := by kernel_rfl
theorem lifts0 : Try.prog.liftsFinal = false := by kernel_rfl
theorem make0 : (Try.prog.make == some .cut) = true := by kernel_rfl
theorem lifts (b : Bool) (h : b = false) : (b == Try.prog.liftsFinal) = true := by rw [h, lifts0]; rfl
theorem make (m : Make) (h : m = .cut) : (Try.prog.make == some m) = true := by rw [h]; exact make0
end Go.Proofs.Ythjkhambmgepdaa.Facts
