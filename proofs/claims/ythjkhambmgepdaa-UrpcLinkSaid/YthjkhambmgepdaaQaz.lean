/- Texts W1 Md, without what this claim does not use. -/
import Derived.Deep.Fields
import Derived.Deep.SlicePairs
import Derived.Lib.SmallJoins
import Derived.OpenShut
import Derived.Laws.MakeOwn
import Derived.Deep.OwnRows
import Derived.Test.YthjkhambmgepdaaQas
namespace Go.Proofs.Ythjkhambmgepdaa
section
open Go.RowKit
set_option linter.unusedVariables false
theorem lines_of (p : Int) (p0 : 0 ≤ p) (p1 : p ≤ 5) : ∃ n, wrap64 (2 * 2 ^ p.toNat) = n ∧ vl n = true ∧ 2 ≤ n ∧ n ≤ 64 := by
  rcases (by omega : p = 0 ∨ p = 1 ∨ p = 2 ∨ p = 3 ∨ p = 4 ∨ p = 5) with rfl | rfl | rfl | rfl | rfl | rfl
  · exact ⟨2, by rw [IntWalk.wrap64_in _ (by decide)]; decide, rfl, by omega, by omega⟩
  · exact ⟨4, by rw [IntWalk.wrap64_in _ (by decide)]; decide, rfl, by omega, by omega⟩
  · exact ⟨8, by rw [IntWalk.wrap64_in _ (by decide)]; decide, rfl, by omega, by omega⟩
  · exact ⟨16, by rw [IntWalk.wrap64_in _ (by decide)]; decide, rfl, by omega, by omega⟩
  · exact ⟨32, by rw [IntWalk.wrap64_in _ (by decide)]; decide, rfl, by omega, by omega⟩
  · exact ⟨64, by rw [IntWalk.wrap64_in _ (by decide)]; decide, rfl, by omega, by omega⟩
end
section
open Go
set_option linter.unusedVariables false
section
open Go.RowKit Go.Deep Go.ChangeShapes Go.WideShapes
structure Ln where
  (k : Int) (e f : Bool) (n a : Int) (p : List UInt8)
instance : Inhabited Ln := ⟨⟨0, false, false, 0, 0, z56⟩⟩
def Ln.v (l : Ln) : Array Value := LV l.k l.e l.f l.n l.a l.p
def Ln.ok (l : Ln) : Prop := l.p.length = 56 ∧ 0 ≤ l.a ∧ l.a < 65536
theorem Ln.size {l : Ln} (h : l.ok) : l.v.toList.length = 61 := by have := LV_size l.k l.e l.f l.n l.a h.1; simpa [Ln.v] using this
def lsC (ls : List Ln) : List Value := ls.flatMap fun l => l.v.toList
theorem info_ln : (Try.prog.info? 40).map (fun i => (i.zero, i.size, i.bytes)) = some (some (.agg ZL), 61, 88) := by kernel_rfl
end
end
end Go.Proofs.Ythjkhambmgepdaa
