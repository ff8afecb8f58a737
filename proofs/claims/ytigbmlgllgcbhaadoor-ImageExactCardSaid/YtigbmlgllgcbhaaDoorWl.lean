/- A world in which the two listed tables of Go's library are laid, for the claims' witnesses. -/
import Derived.Test.YtigbmlgllgcbhaaDoorRows
import Derived.Lib.LaidTab
import Derived.ProofKit
namespace Go.Proofs.YtigbmlgllgcbhaaDoor
open Go.RowKit
noncomputable def laidWorld (os : Os) : World :=
  { World.holding Tryd.prog os ⟨#[], #[], []⟩ with heap := (((World.holding Tryd.prog os ⟨#[], #[], []⟩).heap.modify 0 fun
      | .cells _ t frozen => .cells (Go.Pinned.utf8FirstZ.map (fun n : Nat => Value.int .u8 (n : Int))).toArray t frozen
      | o => o).modify 1 fun
      | .cells _ t frozen => .cells ([128, 191, 160, 191, 128, 159, 144, 191, 128, 143, 0, 0, 0, 0, 0, 0, 0, 0, 0, 0, 0, 0, 0, 0, 0, 0, 0, 0, 0, 0, 0, 0].map (fun n : Int => Value.int .u8 n)).toArray t frozen
      | o => o) }
end Go.Proofs.YtigbmlgllgcbhaaDoor
