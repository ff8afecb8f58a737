/-
  No cell of these rows narrows 'for every input' (looked for: loops, veiled, ifaces, maps, wideKeys, modest, calm, conditions, laid).
  DERIVED. THE GIVEN ROWS OF THIS SEAT. 7 by the template 'for every input the law returns true; each argument reads behind the call as it read before'; 0 by the template 'total and deterministic' (their statements: YtonloimepfojdaaTotals.lean).
  GIVEN WITH THE SEED: the statements are not yours to turn. If you find one false, say at which input.
  Laid BY PROGRAM, IN A SANDBOX (cutbox-rows.mjs): the forced cells as the released guide's own fill.sh prints them over the translation 3872e4e6893db9b1… (all of the seat's roots in one cut). By AI agents, Wed Nov 11 2026. No macro, syntax, notation, axiom, sorry.
-/
import Derived.Test.YtonloimepfojdaaChecked
import GoSem.Claim
import GoSem.ClaimJoined
import GoSem.ClaimMapViews
import Derived.JoinedTies
import Derived.KernelRfl
namespace Go.Proofs.Ytonloimepfojdaa
/- THE CELL 'sum', in the pinned program and in every row, IS THE sha256 OF THE DUMP (.gsa) THAT YtonloimepfojdaaProg.lean LOADS. Nothing in Lean hashes anything: it is a label: what it is worth is what the hold of that sum in a sandbox is worth. -/
noncomputable def Try.pinned : Pinned := { name := "ytonloimepfojdaa", sum := "3872e4e6893db9b1f7d2c85b69432a7136014cd2456c6c2397ee27dd4b592a22", checked := Try.checked }
namespace Rows
def none {H : Type} : Left H := { results := [], args := [] }

/-- 'multikernellaw15.PageGeometryExact': WHATEVER THE INPUT: true; the input reads as it did. -/
def pageGeometryExactSpec : ChangeSpec := { name := "pageGeometryExact", fn := fun _ => fun
  | [d1, d2, d3] => { results := [.lit (.bool true)], args := [d1, d2, d3] }
  | _ => none }
def pageGeometryExactRow : OpenClaim := { program := "ytonloimepfojdaa", sum := "3872e4e6893db9b1f7d2c85b69432a7136014cd2456c6c2397ee27dd4b592a22", func := "multikernel/multikernellaw15.PageGeometryExact", spec := "pageGeometryExact", apart := false }
def PageGeometryExactSaid : Prop := pageGeometryExactRow.holds Try.pinned (OpenSpec.ofChange pageGeometryExactSpec)

/-- ITS FALSE NEIGHBOUR: 'it returns false'. Refute it at one input. -/
def pageGeometryExactWrong : ChangeSpec := { name := "pageGeometryExact", fn := fun _ => fun
  | [d1, d2, d3] => { results := [.lit (.bool false)], args := [d1, d2, d3] }
  | _ => none }
def PageGeometryExactWrongFalsely : Prop := pageGeometryExactRow.holds Try.pinned (OpenSpec.ofChange pageGeometryExactWrong)

/-- 'multikernellaw15.PageIndices': WHATEVER THE INPUT: true; the input reads as it did. -/
def pageIndicesSpec : ChangeSpec := { name := "pageIndices", fn := fun _ => fun
  | [d1, d2] => { results := [.lit (.bool true)], args := [d1, d2] }
  | _ => none }
def pageIndicesRow : OpenClaim := { program := "ytonloimepfojdaa", sum := "3872e4e6893db9b1f7d2c85b69432a7136014cd2456c6c2397ee27dd4b592a22", func := "multikernel/multikernellaw15.PageIndices", spec := "pageIndices", apart := false }
def PageIndicesSaid : Prop := pageIndicesRow.holds Try.pinned (OpenSpec.ofChange pageIndicesSpec)

/-- ITS FALSE NEIGHBOUR: 'it returns false'. Refute it at one input. -/
def pageIndicesWrong : ChangeSpec := { name := "pageIndices", fn := fun _ => fun
  | [d1, d2] => { results := [.lit (.bool false)], args := [d1, d2] }
  | _ => none }
def PageIndicesWrongFalsely : Prop := pageIndicesRow.holds Try.pinned (OpenSpec.ofChange pageIndicesWrong)

/-- 'multikernellaw15.PageEntryExact': WHATEVER THE INPUT: true; the input reads as it did. -/
def pageEntryExactSpec : ChangeSpec := { name := "pageEntryExact", fn := fun _ => fun
  | [d1, d2, d3] => { results := [.lit (.bool true)], args := [d1, d2, d3] }
  | _ => none }
def pageEntryExactRow : OpenClaim := { program := "ytonloimepfojdaa", sum := "3872e4e6893db9b1f7d2c85b69432a7136014cd2456c6c2397ee27dd4b592a22", func := "multikernel/multikernellaw15.PageEntryExact", spec := "pageEntryExact", apart := false }
def PageEntryExactSaid : Prop := pageEntryExactRow.holds Try.pinned (OpenSpec.ofChange pageEntryExactSpec)

/-- ITS FALSE NEIGHBOUR: 'it returns false'. Refute it at one input. -/
def pageEntryExactWrong : ChangeSpec := { name := "pageEntryExact", fn := fun _ => fun
  | [d1, d2, d3] => { results := [.lit (.bool false)], args := [d1, d2, d3] }
  | _ => none }
def PageEntryExactWrongFalsely : Prop := pageEntryExactRow.holds Try.pinned (OpenSpec.ofChange pageEntryExactWrong)

/-- 'multikernellaw15.PageEntryRoundTrip': WHATEVER THE INPUT: true; the input reads as it did. -/
def pageEntryRoundTripSpec : ChangeSpec := { name := "pageEntryRoundTrip", fn := fun _ => fun
  | [d1, d2, d3, d4] => { results := [.lit (.bool true)], args := [d1, d2, d3, d4] }
  | _ => none }
def pageEntryRoundTripRow : OpenClaim := { program := "ytonloimepfojdaa", sum := "3872e4e6893db9b1f7d2c85b69432a7136014cd2456c6c2397ee27dd4b592a22", func := "multikernel/multikernellaw15.PageEntryRoundTrip", spec := "pageEntryRoundTrip", apart := false }
def PageEntryRoundTripSaid : Prop := pageEntryRoundTripRow.holds Try.pinned (OpenSpec.ofChange pageEntryRoundTripSpec)

/-- ITS FALSE NEIGHBOUR: 'it returns false'. Refute it at one input. -/
def pageEntryRoundTripWrong : ChangeSpec := { name := "pageEntryRoundTrip", fn := fun _ => fun
  | [d1, d2, d3, d4] => { results := [.lit (.bool false)], args := [d1, d2, d3, d4] }
  | _ => none }
def PageEntryRoundTripWrongFalsely : Prop := pageEntryRoundTripRow.holds Try.pinned (OpenSpec.ofChange pageEntryRoundTripWrong)

/-- 'multikernellaw15.PageTableExact': WHATEVER THE INPUT: true; the input reads as it did. -/
def pageTableExactSpec : ChangeSpec := { name := "pageTableExact", fn := fun _ => fun
  | [d] => { results := [.lit (.bool true)], args := [d] }
  | _ => none }
def pageTableExactRow : OpenClaim := { program := "ytonloimepfojdaa", sum := "3872e4e6893db9b1f7d2c85b69432a7136014cd2456c6c2397ee27dd4b592a22", func := "multikernel/multikernellaw15.PageTableExact", spec := "pageTableExact", apart := false }
def PageTableExactSaid : Prop := pageTableExactRow.holds Try.pinned (OpenSpec.ofChange pageTableExactSpec)

/-- ITS FALSE NEIGHBOUR: 'it returns false'. Refute it at one input. -/
def pageTableExactWrong : ChangeSpec := { name := "pageTableExact", fn := fun _ => fun
  | [d] => { results := [.lit (.bool false)], args := [d] }
  | _ => none }
def PageTableExactWrongFalsely : Prop := pageTableExactRow.holds Try.pinned (OpenSpec.ofChange pageTableExactWrong)

/-- 'multikernellaw15.PageUnpackExact': WHATEVER THE INPUT: true; the input reads as it did. -/
def pageUnpackExactSpec : ChangeSpec := { name := "pageUnpackExact", fn := fun _ => fun
  | [d1, d2, d3, d4, d5, d6] => { results := [.lit (.bool true)], args := [d1, d2, d3, d4, d5, d6] }
  | _ => none }
def pageUnpackExactRow : OpenClaim := { program := "ytonloimepfojdaa", sum := "3872e4e6893db9b1f7d2c85b69432a7136014cd2456c6c2397ee27dd4b592a22", func := "multikernel/multikernellaw15.PageUnpackExact", spec := "pageUnpackExact", apart := false }
def PageUnpackExactSaid : Prop := pageUnpackExactRow.holds Try.pinned (OpenSpec.ofChange pageUnpackExactSpec)

/-- ITS FALSE NEIGHBOUR: 'it returns false'. Refute it at one input. -/
def pageUnpackExactWrong : ChangeSpec := { name := "pageUnpackExact", fn := fun _ => fun
  | [d1, d2, d3, d4, d5, d6] => { results := [.lit (.bool false)], args := [d1, d2, d3, d4, d5, d6] }
  | _ => none }
def PageUnpackExactWrongFalsely : Prop := pageUnpackExactRow.holds Try.pinned (OpenSpec.ofChange pageUnpackExactWrong)

/-- 'multikernellaw15.PageRoundTrip': WHATEVER THE INPUT: true; the input reads as it did. -/
def pageRoundTripSpec : ChangeSpec := { name := "pageRoundTrip", fn := fun _ => fun
  | [d1, d2, d3] => { results := [.lit (.bool true)], args := [d1, d2, d3] }
  | _ => none }
def pageRoundTripRow : OpenClaim := { program := "ytonloimepfojdaa", sum := "3872e4e6893db9b1f7d2c85b69432a7136014cd2456c6c2397ee27dd4b592a22", func := "multikernel/multikernellaw15.PageRoundTrip", spec := "pageRoundTrip", apart := false }
def PageRoundTripSaid : Prop := pageRoundTripRow.holds Try.pinned (OpenSpec.ofChange pageRoundTripSpec)

/-- ITS FALSE NEIGHBOUR: 'it returns false'. Refute it at one input. -/
def pageRoundTripWrong : ChangeSpec := { name := "pageRoundTrip", fn := fun _ => fun
  | [d1, d2, d3] => { results := [.lit (.bool false)], args := [d1, d2, d3] }
  | _ => none }
def PageRoundTripWrongFalsely : Prop := pageRoundTripRow.holds Try.pinned (OpenSpec.ofChange pageRoundTripWrong)

/- THE SECOND FORM. 'bulk': how many values and letters a reading holds, each counted each time it is reached (what is shared counts as often as it is met; a slice's spare places count too). A statement '..UptoSaid' is the law's where the arguments, and the package variables that the reading takes, are together of bulk at most 1048576: NARROWER than '..Said'. Prove '..Said' where nothing that the law and all that it calls make is longer than what came in: it says more and counts as full. Else prove '..UptoSaid'. A law counts once. -/
mutual
def uptoBulk {H : Type} : DataW H → Nat
  | .lit (.string bytes) => bytes.length + 1
  | .lit _ => 1
  | .nil => 1
  | .ptr d => uptoBulk d + 1
  | .slice elems spare => uptoBulkAll elems + uptoBulkAll spare + 1
  | .agg parts => uptoBulkAll parts + 1
  | .iface _ d => uptoBulk d + 1
  | .map entries => uptoBulkEntries entries + 1
  | .held _ => 1
def uptoBulkAll {H : Type} : List (DataW H) → Nat
  | [] => 0
  | d :: r => uptoBulk d + uptoBulkAll r
def uptoBulkEntries {H : Type} : List (Lit × DataW H) → Nat
  | [] => 0
  | x :: r => uptoBulkEntry x + uptoBulkEntries r
def uptoBulkEntry {H : Type} : Lit × DataW H → Nat
  | (.string bytes, d) => bytes.length + uptoBulk d + 1
  | (_, d) => uptoBulk d + 1
 end
def uptoSmall : (H : Type) → List (DataW H) → Bool := fun _ ds => decide (uptoBulkAll ds ≤ 1048576)
def OpenSpec.upto (s : _root_.Go.ChangeSpec) : _root_.Go.OpenSpec := { _root_.Go.OpenSpec.ofChange s with cond := some uptoSmall }

/-- 'multikernellaw15.PageGeometryExact', WHERE WHAT IT READS IS OF BULK AT MOST 1048576: true; the input reads as it did. -/
def pageGeometryExactUptoRow : OpenClaim := { program := "ytonloimepfojdaa", sum := "3872e4e6893db9b1f7d2c85b69432a7136014cd2456c6c2397ee27dd4b592a22", func := "multikernel/multikernellaw15.PageGeometryExact", spec := "pageGeometryExact", apart := false, narrowed := true }
def PageGeometryExactUptoSaid : Prop := pageGeometryExactUptoRow.holds Try.pinned (OpenSpec.upto pageGeometryExactSpec)

/-- 'multikernellaw15.PageIndices', WHERE WHAT IT READS IS OF BULK AT MOST 1048576: true; the input reads as it did. -/
def pageIndicesUptoRow : OpenClaim := { program := "ytonloimepfojdaa", sum := "3872e4e6893db9b1f7d2c85b69432a7136014cd2456c6c2397ee27dd4b592a22", func := "multikernel/multikernellaw15.PageIndices", spec := "pageIndices", apart := false, narrowed := true }
def PageIndicesUptoSaid : Prop := pageIndicesUptoRow.holds Try.pinned (OpenSpec.upto pageIndicesSpec)

/-- 'multikernellaw15.PageEntryExact', WHERE WHAT IT READS IS OF BULK AT MOST 1048576: true; the input reads as it did. -/
def pageEntryExactUptoRow : OpenClaim := { program := "ytonloimepfojdaa", sum := "3872e4e6893db9b1f7d2c85b69432a7136014cd2456c6c2397ee27dd4b592a22", func := "multikernel/multikernellaw15.PageEntryExact", spec := "pageEntryExact", apart := false, narrowed := true }
def PageEntryExactUptoSaid : Prop := pageEntryExactUptoRow.holds Try.pinned (OpenSpec.upto pageEntryExactSpec)

/-- 'multikernellaw15.PageEntryRoundTrip', WHERE WHAT IT READS IS OF BULK AT MOST 1048576: true; the input reads as it did. -/
def pageEntryRoundTripUptoRow : OpenClaim := { program := "ytonloimepfojdaa", sum := "3872e4e6893db9b1f7d2c85b69432a7136014cd2456c6c2397ee27dd4b592a22", func := "multikernel/multikernellaw15.PageEntryRoundTrip", spec := "pageEntryRoundTrip", apart := false, narrowed := true }
def PageEntryRoundTripUptoSaid : Prop := pageEntryRoundTripUptoRow.holds Try.pinned (OpenSpec.upto pageEntryRoundTripSpec)

/-- 'multikernellaw15.PageTableExact', WHERE WHAT IT READS IS OF BULK AT MOST 1048576: true; the input reads as it did. -/
def pageTableExactUptoRow : OpenClaim := { program := "ytonloimepfojdaa", sum := "3872e4e6893db9b1f7d2c85b69432a7136014cd2456c6c2397ee27dd4b592a22", func := "multikernel/multikernellaw15.PageTableExact", spec := "pageTableExact", apart := false, narrowed := true }
def PageTableExactUptoSaid : Prop := pageTableExactUptoRow.holds Try.pinned (OpenSpec.upto pageTableExactSpec)

/-- 'multikernellaw15.PageUnpackExact', WHERE WHAT IT READS IS OF BULK AT MOST 1048576: true; the input reads as it did. -/
def pageUnpackExactUptoRow : OpenClaim := { program := "ytonloimepfojdaa", sum := "3872e4e6893db9b1f7d2c85b69432a7136014cd2456c6c2397ee27dd4b592a22", func := "multikernel/multikernellaw15.PageUnpackExact", spec := "pageUnpackExact", apart := false, narrowed := true }
def PageUnpackExactUptoSaid : Prop := pageUnpackExactUptoRow.holds Try.pinned (OpenSpec.upto pageUnpackExactSpec)

/-- 'multikernellaw15.PageRoundTrip', WHERE WHAT IT READS IS OF BULK AT MOST 1048576: true; the input reads as it did. -/
def pageRoundTripUptoRow : OpenClaim := { program := "ytonloimepfojdaa", sum := "3872e4e6893db9b1f7d2c85b69432a7136014cd2456c6c2397ee27dd4b592a22", func := "multikernel/multikernellaw15.PageRoundTrip", spec := "pageRoundTrip", apart := false, narrowed := true }
def PageRoundTripUptoSaid : Prop := pageRoundTripUptoRow.holds Try.pinned (OpenSpec.upto pageRoundTripSpec)

end Rows
end Go.Proofs.Ytonloimepfojdaa
