/-
  No cell of these rows narrows 'for every input' (looked for: loops, veiled, ifaces, maps, wideKeys, modest, calm, conditions, laid).
  DERIVED. THE GIVEN ROWS OF THIS SEAT. 17 by the template 'for every input the law returns true; each argument reads behind the call as it read before'; 0 by the template 'total and deterministic' (their statements: YthjkhambmgepdaaTotals.lean).
  GIVEN WITH THE SEED: the statements are not yours to turn. If you find one false, say at which input.
  Laid BY PROGRAM, IN A SANDBOX (cutbox-rows.mjs): the forced cells as the released guide's own fill.sh prints them over the translation 4359925f6bdd4ee4… (all of the seat's roots in one cut). By AI agents, Wed Nov 11 2026. No macro, syntax, notation, axiom, sorry.
-/
import Derived.Test.YthjkhambmgepdaaChecked
import GoSem.Claim
import GoSem.ClaimJoined
import GoSem.ClaimMapViews
import Derived.JoinedTies
import Derived.KernelRfl
namespace Go.Proofs.Ythjkhambmgepdaa
/- THE CELL 'sum', in the pinned program and in every row, IS THE sha256 OF THE DUMP (.gsa) THAT YthjkhambmgepdaaProg.lean LOADS. Nothing in Lean hashes anything: it is a label: what it is worth is what the hold of that sum in a sandbox is worth. -/
noncomputable def Try.pinned : Pinned := { name := "ythjkhambmgepdaa", sum := "4359925f6bdd4ee498a34a12932096038f7cd45e7ad9557bb0c1e39f0e031b47", checked := Try.checked }
namespace Rows
def none {H : Type} : Left H := { results := [], args := [] }

/-- 'multikernellaw19.RingWrap': WHATEVER THE INPUT: true; the input reads as it did. -/
def ringWrapSpec : ChangeSpec := { name := "ringWrap", fn := fun _ => fun
  | [d1, d2, d3, d4] => { results := [.lit (.bool true)], args := [d1, d2, d3, d4] }
  | _ => none }
def ringWrapRow : OpenClaim := { program := "ythjkhambmgepdaa", sum := "4359925f6bdd4ee498a34a12932096038f7cd45e7ad9557bb0c1e39f0e031b47", func := "multikernel/multikernellaw19.RingWrap", spec := "ringWrap", apart := false }
def RingWrapSaid : Prop := ringWrapRow.holds Try.pinned (OpenSpec.ofChange ringWrapSpec)

/-- ITS FALSE NEIGHBOUR: 'it returns false'. Refute it at one input. -/
def ringWrapWrong : ChangeSpec := { name := "ringWrap", fn := fun _ => fun
  | [d1, d2, d3, d4] => { results := [.lit (.bool false)], args := [d1, d2, d3, d4] }
  | _ => none }
def RingWrapWrongFalsely : Prop := ringWrapRow.holds Try.pinned (OpenSpec.ofChange ringWrapWrong)

/-- 'multikernellaw19.RingFill': WHATEVER THE INPUT: true; the input reads as it did. -/
def ringFillSpec : ChangeSpec := { name := "ringFill", fn := fun _ => fun
  | [d1, d2] => { results := [.lit (.bool true)], args := [d1, d2] }
  | _ => none }
def ringFillRow : OpenClaim := { program := "ythjkhambmgepdaa", sum := "4359925f6bdd4ee498a34a12932096038f7cd45e7ad9557bb0c1e39f0e031b47", func := "multikernel/multikernellaw19.RingFill", spec := "ringFill", apart := false }
def RingFillSaid : Prop := ringFillRow.holds Try.pinned (OpenSpec.ofChange ringFillSpec)

/-- ITS FALSE NEIGHBOUR: 'it returns false'. Refute it at one input. -/
def ringFillWrong : ChangeSpec := { name := "ringFill", fn := fun _ => fun
  | [d1, d2] => { results := [.lit (.bool false)], args := [d1, d2] }
  | _ => none }
def RingFillWrongFalsely : Prop := ringFillRow.holds Try.pinned (OpenSpec.ofChange ringFillWrong)

/-- 'multikernellaw19.RingOrder': WHATEVER THE INPUT: true; the input reads as it did. -/
def ringOrderSpec : ChangeSpec := { name := "ringOrder", fn := fun _ => fun
  | [d1, d2] => { results := [.lit (.bool true)], args := [d1, d2] }
  | _ => none }
def ringOrderRow : OpenClaim := { program := "ythjkhambmgepdaa", sum := "4359925f6bdd4ee498a34a12932096038f7cd45e7ad9557bb0c1e39f0e031b47", func := "multikernel/multikernellaw19.RingOrder", spec := "ringOrder", apart := false }
def RingOrderSaid : Prop := ringOrderRow.holds Try.pinned (OpenSpec.ofChange ringOrderSpec)

/-- ITS FALSE NEIGHBOUR: 'it returns false'. Refute it at one input. -/
def ringOrderWrong : ChangeSpec := { name := "ringOrder", fn := fun _ => fun
  | [d1, d2] => { results := [.lit (.bool false)], args := [d1, d2] }
  | _ => none }
def RingOrderWrongFalsely : Prop := ringOrderRow.holds Try.pinned (OpenSpec.ofChange ringOrderWrong)

/-- 'multikernellaw19.RingLines': WHATEVER THE INPUT: true; the input reads as it did. -/
def ringLinesSpec : ChangeSpec := { name := "ringLines", fn := fun _ => fun
  | [d1, d2, d3] => { results := [.lit (.bool true)], args := [d1, d2, d3] }
  | _ => none }
def ringLinesRow : OpenClaim := { program := "ythjkhambmgepdaa", sum := "4359925f6bdd4ee498a34a12932096038f7cd45e7ad9557bb0c1e39f0e031b47", func := "multikernel/multikernellaw19.RingLines", spec := "ringLines", apart := false }
def RingLinesSaid : Prop := ringLinesRow.holds Try.pinned (OpenSpec.ofChange ringLinesSpec)

/-- ITS FALSE NEIGHBOUR: 'it returns false'. Refute it at one input. -/
def ringLinesWrong : ChangeSpec := { name := "ringLines", fn := fun _ => fun
  | [d1, d2, d3] => { results := [.lit (.bool false)], args := [d1, d2, d3] }
  | _ => none }
def RingLinesWrongFalsely : Prop := ringLinesRow.holds Try.pinned (OpenSpec.ofChange ringLinesWrong)

/-- 'multikernellaw19.RingExact': WHATEVER THE INPUT: true; the input reads as it did. -/
def ringExactSpec : ChangeSpec := { name := "ringExact", fn := fun _ => fun
  | [d1, d2, d3, d4, d5, d6, d7, d8] => { results := [.lit (.bool true)], args := [d1, d2, d3, d4, d5, d6, d7, d8] }
  | _ => none }
def ringExactRow : OpenClaim := { program := "ythjkhambmgepdaa", sum := "4359925f6bdd4ee498a34a12932096038f7cd45e7ad9557bb0c1e39f0e031b47", func := "multikernel/multikernellaw19.RingExact", spec := "ringExact", apart := false }
def RingExactSaid : Prop := ringExactRow.holds Try.pinned (OpenSpec.ofChange ringExactSpec)

/-- ITS FALSE NEIGHBOUR: 'it returns false'. Refute it at one input. -/
def ringExactWrong : ChangeSpec := { name := "ringExact", fn := fun _ => fun
  | [d1, d2, d3, d4, d5, d6, d7, d8] => { results := [.lit (.bool false)], args := [d1, d2, d3, d4, d5, d6, d7, d8] }
  | _ => none }
def RingExactWrongFalsely : Prop := ringExactRow.holds Try.pinned (OpenSpec.ofChange ringExactWrong)

/-- 'multikernellaw20.LinkLong': WHATEVER THE INPUT: true; the input reads as it did. -/
def linkLongSpec : ChangeSpec := { name := "linkLong", fn := fun _ => fun
  | [d1, d2] => { results := [.lit (.bool true)], args := [d1, d2] }
  | _ => none }
def linkLongRow : OpenClaim := { program := "ythjkhambmgepdaa", sum := "4359925f6bdd4ee498a34a12932096038f7cd45e7ad9557bb0c1e39f0e031b47", func := "multikernel/multikernellaw20.LinkLong", spec := "linkLong", apart := false }
def LinkLongSaid : Prop := linkLongRow.holds Try.pinned (OpenSpec.ofChange linkLongSpec)

/-- ITS FALSE NEIGHBOUR: 'it returns false'. Refute it at one input. -/
def linkLongWrong : ChangeSpec := { name := "linkLong", fn := fun _ => fun
  | [d1, d2] => { results := [.lit (.bool false)], args := [d1, d2] }
  | _ => none }
def LinkLongWrongFalsely : Prop := linkLongRow.holds Try.pinned (OpenSpec.ofChange linkLongWrong)

/-- 'multikernellaw20.LinkFragments': WHATEVER THE INPUT: true; the input reads as it did. -/
def linkFragmentsSpec : ChangeSpec := { name := "linkFragments", fn := fun _ => fun
  | [d] => { results := [.lit (.bool true)], args := [d] }
  | _ => none }
def linkFragmentsRow : OpenClaim := { program := "ythjkhambmgepdaa", sum := "4359925f6bdd4ee498a34a12932096038f7cd45e7ad9557bb0c1e39f0e031b47", func := "multikernel/multikernellaw20.LinkFragments", spec := "linkFragments", apart := false }
def LinkFragmentsSaid : Prop := linkFragmentsRow.holds Try.pinned (OpenSpec.ofChange linkFragmentsSpec)

/-- ITS FALSE NEIGHBOUR: 'it returns false'. Refute it at one input. -/
def linkFragmentsWrong : ChangeSpec := { name := "linkFragments", fn := fun _ => fun
  | [d] => { results := [.lit (.bool false)], args := [d] }
  | _ => none }
def LinkFragmentsWrongFalsely : Prop := linkFragmentsRow.holds Try.pinned (OpenSpec.ofChange linkFragmentsWrong)

/-- 'multikernellaw20.LinkExact': WHATEVER THE INPUT: true; the input reads as it did. -/
def linkExactSpec : ChangeSpec := { name := "linkExact", fn := fun _ => fun
  | [d1, d2, d3, d4] => { results := [.lit (.bool true)], args := [d1, d2, d3, d4] }
  | _ => none }
def linkExactRow : OpenClaim := { program := "ythjkhambmgepdaa", sum := "4359925f6bdd4ee498a34a12932096038f7cd45e7ad9557bb0c1e39f0e031b47", func := "multikernel/multikernellaw20.LinkExact", spec := "linkExact", apart := false }
def LinkExactSaid : Prop := linkExactRow.holds Try.pinned (OpenSpec.ofChange linkExactSpec)

/-- ITS FALSE NEIGHBOUR: 'it returns false'. Refute it at one input. -/
def linkExactWrong : ChangeSpec := { name := "linkExact", fn := fun _ => fun
  | [d1, d2, d3, d4] => { results := [.lit (.bool false)], args := [d1, d2, d3, d4] }
  | _ => none }
def LinkExactWrongFalsely : Prop := linkExactRow.holds Try.pinned (OpenSpec.ofChange linkExactWrong)

/-- 'multikernellaw20.LinkOrder': WHATEVER THE INPUT: true; the input reads as it did. -/
def linkOrderSpec : ChangeSpec := { name := "linkOrder", fn := fun _ => fun
  | [d1, d2] => { results := [.lit (.bool true)], args := [d1, d2] }
  | _ => none }
def linkOrderRow : OpenClaim := { program := "ythjkhambmgepdaa", sum := "4359925f6bdd4ee498a34a12932096038f7cd45e7ad9557bb0c1e39f0e031b47", func := "multikernel/multikernellaw20.LinkOrder", spec := "linkOrder", apart := false }
def LinkOrderSaid : Prop := linkOrderRow.holds Try.pinned (OpenSpec.ofChange linkOrderSpec)

/-- ITS FALSE NEIGHBOUR: 'it returns false'. Refute it at one input. -/
def linkOrderWrong : ChangeSpec := { name := "linkOrder", fn := fun _ => fun
  | [d1, d2] => { results := [.lit (.bool false)], args := [d1, d2] }
  | _ => none }
def LinkOrderWrongFalsely : Prop := linkOrderRow.holds Try.pinned (OpenSpec.ofChange linkOrderWrong)

/-- 'multikernellaw20.LinkProgress': WHATEVER THE INPUT: true; the input reads as it did. -/
def linkProgressSpec : ChangeSpec := { name := "linkProgress", fn := fun _ => fun
  | [d1, d2] => { results := [.lit (.bool true)], args := [d1, d2] }
  | _ => none }
def linkProgressRow : OpenClaim := { program := "ythjkhambmgepdaa", sum := "4359925f6bdd4ee498a34a12932096038f7cd45e7ad9557bb0c1e39f0e031b47", func := "multikernel/multikernellaw20.LinkProgress", spec := "linkProgress", apart := false }
def LinkProgressSaid : Prop := linkProgressRow.holds Try.pinned (OpenSpec.ofChange linkProgressSpec)

/-- ITS FALSE NEIGHBOUR: 'it returns false'. Refute it at one input. -/
def linkProgressWrong : ChangeSpec := { name := "linkProgress", fn := fun _ => fun
  | [d1, d2] => { results := [.lit (.bool false)], args := [d1, d2] }
  | _ => none }
def LinkProgressWrongFalsely : Prop := linkProgressRow.holds Try.pinned (OpenSpec.ofChange linkProgressWrong)

/-- 'multikernellaw20.LinkRefused': WHATEVER THE INPUT: true; the input reads as it did. -/
def linkRefusedSpec : ChangeSpec := { name := "linkRefused", fn := fun _ => fun
  | [d1, d2, d3, d4] => { results := [.lit (.bool true)], args := [d1, d2, d3, d4] }
  | _ => none }
def linkRefusedRow : OpenClaim := { program := "ythjkhambmgepdaa", sum := "4359925f6bdd4ee498a34a12932096038f7cd45e7ad9557bb0c1e39f0e031b47", func := "multikernel/multikernellaw20.LinkRefused", spec := "linkRefused", apart := false }
def LinkRefusedSaid : Prop := linkRefusedRow.holds Try.pinned (OpenSpec.ofChange linkRefusedSpec)

/-- ITS FALSE NEIGHBOUR: 'it returns false'. Refute it at one input. -/
def linkRefusedWrong : ChangeSpec := { name := "linkRefused", fn := fun _ => fun
  | [d1, d2, d3, d4] => { results := [.lit (.bool false)], args := [d1, d2, d3, d4] }
  | _ => none }
def LinkRefusedWrongFalsely : Prop := linkRefusedRow.holds Try.pinned (OpenSpec.ofChange linkRefusedWrong)

/-- 'multikernellaw20.LinkAcks': WHATEVER THE INPUT: true; the input reads as it did. -/
def linkAcksSpec : ChangeSpec := { name := "linkAcks", fn := fun _ => fun
  | [d1, d2] => { results := [.lit (.bool true)], args := [d1, d2] }
  | _ => none }
def linkAcksRow : OpenClaim := { program := "ythjkhambmgepdaa", sum := "4359925f6bdd4ee498a34a12932096038f7cd45e7ad9557bb0c1e39f0e031b47", func := "multikernel/multikernellaw20.LinkAcks", spec := "linkAcks", apart := false }
def LinkAcksSaid : Prop := linkAcksRow.holds Try.pinned (OpenSpec.ofChange linkAcksSpec)

/-- ITS FALSE NEIGHBOUR: 'it returns false'. Refute it at one input. -/
def linkAcksWrong : ChangeSpec := { name := "linkAcks", fn := fun _ => fun
  | [d1, d2] => { results := [.lit (.bool false)], args := [d1, d2] }
  | _ => none }
def LinkAcksWrongFalsely : Prop := linkAcksRow.holds Try.pinned (OpenSpec.ofChange linkAcksWrong)

/-- 'multikernellaw32.UrpcEncoding': WHATEVER THE INPUT: true; the input reads as it did. -/
def urpcEncodingSpec : ChangeSpec := { name := "urpcEncoding", fn := fun _ => fun
  | [d1, d2] => { results := [.lit (.bool true)], args := [d1, d2] }
  | _ => none }
def urpcEncodingRow : OpenClaim := { program := "ythjkhambmgepdaa", sum := "4359925f6bdd4ee498a34a12932096038f7cd45e7ad9557bb0c1e39f0e031b47", func := "multikernel/multikernellaw32.UrpcEncoding", spec := "urpcEncoding", unfollowed := true, recurses := true, apart := false }
def UrpcEncodingSaid : Prop := urpcEncodingRow.holds Try.pinned (OpenSpec.ofChange urpcEncodingSpec)

/-- ITS FALSE NEIGHBOUR: 'it returns false'. Refute it at one input. -/
def urpcEncodingWrong : ChangeSpec := { name := "urpcEncoding", fn := fun _ => fun
  | [d1, d2] => { results := [.lit (.bool false)], args := [d1, d2] }
  | _ => none }
def UrpcEncodingWrongFalsely : Prop := urpcEncodingRow.holds Try.pinned (OpenSpec.ofChange urpcEncodingWrong)

/-- 'multikernellaw32.UrpcDrain': WHATEVER THE INPUT: true; the input reads as it did. -/
def urpcDrainSpec : ChangeSpec := { name := "urpcDrain", fn := fun _ => fun
  | [d1, d2] => { results := [.lit (.bool true)], args := [d1, d2] }
  | _ => none }
def urpcDrainRow : OpenClaim := { program := "ythjkhambmgepdaa", sum := "4359925f6bdd4ee498a34a12932096038f7cd45e7ad9557bb0c1e39f0e031b47", func := "multikernel/multikernellaw32.UrpcDrain", spec := "urpcDrain", unfollowed := true, recurses := true, apart := false }
def UrpcDrainSaid : Prop := urpcDrainRow.holds Try.pinned (OpenSpec.ofChange urpcDrainSpec)

/-- ITS FALSE NEIGHBOUR: 'it returns false'. Refute it at one input. -/
def urpcDrainWrong : ChangeSpec := { name := "urpcDrain", fn := fun _ => fun
  | [d1, d2] => { results := [.lit (.bool false)], args := [d1, d2] }
  | _ => none }
def UrpcDrainWrongFalsely : Prop := urpcDrainRow.holds Try.pinned (OpenSpec.ofChange urpcDrainWrong)

/-- 'multikernellaw32.UrpcExact': WHATEVER THE INPUT: true; the input reads as it did. -/
def urpcExactSpec : ChangeSpec := { name := "urpcExact", fn := fun _ => fun
  | [d1, d2, d3, d4, d5, d6, d7, d8] => { results := [.lit (.bool true)], args := [d1, d2, d3, d4, d5, d6, d7, d8] }
  | _ => none }
def urpcExactRow : OpenClaim := { program := "ythjkhambmgepdaa", sum := "4359925f6bdd4ee498a34a12932096038f7cd45e7ad9557bb0c1e39f0e031b47", func := "multikernel/multikernellaw32.UrpcExact", spec := "urpcExact", unfollowed := true, recurses := true, apart := false }
def UrpcExactSaid : Prop := urpcExactRow.holds Try.pinned (OpenSpec.ofChange urpcExactSpec)

/-- ITS FALSE NEIGHBOUR: 'it returns false'. Refute it at one input. -/
def urpcExactWrong : ChangeSpec := { name := "urpcExact", fn := fun _ => fun
  | [d1, d2, d3, d4, d5, d6, d7, d8] => { results := [.lit (.bool false)], args := [d1, d2, d3, d4, d5, d6, d7, d8] }
  | _ => none }
def UrpcExactWrongFalsely : Prop := urpcExactRow.holds Try.pinned (OpenSpec.ofChange urpcExactWrong)

/-- 'multikernellaw32.UrpcOnce': WHATEVER THE INPUT: true; the input reads as it did. -/
def urpcOnceSpec : ChangeSpec := { name := "urpcOnce", fn := fun _ => fun
  | [d1, d2] => { results := [.lit (.bool true)], args := [d1, d2] }
  | _ => none }
def urpcOnceRow : OpenClaim := { program := "ythjkhambmgepdaa", sum := "4359925f6bdd4ee498a34a12932096038f7cd45e7ad9557bb0c1e39f0e031b47", func := "multikernel/multikernellaw32.UrpcOnce", spec := "urpcOnce", unfollowed := true, recurses := true, apart := false }
def UrpcOnceSaid : Prop := urpcOnceRow.holds Try.pinned (OpenSpec.ofChange urpcOnceSpec)

/-- ITS FALSE NEIGHBOUR: 'it returns false'. Refute it at one input. -/
def urpcOnceWrong : ChangeSpec := { name := "urpcOnce", fn := fun _ => fun
  | [d1, d2] => { results := [.lit (.bool false)], args := [d1, d2] }
  | _ => none }
def UrpcOnceWrongFalsely : Prop := urpcOnceRow.holds Try.pinned (OpenSpec.ofChange urpcOnceWrong)

/-- 'multikernellaw32.UrpcLink': WHATEVER THE INPUT: true; the input reads as it did. -/
def urpcLinkSpec : ChangeSpec := { name := "urpcLink", fn := fun _ => fun
  | [d1, d2, d3, d4] => { results := [.lit (.bool true)], args := [d1, d2, d3, d4] }
  | _ => none }
def urpcLinkRow : OpenClaim := { program := "ythjkhambmgepdaa", sum := "4359925f6bdd4ee498a34a12932096038f7cd45e7ad9557bb0c1e39f0e031b47", func := "multikernel/multikernellaw32.UrpcLink", spec := "urpcLink", unfollowed := true, recurses := true, apart := false }
def UrpcLinkSaid : Prop := urpcLinkRow.holds Try.pinned (OpenSpec.ofChange urpcLinkSpec)

/-- ITS FALSE NEIGHBOUR: 'it returns false'. Refute it at one input. -/
def urpcLinkWrong : ChangeSpec := { name := "urpcLink", fn := fun _ => fun
  | [d1, d2, d3, d4] => { results := [.lit (.bool false)], args := [d1, d2, d3, d4] }
  | _ => none }
def UrpcLinkWrongFalsely : Prop := urpcLinkRow.holds Try.pinned (OpenSpec.ofChange urpcLinkWrong)

/- THE SECOND FORM. 'bulk': how many values and letters a reading holds, each counted each time it is reached (what is shared counts as often as it is met; a slice's spare places count too). A statement '..UptoSaid' is the law's where the arguments, and the package variables that the reading takes, are together of bulk at most 1048576: NARROWER than '..Said'. Prove '..Said' where nothing that the law and all that it calls make is longer than what came in: it says more and counts as full. Else prove '..UptoSaid'. A law counts once. -/
mutual
def uptoBulk {H : Type} : DataW H → Nat
  | .lit (.string bytes) => bytes.length + 1
  | .lit _ => 1
  | .nil => 1
  | .ptr d => uptoBulk d + 1
  | .slice elems spare => uptoBulkAll elems + uptoBulkAll spare + 1
  | .agg parts => uptoBulkAll parts + 1
  | .iface _ d => uptoBulk d + 1
  | .map entries => uptoBulkEntries entries + 1
  | .held _ => 1
def uptoBulkAll {H : Type} : List (DataW H) → Nat
  | [] => 0
  | d :: r => uptoBulk d + uptoBulkAll r
def uptoBulkEntries {H : Type} : List (Lit × DataW H) → Nat
  | [] => 0
  | x :: r => uptoBulkEntry x + uptoBulkEntries r
def uptoBulkEntry {H : Type} : Lit × DataW H → Nat
  | (.string bytes, d) => bytes.length + uptoBulk d + 1
  | (_, d) => uptoBulk d + 1
 end
def uptoSmall : (H : Type) → List (DataW H) → Bool := fun _ ds => decide (uptoBulkAll ds ≤ 1048576)
def OpenSpec.upto (s : _root_.Go.ChangeSpec) : _root_.Go.OpenSpec := { _root_.Go.OpenSpec.ofChange s with cond := some uptoSmall }

/-- 'multikernellaw19.RingWrap', WHERE WHAT IT READS IS OF BULK AT MOST 1048576: true; the input reads as it did. -/
def ringWrapUptoRow : OpenClaim := { program := "ythjkhambmgepdaa", sum := "4359925f6bdd4ee498a34a12932096038f7cd45e7ad9557bb0c1e39f0e031b47", func := "multikernel/multikernellaw19.RingWrap", spec := "ringWrap", apart := false, narrowed := true }
def RingWrapUptoSaid : Prop := ringWrapUptoRow.holds Try.pinned (OpenSpec.upto ringWrapSpec)

/-- 'multikernellaw19.RingFill', WHERE WHAT IT READS IS OF BULK AT MOST 1048576: true; the input reads as it did. -/
def ringFillUptoRow : OpenClaim := { program := "ythjkhambmgepdaa", sum := "4359925f6bdd4ee498a34a12932096038f7cd45e7ad9557bb0c1e39f0e031b47", func := "multikernel/multikernellaw19.RingFill", spec := "ringFill", apart := false, narrowed := true }
def RingFillUptoSaid : Prop := ringFillUptoRow.holds Try.pinned (OpenSpec.upto ringFillSpec)

/-- 'multikernellaw19.RingOrder', WHERE WHAT IT READS IS OF BULK AT MOST 1048576: true; the input reads as it did. -/
def ringOrderUptoRow : OpenClaim := { program := "ythjkhambmgepdaa", sum := "4359925f6bdd4ee498a34a12932096038f7cd45e7ad9557bb0c1e39f0e031b47", func := "multikernel/multikernellaw19.RingOrder", spec := "ringOrder", apart := false, narrowed := true }
def RingOrderUptoSaid : Prop := ringOrderUptoRow.holds Try.pinned (OpenSpec.upto ringOrderSpec)

/-- 'multikernellaw19.RingLines', WHERE WHAT IT READS IS OF BULK AT MOST 1048576: true; the input reads as it did. -/
def ringLinesUptoRow : OpenClaim := { program := "ythjkhambmgepdaa", sum := "4359925f6bdd4ee498a34a12932096038f7cd45e7ad9557bb0c1e39f0e031b47", func := "multikernel/multikernellaw19.RingLines", spec := "ringLines", apart := false, narrowed := true }
def RingLinesUptoSaid : Prop := ringLinesUptoRow.holds Try.pinned (OpenSpec.upto ringLinesSpec)

/-- 'multikernellaw19.RingExact', WHERE WHAT IT READS IS OF BULK AT MOST 1048576: true; the input reads as it did. -/
def ringExactUptoRow : OpenClaim := { program := "ythjkhambmgepdaa", sum := "4359925f6bdd4ee498a34a12932096038f7cd45e7ad9557bb0c1e39f0e031b47", func := "multikernel/multikernellaw19.RingExact", spec := "ringExact", apart := false, narrowed := true }
def RingExactUptoSaid : Prop := ringExactUptoRow.holds Try.pinned (OpenSpec.upto ringExactSpec)

/-- 'multikernellaw20.LinkLong', WHERE WHAT IT READS IS OF BULK AT MOST 1048576: true; the input reads as it did. -/
def linkLongUptoRow : OpenClaim := { program := "ythjkhambmgepdaa", sum := "4359925f6bdd4ee498a34a12932096038f7cd45e7ad9557bb0c1e39f0e031b47", func := "multikernel/multikernellaw20.LinkLong", spec := "linkLong", apart := false, narrowed := true }
def LinkLongUptoSaid : Prop := linkLongUptoRow.holds Try.pinned (OpenSpec.upto linkLongSpec)

/-- 'multikernellaw20.LinkFragments', WHERE WHAT IT READS IS OF BULK AT MOST 1048576: true; the input reads as it did. -/
def linkFragmentsUptoRow : OpenClaim := { program := "ythjkhambmgepdaa", sum := "4359925f6bdd4ee498a34a12932096038f7cd45e7ad9557bb0c1e39f0e031b47", func := "multikernel/multikernellaw20.LinkFragments", spec := "linkFragments", apart := false, narrowed := true }
def LinkFragmentsUptoSaid : Prop := linkFragmentsUptoRow.holds Try.pinned (OpenSpec.upto linkFragmentsSpec)

/-- 'multikernellaw20.LinkExact', WHERE WHAT IT READS IS OF BULK AT MOST 1048576: true; the input reads as it did. -/
def linkExactUptoRow : OpenClaim := { program := "ythjkhambmgepdaa", sum := "4359925f6bdd4ee498a34a12932096038f7cd45e7ad9557bb0c1e39f0e031b47", func := "multikernel/multikernellaw20.LinkExact", spec := "linkExact", apart := false, narrowed := true }
def LinkExactUptoSaid : Prop := linkExactUptoRow.holds Try.pinned (OpenSpec.upto linkExactSpec)

/-- 'multikernellaw20.LinkOrder', WHERE WHAT IT READS IS OF BULK AT MOST 1048576: true; the input reads as it did. -/
def linkOrderUptoRow : OpenClaim := { program := "ythjkhambmgepdaa", sum := "4359925f6bdd4ee498a34a12932096038f7cd45e7ad9557bb0c1e39f0e031b47", func := "multikernel/multikernellaw20.LinkOrder", spec := "linkOrder", apart := false, narrowed := true }
def LinkOrderUptoSaid : Prop := linkOrderUptoRow.holds Try.pinned (OpenSpec.upto linkOrderSpec)

/-- 'multikernellaw20.LinkProgress', WHERE WHAT IT READS IS OF BULK AT MOST 1048576: true; the input reads as it did. -/
def linkProgressUptoRow : OpenClaim := { program := "ythjkhambmgepdaa", sum := "4359925f6bdd4ee498a34a12932096038f7cd45e7ad9557bb0c1e39f0e031b47", func := "multikernel/multikernellaw20.LinkProgress", spec := "linkProgress", apart := false, narrowed := true }
def LinkProgressUptoSaid : Prop := linkProgressUptoRow.holds Try.pinned (OpenSpec.upto linkProgressSpec)

/-- 'multikernellaw20.LinkRefused', WHERE WHAT IT READS IS OF BULK AT MOST 1048576: true; the input reads as it did. -/
def linkRefusedUptoRow : OpenClaim := { program := "ythjkhambmgepdaa", sum := "4359925f6bdd4ee498a34a12932096038f7cd45e7ad9557bb0c1e39f0e031b47", func := "multikernel/multikernellaw20.LinkRefused", spec := "linkRefused", apart := false, narrowed := true }
def LinkRefusedUptoSaid : Prop := linkRefusedUptoRow.holds Try.pinned (OpenSpec.upto linkRefusedSpec)

/-- 'multikernellaw20.LinkAcks', WHERE WHAT IT READS IS OF BULK AT MOST 1048576: true; the input reads as it did. -/
def linkAcksUptoRow : OpenClaim := { program := "ythjkhambmgepdaa", sum := "4359925f6bdd4ee498a34a12932096038f7cd45e7ad9557bb0c1e39f0e031b47", func := "multikernel/multikernellaw20.LinkAcks", spec := "linkAcks", apart := false, narrowed := true }
def LinkAcksUptoSaid : Prop := linkAcksUptoRow.holds Try.pinned (OpenSpec.upto linkAcksSpec)

/-- 'multikernellaw32.UrpcEncoding', WHERE WHAT IT READS IS OF BULK AT MOST 1048576: true; the input reads as it did. -/
def urpcEncodingUptoRow : OpenClaim := { program := "ythjkhambmgepdaa", sum := "4359925f6bdd4ee498a34a12932096038f7cd45e7ad9557bb0c1e39f0e031b47", func := "multikernel/multikernellaw32.UrpcEncoding", spec := "urpcEncoding", unfollowed := true, recurses := true, apart := false, narrowed := true }
def UrpcEncodingUptoSaid : Prop := urpcEncodingUptoRow.holds Try.pinned (OpenSpec.upto urpcEncodingSpec)

/-- 'multikernellaw32.UrpcDrain', WHERE WHAT IT READS IS OF BULK AT MOST 1048576: true; the input reads as it did. -/
def urpcDrainUptoRow : OpenClaim := { program := "ythjkhambmgepdaa", sum := "4359925f6bdd4ee498a34a12932096038f7cd45e7ad9557bb0c1e39f0e031b47", func := "multikernel/multikernellaw32.UrpcDrain", spec := "urpcDrain", unfollowed := true, recurses := true, apart := false, narrowed := true }
def UrpcDrainUptoSaid : Prop := urpcDrainUptoRow.holds Try.pinned (OpenSpec.upto urpcDrainSpec)

/-- 'multikernellaw32.UrpcExact', WHERE WHAT IT READS IS OF BULK AT MOST 1048576: true; the input reads as it did. -/
def urpcExactUptoRow : OpenClaim := { program := "ythjkhambmgepdaa", sum := "4359925f6bdd4ee498a34a12932096038f7cd45e7ad9557bb0c1e39f0e031b47", func := "multikernel/multikernellaw32.UrpcExact", spec := "urpcExact", unfollowed := true, recurses := true, apart := false, narrowed := true }
def UrpcExactUptoSaid : Prop := urpcExactUptoRow.holds Try.pinned (OpenSpec.upto urpcExactSpec)

/-- 'multikernellaw32.UrpcOnce', WHERE WHAT IT READS IS OF BULK AT MOST 1048576: true; the input reads as it did. -/
def urpcOnceUptoRow : OpenClaim := { program := "ythjkhambmgepdaa", sum := "4359925f6bdd4ee498a34a12932096038f7cd45e7ad9557bb0c1e39f0e031b47", func := "multikernel/multikernellaw32.UrpcOnce", spec := "urpcOnce", unfollowed := true, recurses := true, apart := false, narrowed := true }
def UrpcOnceUptoSaid : Prop := urpcOnceUptoRow.holds Try.pinned (OpenSpec.upto urpcOnceSpec)

/-- 'multikernellaw32.UrpcLink', WHERE WHAT IT READS IS OF BULK AT MOST 1048576: true; the input reads as it did. -/
def urpcLinkUptoRow : OpenClaim := { program := "ythjkhambmgepdaa", sum := "4359925f6bdd4ee498a34a12932096038f7cd45e7ad9557bb0c1e39f0e031b47", func := "multikernel/multikernellaw32.UrpcLink", spec := "urpcLink", unfollowed := true, recurses := true, apart := false, narrowed := true }
def UrpcLinkUptoSaid : Prop := urpcLinkUptoRow.holds Try.pinned (OpenSpec.upto urpcLinkSpec)

end Rows
end Go.Proofs.Ythjkhambmgepdaa
