/-
  No cell of these rows narrows 'for every input' (looked for: loops, veiled, ifaces, maps, wideKeys, modest, calm, conditions, laid).
  DERIVED. THE GIVEN ROWS OF THIS SEAT. 10 by the template 'for every input the law returns true; each argument reads behind the call as it read before'; 0 by the template 'total and deterministic' (their statements: YtajkhijphdnbpaaTotals.lean).
  GIVEN WITH THE SEED: the statements are not yours to turn. If you find one false, say at which input.
  Laid BY PROGRAM, IN A SANDBOX (cutbox-rows.mjs): the forced cells as the released guide's own fill.sh prints them over the translation 5cbf7e5dabbf547f… (all of the seat's roots in one cut). By AI agents, Wed Nov 11 2026. No macro, syntax, notation, axiom, sorry.
-/
import Derived.Test.YtajkhijphdnbpaaChecked
import GoSem.Claim
import GoSem.ClaimJoined
import GoSem.ClaimMapViews
import Derived.JoinedTies
import Derived.KernelRfl
namespace Go.Proofs.Ytajkhijphdnbpaa
/- THE CELL 'sum', in the pinned program and in every row, IS THE sha256 OF THE DUMP (.gsa) THAT YtajkhijphdnbpaaProg.lean LOADS. Nothing in Lean hashes anything: it is a label: what it is worth is what the hold of that sum in a sandbox is worth. -/
noncomputable def Try.pinned : Pinned := { name := "ytajkhijphdnbpaa", sum := "5cbf7e5dabbf547ff5cbfbee3914130e86c497d201dcc5c0e5f80d02ed329a84", checked := Try.checked }
namespace Rows
def none {H : Type} : Left H := { results := [], args := [] }

/-- 'multikernellaw01.BinencChecksums': WHATEVER THE INPUT: true; the input reads as it did. -/
def binencChecksumsSpec : ChangeSpec := { name := "binencChecksums", fn := fun _ => fun
  | [d] => { results := [.lit (.bool true)], args := [d] }
  | _ => none }
def binencChecksumsRow : OpenClaim := { program := "ytajkhijphdnbpaa", sum := "5cbf7e5dabbf547ff5cbfbee3914130e86c497d201dcc5c0e5f80d02ed329a84", func := "multikernel/multikernellaw01.BinencChecksums", spec := "binencChecksums", apart := false }
def BinencChecksumsSaid : Prop := binencChecksumsRow.holds Try.pinned (OpenSpec.ofChange binencChecksumsSpec)

/-- ITS FALSE NEIGHBOUR: 'it returns false'. Refute it at one input. -/
def binencChecksumsWrong : ChangeSpec := { name := "binencChecksums", fn := fun _ => fun
  | [d] => { results := [.lit (.bool false)], args := [d] }
  | _ => none }
def BinencChecksumsWrongFalsely : Prop := binencChecksumsRow.holds Try.pinned (OpenSpec.ofChange binencChecksumsWrong)

/-- 'multikernellaw01.BinencLinear': WHATEVER THE INPUT: true; the input reads as it did. -/
def binencLinearSpec : ChangeSpec := { name := "binencLinear", fn := fun _ => fun
  | [d1, d2, d3] => { results := [.lit (.bool true)], args := [d1, d2, d3] }
  | _ => none }
def binencLinearRow : OpenClaim := { program := "ytajkhijphdnbpaa", sum := "5cbf7e5dabbf547ff5cbfbee3914130e86c497d201dcc5c0e5f80d02ed329a84", func := "multikernel/multikernellaw01.BinencLinear", spec := "binencLinear", apart := false }
def BinencLinearSaid : Prop := binencLinearRow.holds Try.pinned (OpenSpec.ofChange binencLinearSpec)

/-- ITS FALSE NEIGHBOUR: 'it returns false'. Refute it at one input. -/
def binencLinearWrong : ChangeSpec := { name := "binencLinear", fn := fun _ => fun
  | [d1, d2, d3] => { results := [.lit (.bool false)], args := [d1, d2, d3] }
  | _ => none }
def BinencLinearWrongFalsely : Prop := binencLinearRow.holds Try.pinned (OpenSpec.ofChange binencLinearWrong)

/-- 'multikernellaw01.BinencBurst': WHATEVER THE INPUT: true; the input reads as it did. -/
def binencBurstSpec : ChangeSpec := { name := "binencBurst", fn := fun _ => fun
  | [d1, d2, d3] => { results := [.lit (.bool true)], args := [d1, d2, d3] }
  | _ => none }
def binencBurstRow : OpenClaim := { program := "ytajkhijphdnbpaa", sum := "5cbf7e5dabbf547ff5cbfbee3914130e86c497d201dcc5c0e5f80d02ed329a84", func := "multikernel/multikernellaw01.BinencBurst", spec := "binencBurst", apart := false }
def BinencBurstSaid : Prop := binencBurstRow.holds Try.pinned (OpenSpec.ofChange binencBurstSpec)

/-- ITS FALSE NEIGHBOUR: 'it returns false'. Refute it at one input. -/
def binencBurstWrong : ChangeSpec := { name := "binencBurst", fn := fun _ => fun
  | [d1, d2, d3] => { results := [.lit (.bool false)], args := [d1, d2, d3] }
  | _ => none }
def BinencBurstWrongFalsely : Prop := binencBurstRow.holds Try.pinned (OpenSpec.ofChange binencBurstWrong)

/-- 'multikernellaw01.BinencSums': WHATEVER THE INPUT: true; the input reads as it did. -/
def binencSumsSpec : ChangeSpec := { name := "binencSums", fn := fun _ => fun
  | [d1, d2, d3] => { results := [.lit (.bool true)], args := [d1, d2, d3] }
  | _ => none }
def binencSumsRow : OpenClaim := { program := "ytajkhijphdnbpaa", sum := "5cbf7e5dabbf547ff5cbfbee3914130e86c497d201dcc5c0e5f80d02ed329a84", func := "multikernel/multikernellaw01.BinencSums", spec := "binencSums", apart := false }
def BinencSumsSaid : Prop := binencSumsRow.holds Try.pinned (OpenSpec.ofChange binencSumsSpec)

/-- ITS FALSE NEIGHBOUR: 'it returns false'. Refute it at one input. -/
def binencSumsWrong : ChangeSpec := { name := "binencSums", fn := fun _ => fun
  | [d1, d2, d3] => { results := [.lit (.bool false)], args := [d1, d2, d3] }
  | _ => none }
def BinencSumsWrongFalsely : Prop := binencSumsRow.holds Try.pinned (OpenSpec.ofChange binencSumsWrong)

/-- 'multikernellaw01.BinencFixed': WHATEVER THE INPUT: true; the input reads as it did. -/
def binencFixedSpec : ChangeSpec := { name := "binencFixed", fn := fun _ => fun
  | [d1, d2, d3] => { results := [.lit (.bool true)], args := [d1, d2, d3] }
  | _ => none }
def binencFixedRow : OpenClaim := { program := "ytajkhijphdnbpaa", sum := "5cbf7e5dabbf547ff5cbfbee3914130e86c497d201dcc5c0e5f80d02ed329a84", func := "multikernel/multikernellaw01.BinencFixed", spec := "binencFixed", apart := false }
def BinencFixedSaid : Prop := binencFixedRow.holds Try.pinned (OpenSpec.ofChange binencFixedSpec)

/-- ITS FALSE NEIGHBOUR: 'it returns false'. Refute it at one input. -/
def binencFixedWrong : ChangeSpec := { name := "binencFixed", fn := fun _ => fun
  | [d1, d2, d3] => { results := [.lit (.bool false)], args := [d1, d2, d3] }
  | _ => none }
def BinencFixedWrongFalsely : Prop := binencFixedRow.holds Try.pinned (OpenSpec.ofChange binencFixedWrong)

/-- 'multikernellaw01.BinencVariable': WHATEVER THE INPUT: true; the input reads as it did. -/
def binencVariableSpec : ChangeSpec := { name := "binencVariable", fn := fun _ => fun
  | [d1, d2, d3, d4] => { results := [.lit (.bool true)], args := [d1, d2, d3, d4] }
  | _ => none }
def binencVariableRow : OpenClaim := { program := "ytajkhijphdnbpaa", sum := "5cbf7e5dabbf547ff5cbfbee3914130e86c497d201dcc5c0e5f80d02ed329a84", func := "multikernel/multikernellaw01.BinencVariable", spec := "binencVariable", apart := false }
def BinencVariableSaid : Prop := binencVariableRow.holds Try.pinned (OpenSpec.ofChange binencVariableSpec)

/-- ITS FALSE NEIGHBOUR: 'it returns false'. Refute it at one input. -/
def binencVariableWrong : ChangeSpec := { name := "binencVariable", fn := fun _ => fun
  | [d1, d2, d3, d4] => { results := [.lit (.bool false)], args := [d1, d2, d3, d4] }
  | _ => none }
def BinencVariableWrongFalsely : Prop := binencVariableRow.holds Try.pinned (OpenSpec.ofChange binencVariableWrong)

/-- 'multikernellaw01.BinencRoundTrip': WHATEVER THE INPUT: true; the input reads as it did. -/
def binencRoundTripSpec : ChangeSpec := { name := "binencRoundTrip", fn := fun _ => fun
  | [d1, d2, d3, d4, d5] => { results := [.lit (.bool true)], args := [d1, d2, d3, d4, d5] }
  | _ => none }
def binencRoundTripRow : OpenClaim := { program := "ytajkhijphdnbpaa", sum := "5cbf7e5dabbf547ff5cbfbee3914130e86c497d201dcc5c0e5f80d02ed329a84", func := "multikernel/multikernellaw01.BinencRoundTrip", spec := "binencRoundTrip", apart := false }
def BinencRoundTripSaid : Prop := binencRoundTripRow.holds Try.pinned (OpenSpec.ofChange binencRoundTripSpec)

/-- ITS FALSE NEIGHBOUR: 'it returns false'. Refute it at one input. -/
def binencRoundTripWrong : ChangeSpec := { name := "binencRoundTrip", fn := fun _ => fun
  | [d1, d2, d3, d4, d5] => { results := [.lit (.bool false)], args := [d1, d2, d3, d4, d5] }
  | _ => none }
def BinencRoundTripWrongFalsely : Prop := binencRoundTripRow.holds Try.pinned (OpenSpec.ofChange binencRoundTripWrong)

/-- 'multikernellaw01.BinencStrings': WHATEVER THE INPUT: true; the input reads as it did. -/
def binencStringsSpec : ChangeSpec := { name := "binencStrings", fn := fun _ => fun
  | [d1, d2, d3, d4] => { results := [.lit (.bool true)], args := [d1, d2, d3, d4] }
  | _ => none }
def binencStringsRow : OpenClaim := { program := "ytajkhijphdnbpaa", sum := "5cbf7e5dabbf547ff5cbfbee3914130e86c497d201dcc5c0e5f80d02ed329a84", func := "multikernel/multikernellaw01.BinencStrings", spec := "binencStrings", apart := false }
def BinencStringsSaid : Prop := binencStringsRow.holds Try.pinned (OpenSpec.ofChange binencStringsSpec)

/-- ITS FALSE NEIGHBOUR: 'it returns false'. Refute it at one input. -/
def binencStringsWrong : ChangeSpec := { name := "binencStrings", fn := fun _ => fun
  | [d1, d2, d3, d4] => { results := [.lit (.bool false)], args := [d1, d2, d3, d4] }
  | _ => none }
def BinencStringsWrongFalsely : Prop := binencStringsRow.holds Try.pinned (OpenSpec.ofChange binencStringsWrong)

/-- 'multikernellaw01.BinencSequence': WHATEVER THE INPUT: true; the input reads as it did. -/
def binencSequenceSpec : ChangeSpec := { name := "binencSequence", fn := fun _ => fun
  | [d] => { results := [.lit (.bool true)], args := [d] }
  | _ => none }
def binencSequenceRow : OpenClaim := { program := "ytajkhijphdnbpaa", sum := "5cbf7e5dabbf547ff5cbfbee3914130e86c497d201dcc5c0e5f80d02ed329a84", func := "multikernel/multikernellaw01.BinencSequence", spec := "binencSequence", apart := false }
def BinencSequenceSaid : Prop := binencSequenceRow.holds Try.pinned (OpenSpec.ofChange binencSequenceSpec)

/-- ITS FALSE NEIGHBOUR: 'it returns false'. Refute it at one input. -/
def binencSequenceWrong : ChangeSpec := { name := "binencSequence", fn := fun _ => fun
  | [d] => { results := [.lit (.bool false)], args := [d] }
  | _ => none }
def BinencSequenceWrongFalsely : Prop := binencSequenceRow.holds Try.pinned (OpenSpec.ofChange binencSequenceWrong)

/-- 'multikernellaw01.BinencCanonical': WHATEVER THE INPUT: true; the input reads as it did. -/
def binencCanonicalSpec : ChangeSpec := { name := "binencCanonical", fn := fun _ => fun
  | [d1, d2] => { results := [.lit (.bool true)], args := [d1, d2] }
  | _ => none }
def binencCanonicalRow : OpenClaim := { program := "ytajkhijphdnbpaa", sum := "5cbf7e5dabbf547ff5cbfbee3914130e86c497d201dcc5c0e5f80d02ed329a84", func := "multikernel/multikernellaw01.BinencCanonical", spec := "binencCanonical", apart := false }
def BinencCanonicalSaid : Prop := binencCanonicalRow.holds Try.pinned (OpenSpec.ofChange binencCanonicalSpec)

/-- ITS FALSE NEIGHBOUR: 'it returns false'. Refute it at one input. -/
def binencCanonicalWrong : ChangeSpec := { name := "binencCanonical", fn := fun _ => fun
  | [d1, d2] => { results := [.lit (.bool false)], args := [d1, d2] }
  | _ => none }
def BinencCanonicalWrongFalsely : Prop := binencCanonicalRow.holds Try.pinned (OpenSpec.ofChange binencCanonicalWrong)

/- THE SECOND FORM. 'bulk': how many values and letters a reading holds, each counted each time it is reached (what is shared counts as often as it is met; a slice's spare places count too). A statement '..UptoSaid' is the law's where the arguments, and the package variables that the reading takes, are together of bulk at most 1048576: NARROWER than '..Said'. Prove '..Said' where nothing that the law and all that it calls make is longer than what came in: it says more and counts as full. Else prove '..UptoSaid'. A law counts once. -/
mutual
def uptoBulk {H : Type} : DataW H → Nat
  | .lit (.string bytes) => bytes.length + 1
  | .lit _ => 1
  | .nil => 1
  | .ptr d => uptoBulk d + 1
  | .slice elems spare => uptoBulkAll elems + uptoBulkAll spare + 1
  | .agg parts => uptoBulkAll parts + 1
  | .iface _ d => uptoBulk d + 1
  | .map entries => uptoBulkEntries entries + 1
  | .held _ => 1
def uptoBulkAll {H : Type} : List (DataW H) → Nat
  | [] => 0
  | d :: r => uptoBulk d + uptoBulkAll r
def uptoBulkEntries {H : Type} : List (Lit × DataW H) → Nat
  | [] => 0
  | x :: r => uptoBulkEntry x + uptoBulkEntries r
def uptoBulkEntry {H : Type} : Lit × DataW H → Nat
  | (.string bytes, d) => bytes.length + uptoBulk d + 1
  | (_, d) => uptoBulk d + 1
 end
def uptoSmall : (H : Type) → List (DataW H) → Bool := fun _ ds => decide (uptoBulkAll ds ≤ 1048576)
def OpenSpec.upto (s : _root_.Go.ChangeSpec) : _root_.Go.OpenSpec := { _root_.Go.OpenSpec.ofChange s with cond := some uptoSmall }

/-- 'multikernellaw01.BinencChecksums', WHERE WHAT IT READS IS OF BULK AT MOST 1048576: true; the input reads as it did. -/
def binencChecksumsUptoRow : OpenClaim := { program := "ytajkhijphdnbpaa", sum := "5cbf7e5dabbf547ff5cbfbee3914130e86c497d201dcc5c0e5f80d02ed329a84", func := "multikernel/multikernellaw01.BinencChecksums", spec := "binencChecksums", apart := false, narrowed := true }
def BinencChecksumsUptoSaid : Prop := binencChecksumsUptoRow.holds Try.pinned (OpenSpec.upto binencChecksumsSpec)

/-- 'multikernellaw01.BinencLinear', WHERE WHAT IT READS IS OF BULK AT MOST 1048576: true; the input reads as it did. -/
def binencLinearUptoRow : OpenClaim := { program := "ytajkhijphdnbpaa", sum := "5cbf7e5dabbf547ff5cbfbee3914130e86c497d201dcc5c0e5f80d02ed329a84", func := "multikernel/multikernellaw01.BinencLinear", spec := "binencLinear", apart := false, narrowed := true }
def BinencLinearUptoSaid : Prop := binencLinearUptoRow.holds Try.pinned (OpenSpec.upto binencLinearSpec)

/-- 'multikernellaw01.BinencBurst', WHERE WHAT IT READS IS OF BULK AT MOST 1048576: true; the input reads as it did. -/
def binencBurstUptoRow : OpenClaim := { program := "ytajkhijphdnbpaa", sum := "5cbf7e5dabbf547ff5cbfbee3914130e86c497d201dcc5c0e5f80d02ed329a84", func := "multikernel/multikernellaw01.BinencBurst", spec := "binencBurst", apart := false, narrowed := true }
def BinencBurstUptoSaid : Prop := binencBurstUptoRow.holds Try.pinned (OpenSpec.upto binencBurstSpec)

/-- 'multikernellaw01.BinencSums', WHERE WHAT IT READS IS OF BULK AT MOST 1048576: true; the input reads as it did. -/
def binencSumsUptoRow : OpenClaim := { program := "ytajkhijphdnbpaa", sum := "5cbf7e5dabbf547ff5cbfbee3914130e86c497d201dcc5c0e5f80d02ed329a84", func := "multikernel/multikernellaw01.BinencSums", spec := "binencSums", apart := false, narrowed := true }
def BinencSumsUptoSaid : Prop := binencSumsUptoRow.holds Try.pinned (OpenSpec.upto binencSumsSpec)

/-- 'multikernellaw01.BinencFixed', WHERE WHAT IT READS IS OF BULK AT MOST 1048576: true; the input reads as it did. -/
def binencFixedUptoRow : OpenClaim := { program := "ytajkhijphdnbpaa", sum := "5cbf7e5dabbf547ff5cbfbee3914130e86c497d201dcc5c0e5f80d02ed329a84", func := "multikernel/multikernellaw01.BinencFixed", spec := "binencFixed", apart := false, narrowed := true }
def BinencFixedUptoSaid : Prop := binencFixedUptoRow.holds Try.pinned (OpenSpec.upto binencFixedSpec)

/-- 'multikernellaw01.BinencVariable', WHERE WHAT IT READS IS OF BULK AT MOST 1048576: true; the input reads as it did. -/
def binencVariableUptoRow : OpenClaim := { program := "ytajkhijphdnbpaa", sum := "5cbf7e5dabbf547ff5cbfbee3914130e86c497d201dcc5c0e5f80d02ed329a84", func := "multikernel/multikernellaw01.BinencVariable", spec := "binencVariable", apart := false, narrowed := true }
def BinencVariableUptoSaid : Prop := binencVariableUptoRow.holds Try.pinned (OpenSpec.upto binencVariableSpec)

/-- 'multikernellaw01.BinencRoundTrip', WHERE WHAT IT READS IS OF BULK AT MOST 1048576: true; the input reads as it did. -/
def binencRoundTripUptoRow : OpenClaim := { program := "ytajkhijphdnbpaa", sum := "5cbf7e5dabbf547ff5cbfbee3914130e86c497d201dcc5c0e5f80d02ed329a84", func := "multikernel/multikernellaw01.BinencRoundTrip", spec := "binencRoundTrip", apart := false, narrowed := true }
def BinencRoundTripUptoSaid : Prop := binencRoundTripUptoRow.holds Try.pinned (OpenSpec.upto binencRoundTripSpec)

/-- 'multikernellaw01.BinencStrings', WHERE WHAT IT READS IS OF BULK AT MOST 1048576: true; the input reads as it did. -/
def binencStringsUptoRow : OpenClaim := { program := "ytajkhijphdnbpaa", sum := "5cbf7e5dabbf547ff5cbfbee3914130e86c497d201dcc5c0e5f80d02ed329a84", func := "multikernel/multikernellaw01.BinencStrings", spec := "binencStrings", apart := false, narrowed := true }
def BinencStringsUptoSaid : Prop := binencStringsUptoRow.holds Try.pinned (OpenSpec.upto binencStringsSpec)

/-- 'multikernellaw01.BinencSequence', WHERE WHAT IT READS IS OF BULK AT MOST 1048576: true; the input reads as it did. -/
def binencSequenceUptoRow : OpenClaim := { program := "ytajkhijphdnbpaa", sum := "5cbf7e5dabbf547ff5cbfbee3914130e86c497d201dcc5c0e5f80d02ed329a84", func := "multikernel/multikernellaw01.BinencSequence", spec := "binencSequence", apart := false, narrowed := true }
def BinencSequenceUptoSaid : Prop := binencSequenceUptoRow.holds Try.pinned (OpenSpec.upto binencSequenceSpec)

/-- 'multikernellaw01.BinencCanonical', WHERE WHAT IT READS IS OF BULK AT MOST 1048576: true; the input reads as it did. -/
def binencCanonicalUptoRow : OpenClaim := { program := "ytajkhijphdnbpaa", sum := "5cbf7e5dabbf547ff5cbfbee3914130e86c497d201dcc5c0e5f80d02ed329a84", func := "multikernel/multikernellaw01.BinencCanonical", spec := "binencCanonical", apart := false, narrowed := true }
def BinencCanonicalUptoSaid : Prop := binencCanonicalUptoRow.holds Try.pinned (OpenSpec.upto binencCanonicalSpec)

end Rows
end Go.Proofs.Ytajkhijphdnbpaa
