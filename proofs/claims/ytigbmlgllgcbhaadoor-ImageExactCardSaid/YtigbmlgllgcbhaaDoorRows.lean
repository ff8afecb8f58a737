/-
  NARROWER THAN 'FOR EVERY INPUT', by the rows' own cells (each row's printed sentence says how): ImageRoundTrip: laid · ImageLayout: laid · ImageDamaged: laid · ImageHeader: laid · ImageRefused: laid · ImageExact: laid · ImageFind: laid.
  DERIVED. THE GIVEN ROWS OF THIS SEAT. 7 by the template 'for every input the law returns true; each argument reads behind the call as it read before'; 0 by the template 'total and deterministic' (their statements: YtigbmlgllgcbhaaDoorTotals.lean).
  GIVEN WITH THE SEED: the statements are not yours to turn. If you find one false, say at which input.
  Laid BY PROGRAM, IN A SANDBOX (cutbox-rows.mjs): the forced cells as the released guide's own fill.sh prints them over the translation d6523ddec42c11a6… (all of the seat's roots in one cut). By AI agents, Wed Nov 11 2026. No macro, syntax, notation, axiom, sorry.
-/
import Derived.Test.YtigbmlgllgcbhaaDoorChecked
import GoSem.PinnedTables
import GoSem.Claim
import GoSem.ClaimJoined
import GoSem.ClaimMapViews
import Derived.JoinedTies
import Derived.KernelRfl
namespace Go.Proofs.YtigbmlgllgcbhaaDoor
/- THE CELL 'sum', in the pinned program and in every row, IS THE sha256 OF THE DUMP (.gsa) THAT YtigbmlgllgcbhaaDoorProg.lean LOADS. Nothing in Lean hashes anything: it is a label: what it is worth is what the hold of that sum in a sandbox is worth. -/
noncomputable def Tryd.pinned : Pinned := { name := "ytigbmlgllgcbhaadoor", sum := "d6523ddec42c11a6d6ae60b3892ee1d1e835dc43e26ea335d4df26a96a419e4f", checked := Tryd.checked }
namespace Rows
def none {H : Type} : Left H := { results := [], args := [] }

/- WHAT THE LISTED PACKAGE-LEVEL VARIABLES READ AS WHEN THE CALL BEGINS. Each datum BY PROGRAM (the guide's laid-datum.mjs) off the statement by which the dump's own 'gosem.cut.vars' lays the variable. In a bare row this is a premise. The card (YtigbmlgllgcbhaaDoorCards.lean) ties it to the program's text. -/
def laid_unicode_utf8_acceptRanges {H : Type} : DataW H := .agg [.agg [.lit (.int .u8 128), .lit (.int .u8 191)], .agg [.lit (.int .u8 160), .lit (.int .u8 191)], .agg [.lit (.int .u8 128), .lit (.int .u8 159)], .agg [.lit (.int .u8 144), .lit (.int .u8 191)], .agg [.lit (.int .u8 128), .lit (.int .u8 143)], .agg [.lit (.int .u8 0), .lit (.int .u8 0)], .agg [.lit (.int .u8 0), .lit (.int .u8 0)], .agg [.lit (.int .u8 0), .lit (.int .u8 0)], .agg [.lit (.int .u8 0), .lit (.int .u8 0)], .agg [.lit (.int .u8 0), .lit (.int .u8 0)], .agg [.lit (.int .u8 0), .lit (.int .u8 0)], .agg [.lit (.int .u8 0), .lit (.int .u8 0)], .agg [.lit (.int .u8 0), .lit (.int .u8 0)], .agg [.lit (.int .u8 0), .lit (.int .u8 0)], .agg [.lit (.int .u8 0), .lit (.int .u8 0)], .agg [.lit (.int .u8 0), .lit (.int .u8 0)]]
/-- One of Go's own tables, pinned by name: the form's constant. -/
def laid_unicode_utf8_first : DataW Unit := Go.Pinned.utf8First

/-- 'multikernellaw08.ImageRoundTrip': WHATEVER THE INPUT: true; the input reads as it did. -/
def imageRoundTripSpec : ChangeSpec := { name := "imageRoundTrip", fn := fun _ => fun
  | [d1, d2] => { results := [.lit (.bool true)], args := [d1, d2] }
  | _ => none }
def imageRoundTripRow : OpenClaim := { program := "ytigbmlgllgcbhaadoor", sum := "d6523ddec42c11a6d6ae60b3892ee1d1e835dc43e26ea335d4df26a96a419e4f", func := "multikernel/multikernellaw08.ImageRoundTrip", spec := "imageRoundTrip", inPlace := ["internal/bytealg.IndexByteString", "internal/bytealg.IndexString"], unfollowed := true, recurses := true, named := ["unicode/utf8.first", "unicode/utf8.acceptRanges", "internal/bytealg.MaxLen"], apart := false, laid := [("unicode/utf8.acceptRanges", laid_unicode_utf8_acceptRanges), ("unicode/utf8.first", laid_unicode_utf8_first)] }
def ImageRoundTripSaid : Prop := imageRoundTripRow.holds Tryd.pinned (OpenSpec.ofChange imageRoundTripSpec)

/-- ITS FALSE NEIGHBOUR: 'it returns false'. Refute it at one input. -/
def imageRoundTripWrong : ChangeSpec := { name := "imageRoundTrip", fn := fun _ => fun
  | [d1, d2] => { results := [.lit (.bool false)], args := [d1, d2] }
  | _ => none }
def ImageRoundTripWrongFalsely : Prop := imageRoundTripRow.holds Tryd.pinned (OpenSpec.ofChange imageRoundTripWrong)

/-- 'multikernellaw08.ImageLayout': WHATEVER THE INPUT: true; the input reads as it did. -/
def imageLayoutSpec : ChangeSpec := { name := "imageLayout", fn := fun _ => fun
  | [d] => { results := [.lit (.bool true)], args := [d] }
  | _ => none }
def imageLayoutRow : OpenClaim := { program := "ytigbmlgllgcbhaadoor", sum := "d6523ddec42c11a6d6ae60b3892ee1d1e835dc43e26ea335d4df26a96a419e4f", func := "multikernel/multikernellaw08.ImageLayout", spec := "imageLayout", inPlace := ["internal/bytealg.IndexByteString", "internal/bytealg.IndexString"], unfollowed := true, recurses := true, named := ["unicode/utf8.first", "unicode/utf8.acceptRanges", "internal/bytealg.MaxLen"], apart := false, laid := [("unicode/utf8.acceptRanges", laid_unicode_utf8_acceptRanges), ("unicode/utf8.first", laid_unicode_utf8_first)] }
def ImageLayoutSaid : Prop := imageLayoutRow.holds Tryd.pinned (OpenSpec.ofChange imageLayoutSpec)

/-- ITS FALSE NEIGHBOUR: 'it returns false'. Refute it at one input. -/
def imageLayoutWrong : ChangeSpec := { name := "imageLayout", fn := fun _ => fun
  | [d] => { results := [.lit (.bool false)], args := [d] }
  | _ => none }
def ImageLayoutWrongFalsely : Prop := imageLayoutRow.holds Tryd.pinned (OpenSpec.ofChange imageLayoutWrong)

/-- 'multikernellaw08.ImageDamaged': WHATEVER THE INPUT: true; the input reads as it did. -/
def imageDamagedSpec : ChangeSpec := { name := "imageDamaged", fn := fun _ => fun
  | [d1, d2, d3, d4, d5] => { results := [.lit (.bool true)], args := [d1, d2, d3, d4, d5] }
  | _ => none }
def imageDamagedRow : OpenClaim := { program := "ytigbmlgllgcbhaadoor", sum := "d6523ddec42c11a6d6ae60b3892ee1d1e835dc43e26ea335d4df26a96a419e4f", func := "multikernel/multikernellaw08.ImageDamaged", spec := "imageDamaged", inPlace := ["internal/bytealg.IndexByteString", "internal/bytealg.IndexString"], unfollowed := true, recurses := true, named := ["unicode/utf8.first", "unicode/utf8.acceptRanges", "internal/bytealg.MaxLen"], apart := false, laid := [("unicode/utf8.acceptRanges", laid_unicode_utf8_acceptRanges), ("unicode/utf8.first", laid_unicode_utf8_first)] }
def ImageDamagedSaid : Prop := imageDamagedRow.holds Tryd.pinned (OpenSpec.ofChange imageDamagedSpec)

/-- ITS FALSE NEIGHBOUR: 'it returns false'. Refute it at one input. -/
def imageDamagedWrong : ChangeSpec := { name := "imageDamaged", fn := fun _ => fun
  | [d1, d2, d3, d4, d5] => { results := [.lit (.bool false)], args := [d1, d2, d3, d4, d5] }
  | _ => none }
def ImageDamagedWrongFalsely : Prop := imageDamagedRow.holds Tryd.pinned (OpenSpec.ofChange imageDamagedWrong)

/-- 'multikernellaw08.ImageHeader': WHATEVER THE INPUT: true; the input reads as it did. -/
def imageHeaderSpec : ChangeSpec := { name := "imageHeader", fn := fun _ => fun
  | [d1, d2, d3] => { results := [.lit (.bool true)], args := [d1, d2, d3] }
  | _ => none }
def imageHeaderRow : OpenClaim := { program := "ytigbmlgllgcbhaadoor", sum := "d6523ddec42c11a6d6ae60b3892ee1d1e835dc43e26ea335d4df26a96a419e4f", func := "multikernel/multikernellaw08.ImageHeader", spec := "imageHeader", inPlace := ["internal/bytealg.IndexByteString", "internal/bytealg.IndexString"], unfollowed := true, recurses := true, named := ["unicode/utf8.first", "unicode/utf8.acceptRanges", "internal/bytealg.MaxLen"], apart := false, laid := [("unicode/utf8.acceptRanges", laid_unicode_utf8_acceptRanges), ("unicode/utf8.first", laid_unicode_utf8_first)] }
def ImageHeaderSaid : Prop := imageHeaderRow.holds Tryd.pinned (OpenSpec.ofChange imageHeaderSpec)

/-- ITS FALSE NEIGHBOUR: 'it returns false'. Refute it at one input. -/
def imageHeaderWrong : ChangeSpec := { name := "imageHeader", fn := fun _ => fun
  | [d1, d2, d3] => { results := [.lit (.bool false)], args := [d1, d2, d3] }
  | _ => none }
def ImageHeaderWrongFalsely : Prop := imageHeaderRow.holds Tryd.pinned (OpenSpec.ofChange imageHeaderWrong)

/-- 'multikernellaw08.ImageRefused': WHATEVER THE INPUT: true; the input reads as it did. -/
def imageRefusedSpec : ChangeSpec := { name := "imageRefused", fn := fun _ => fun
  | [d1, d2] => { results := [.lit (.bool true)], args := [d1, d2] }
  | _ => none }
def imageRefusedRow : OpenClaim := { program := "ytigbmlgllgcbhaadoor", sum := "d6523ddec42c11a6d6ae60b3892ee1d1e835dc43e26ea335d4df26a96a419e4f", func := "multikernel/multikernellaw08.ImageRefused", spec := "imageRefused", inPlace := ["internal/bytealg.IndexByteString", "internal/bytealg.IndexString"], unfollowed := true, recurses := true, named := ["unicode/utf8.first", "unicode/utf8.acceptRanges", "internal/bytealg.MaxLen"], apart := false, laid := [("unicode/utf8.acceptRanges", laid_unicode_utf8_acceptRanges), ("unicode/utf8.first", laid_unicode_utf8_first)] }
def ImageRefusedSaid : Prop := imageRefusedRow.holds Tryd.pinned (OpenSpec.ofChange imageRefusedSpec)

/-- ITS FALSE NEIGHBOUR: 'it returns false'. Refute it at one input. -/
def imageRefusedWrong : ChangeSpec := { name := "imageRefused", fn := fun _ => fun
  | [d1, d2] => { results := [.lit (.bool false)], args := [d1, d2] }
  | _ => none }
def ImageRefusedWrongFalsely : Prop := imageRefusedRow.holds Tryd.pinned (OpenSpec.ofChange imageRefusedWrong)

/-- 'multikernellaw08.ImageExact': WHATEVER THE INPUT: true; the input reads as it did. -/
def imageExactSpec : ChangeSpec := { name := "imageExact", fn := fun _ => fun
  | [d1, d2, d3, d4] => { results := [.lit (.bool true)], args := [d1, d2, d3, d4] }
  | _ => none }
def imageExactRow : OpenClaim := { program := "ytigbmlgllgcbhaadoor", sum := "d6523ddec42c11a6d6ae60b3892ee1d1e835dc43e26ea335d4df26a96a419e4f", func := "multikernel/multikernellaw08.ImageExact", spec := "imageExact", inPlace := ["internal/bytealg.IndexByteString", "internal/bytealg.IndexString"], unfollowed := true, recurses := true, named := ["unicode/utf8.first", "unicode/utf8.acceptRanges", "internal/bytealg.MaxLen"], apart := false, laid := [("unicode/utf8.acceptRanges", laid_unicode_utf8_acceptRanges), ("unicode/utf8.first", laid_unicode_utf8_first)] }
def ImageExactSaid : Prop := imageExactRow.holds Tryd.pinned (OpenSpec.ofChange imageExactSpec)

/-- ITS FALSE NEIGHBOUR: 'it returns false'. Refute it at one input. -/
def imageExactWrong : ChangeSpec := { name := "imageExact", fn := fun _ => fun
  | [d1, d2, d3, d4] => { results := [.lit (.bool false)], args := [d1, d2, d3, d4] }
  | _ => none }
def ImageExactWrongFalsely : Prop := imageExactRow.holds Tryd.pinned (OpenSpec.ofChange imageExactWrong)

/-- 'multikernellaw08.ImageFind': WHATEVER THE INPUT: true; the input reads as it did. -/
def imageFindSpec : ChangeSpec := { name := "imageFind", fn := fun _ => fun
  | [d1, d2, d3] => { results := [.lit (.bool true)], args := [d1, d2, d3] }
  | _ => none }
def imageFindRow : OpenClaim := { program := "ytigbmlgllgcbhaadoor", sum := "d6523ddec42c11a6d6ae60b3892ee1d1e835dc43e26ea335d4df26a96a419e4f", func := "multikernel/multikernellaw08.ImageFind", spec := "imageFind", inPlace := ["internal/bytealg.IndexByteString", "internal/bytealg.IndexString"], unfollowed := true, recurses := true, named := ["unicode/utf8.first", "unicode/utf8.acceptRanges", "internal/bytealg.MaxLen"], apart := false, laid := [("unicode/utf8.acceptRanges", laid_unicode_utf8_acceptRanges), ("unicode/utf8.first", laid_unicode_utf8_first)] }
def ImageFindSaid : Prop := imageFindRow.holds Tryd.pinned (OpenSpec.ofChange imageFindSpec)

/-- ITS FALSE NEIGHBOUR: 'it returns false'. Refute it at one input. -/
def imageFindWrong : ChangeSpec := { name := "imageFind", fn := fun _ => fun
  | [d1, d2, d3] => { results := [.lit (.bool false)], args := [d1, d2, d3] }
  | _ => none }
def ImageFindWrongFalsely : Prop := imageFindRow.holds Tryd.pinned (OpenSpec.ofChange imageFindWrong)

/- THE SECOND FORM. 'bulk': how many values and letters a reading holds, each counted each time it is reached (what is shared counts as often as it is met; a slice's spare places count too). A statement '..UptoSaid' is the law's where the arguments, and the package variables that the reading takes, are together of bulk at most 1048576: NARROWER than '..Said'. Prove '..Said' where nothing that the law and all that it calls make is longer than what came in: it says more and counts as full. Else prove '..UptoSaid'. A law counts once. -/
mutual
def uptoBulk {H : Type} : DataW H → Nat
  | .lit (.string bytes) => bytes.length + 1
  | .lit _ => 1
  | .nil => 1
  | .ptr d => uptoBulk d + 1
  | .slice elems spare => uptoBulkAll elems + uptoBulkAll spare + 1
  | .agg parts => uptoBulkAll parts + 1
  | .iface _ d => uptoBulk d + 1
  | .map entries => uptoBulkEntries entries + 1
  | .held _ => 1
def uptoBulkAll {H : Type} : List (DataW H) → Nat
  | [] => 0
  | d :: r => uptoBulk d + uptoBulkAll r
def uptoBulkEntries {H : Type} : List (Lit × DataW H) → Nat
  | [] => 0
  | x :: r => uptoBulkEntry x + uptoBulkEntries r
def uptoBulkEntry {H : Type} : Lit × DataW H → Nat
  | (.string bytes, d) => bytes.length + uptoBulk d + 1
  | (_, d) => uptoBulk d + 1
 end
def uptoSmall : (H : Type) → List (DataW H) → Bool := fun _ ds => decide (uptoBulkAll ds ≤ 1048576)
def OpenSpec.upto (s : _root_.Go.ChangeSpec) : _root_.Go.OpenSpec := { _root_.Go.OpenSpec.ofChange s with cond := some uptoSmall }

/-- 'multikernellaw08.ImageRoundTrip', WHERE WHAT IT READS IS OF BULK AT MOST 1048576: true; the input reads as it did. -/
def imageRoundTripUptoRow : OpenClaim := { program := "ytigbmlgllgcbhaadoor", sum := "d6523ddec42c11a6d6ae60b3892ee1d1e835dc43e26ea335d4df26a96a419e4f", func := "multikernel/multikernellaw08.ImageRoundTrip", spec := "imageRoundTrip", inPlace := ["internal/bytealg.IndexByteString", "internal/bytealg.IndexString"], unfollowed := true, recurses := true, named := ["unicode/utf8.first", "unicode/utf8.acceptRanges", "internal/bytealg.MaxLen"], apart := false, laid := [("unicode/utf8.acceptRanges", laid_unicode_utf8_acceptRanges), ("unicode/utf8.first", laid_unicode_utf8_first)], narrowed := true }
def ImageRoundTripUptoSaid : Prop := imageRoundTripUptoRow.holds Tryd.pinned (OpenSpec.upto imageRoundTripSpec)

/-- 'multikernellaw08.ImageLayout', WHERE WHAT IT READS IS OF BULK AT MOST 1048576: true; the input reads as it did. -/
def imageLayoutUptoRow : OpenClaim := { program := "ytigbmlgllgcbhaadoor", sum := "d6523ddec42c11a6d6ae60b3892ee1d1e835dc43e26ea335d4df26a96a419e4f", func := "multikernel/multikernellaw08.ImageLayout", spec := "imageLayout", inPlace := ["internal/bytealg.IndexByteString", "internal/bytealg.IndexString"], unfollowed := true, recurses := true, named := ["unicode/utf8.first", "unicode/utf8.acceptRanges", "internal/bytealg.MaxLen"], apart := false, laid := [("unicode/utf8.acceptRanges", laid_unicode_utf8_acceptRanges), ("unicode/utf8.first", laid_unicode_utf8_first)], narrowed := true }
def ImageLayoutUptoSaid : Prop := imageLayoutUptoRow.holds Tryd.pinned (OpenSpec.upto imageLayoutSpec)

/-- 'multikernellaw08.ImageDamaged', WHERE WHAT IT READS IS OF BULK AT MOST 1048576: true; the input reads as it did. -/
def imageDamagedUptoRow : OpenClaim := { program := "ytigbmlgllgcbhaadoor", sum := "d6523ddec42c11a6d6ae60b3892ee1d1e835dc43e26ea335d4df26a96a419e4f", func := "multikernel/multikernellaw08.ImageDamaged", spec := "imageDamaged", inPlace := ["internal/bytealg.IndexByteString", "internal/bytealg.IndexString"], unfollowed := true, recurses := true, named := ["unicode/utf8.first", "unicode/utf8.acceptRanges", "internal/bytealg.MaxLen"], apart := false, laid := [("unicode/utf8.acceptRanges", laid_unicode_utf8_acceptRanges), ("unicode/utf8.first", laid_unicode_utf8_first)], narrowed := true }
def ImageDamagedUptoSaid : Prop := imageDamagedUptoRow.holds Tryd.pinned (OpenSpec.upto imageDamagedSpec)

/-- 'multikernellaw08.ImageHeader', WHERE WHAT IT READS IS OF BULK AT MOST 1048576: true; the input reads as it did. -/
def imageHeaderUptoRow : OpenClaim := { program := "ytigbmlgllgcbhaadoor", sum := "d6523ddec42c11a6d6ae60b3892ee1d1e835dc43e26ea335d4df26a96a419e4f", func := "multikernel/multikernellaw08.ImageHeader", spec := "imageHeader", inPlace := ["internal/bytealg.IndexByteString", "internal/bytealg.IndexString"], unfollowed := true, recurses := true, named := ["unicode/utf8.first", "unicode/utf8.acceptRanges", "internal/bytealg.MaxLen"], apart := false, laid := [("unicode/utf8.acceptRanges", laid_unicode_utf8_acceptRanges), ("unicode/utf8.first", laid_unicode_utf8_first)], narrowed := true }
def ImageHeaderUptoSaid : Prop := imageHeaderUptoRow.holds Tryd.pinned (OpenSpec.upto imageHeaderSpec)

/-- 'multikernellaw08.ImageRefused', WHERE WHAT IT READS IS OF BULK AT MOST 1048576: true; the input reads as it did. -/
def imageRefusedUptoRow : OpenClaim := { program := "ytigbmlgllgcbhaadoor", sum := "d6523ddec42c11a6d6ae60b3892ee1d1e835dc43e26ea335d4df26a96a419e4f", func := "multikernel/multikernellaw08.ImageRefused", spec := "imageRefused", inPlace := ["internal/bytealg.IndexByteString", "internal/bytealg.IndexString"], unfollowed := true, recurses := true, named := ["unicode/utf8.first", "unicode/utf8.acceptRanges", "internal/bytealg.MaxLen"], apart := false, laid := [("unicode/utf8.acceptRanges", laid_unicode_utf8_acceptRanges), ("unicode/utf8.first", laid_unicode_utf8_first)], narrowed := true }
def ImageRefusedUptoSaid : Prop := imageRefusedUptoRow.holds Tryd.pinned (OpenSpec.upto imageRefusedSpec)

/-- 'multikernellaw08.ImageExact', WHERE WHAT IT READS IS OF BULK AT MOST 1048576: true; the input reads as it did. -/
def imageExactUptoRow : OpenClaim := { program := "ytigbmlgllgcbhaadoor", sum := "d6523ddec42c11a6d6ae60b3892ee1d1e835dc43e26ea335d4df26a96a419e4f", func := "multikernel/multikernellaw08.ImageExact", spec := "imageExact", inPlace := ["internal/bytealg.IndexByteString", "internal/bytealg.IndexString"], unfollowed := true, recurses := true, named := ["unicode/utf8.first", "unicode/utf8.acceptRanges", "internal/bytealg.MaxLen"], apart := false, laid := [("unicode/utf8.acceptRanges", laid_unicode_utf8_acceptRanges), ("unicode/utf8.first", laid_unicode_utf8_first)], narrowed := true }
def ImageExactUptoSaid : Prop := imageExactUptoRow.holds Tryd.pinned (OpenSpec.upto imageExactSpec)

/-- 'multikernellaw08.ImageFind', WHERE WHAT IT READS IS OF BULK AT MOST 1048576: true; the input reads as it did. -/
def imageFindUptoRow : OpenClaim := { program := "ytigbmlgllgcbhaadoor", sum := "d6523ddec42c11a6d6ae60b3892ee1d1e835dc43e26ea335d4df26a96a419e4f", func := "multikernel/multikernellaw08.ImageFind", spec := "imageFind", inPlace := ["internal/bytealg.IndexByteString", "internal/bytealg.IndexString"], unfollowed := true, recurses := true, named := ["unicode/utf8.first", "unicode/utf8.acceptRanges", "internal/bytealg.MaxLen"], apart := false, laid := [("unicode/utf8.acceptRanges", laid_unicode_utf8_acceptRanges), ("unicode/utf8.first", laid_unicode_utf8_first)], narrowed := true }
def ImageFindUptoSaid : Prop := imageFindUptoRow.holds Tryd.pinned (OpenSpec.upto imageFindSpec)

end Rows
end Go.Proofs.YtigbmlgllgcbhaaDoor
