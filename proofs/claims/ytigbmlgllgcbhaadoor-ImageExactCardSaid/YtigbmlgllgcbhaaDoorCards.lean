/-
  DERIVED. GIVEN WITH THE SEED: THE CARDS: each row of YtigbmlgllgcbhaaDoorRows.lean that lists a variable, with what it lists TIED to the program's text (the seventh form; the later family's looks); each row that meets fmt, with fmt's text TOLD by the authors' own Lean function (tested against real Go, not proved from fmt's source: count such statements apart). THE CARD IS WHAT COUNTS. Prove the row's statement (the work); the ties are given (YtigbmlgllgcbhaaDoorTie.lean); close each card by the builder's one call (the guide's Derived/Test/ToyasCard.lean, 'card_holds'). Laid BY PROGRAM, IN A SANDBOX (cutbox-door.mjs). By AI agents, Wed Nov 11 2026. No macro, syntax, notation, axiom, sorry.
-/
import Derived.Test.YtigbmlgllgcbhaaDoorRows
import GoSem.ClaimSeven
namespace Go.Proofs.YtigbmlgllgcbhaaDoor
namespace Rows

/-- THE TIED CARD OF 'multikernellaw08.ImageRoundTrip'. -/
def imageRoundTripCard : Claim7 := { stood := { row := imageRoundTripRow, standIns := [], harness := (true, "d4f8ddd5f99026f0cffba4e6092d318181eeb26a8bb450dbffee74ba40705dd5"), looks := false }, kinds := [], alts := [], laidByText := true, laidKinds := [.data, .pinned], laidTests := true, laidLooks := .later }
def ImageRoundTripCardSaid : Prop := Claim7.holds Tryd.pinned (.plain (OpenSpec.ofChange imageRoundTripSpec)) imageRoundTripCard

/-- THE TIED CARD OF 'multikernellaw08.ImageLayout'. -/
def imageLayoutCard : Claim7 := { stood := { row := imageLayoutRow, standIns := [], harness := (true, "d4f8ddd5f99026f0cffba4e6092d318181eeb26a8bb450dbffee74ba40705dd5"), looks := false }, kinds := [], alts := [], laidByText := true, laidKinds := [.data, .pinned], laidTests := true, laidLooks := .later }
def ImageLayoutCardSaid : Prop := Claim7.holds Tryd.pinned (.plain (OpenSpec.ofChange imageLayoutSpec)) imageLayoutCard

/-- THE TIED CARD OF 'multikernellaw08.ImageDamaged'. -/
def imageDamagedCard : Claim7 := { stood := { row := imageDamagedRow, standIns := [], harness := (true, "d4f8ddd5f99026f0cffba4e6092d318181eeb26a8bb450dbffee74ba40705dd5"), looks := false }, kinds := [], alts := [], laidByText := true, laidKinds := [.data, .pinned], laidTests := true, laidLooks := .later }
def ImageDamagedCardSaid : Prop := Claim7.holds Tryd.pinned (.plain (OpenSpec.ofChange imageDamagedSpec)) imageDamagedCard

/-- THE TIED CARD OF 'multikernellaw08.ImageHeader'. -/
def imageHeaderCard : Claim7 := { stood := { row := imageHeaderRow, standIns := [], harness := (true, "d4f8ddd5f99026f0cffba4e6092d318181eeb26a8bb450dbffee74ba40705dd5"), looks := false }, kinds := [], alts := [], laidByText := true, laidKinds := [.data, .pinned], laidTests := true, laidLooks := .later }
def ImageHeaderCardSaid : Prop := Claim7.holds Tryd.pinned (.plain (OpenSpec.ofChange imageHeaderSpec)) imageHeaderCard

/-- THE TIED CARD OF 'multikernellaw08.ImageRefused'. -/
def imageRefusedCard : Claim7 := { stood := { row := imageRefusedRow, standIns := [], harness := (true, "d4f8ddd5f99026f0cffba4e6092d318181eeb26a8bb450dbffee74ba40705dd5"), looks := false }, kinds := [], alts := [], laidByText := true, laidKinds := [.data, .pinned], laidTests := true, laidLooks := .later }
def ImageRefusedCardSaid : Prop := Claim7.holds Tryd.pinned (.plain (OpenSpec.ofChange imageRefusedSpec)) imageRefusedCard

/-- THE TIED CARD OF 'multikernellaw08.ImageExact'. -/
def imageExactCard : Claim7 := { stood := { row := imageExactRow, standIns := [], harness := (true, "d4f8ddd5f99026f0cffba4e6092d318181eeb26a8bb450dbffee74ba40705dd5"), looks := false }, kinds := [], alts := [], laidByText := true, laidKinds := [.data, .pinned], laidTests := true, laidLooks := .later }
def ImageExactCardSaid : Prop := Claim7.holds Tryd.pinned (.plain (OpenSpec.ofChange imageExactSpec)) imageExactCard

/-- THE TIED CARD OF 'multikernellaw08.ImageFind'. -/
def imageFindCard : Claim7 := { stood := { row := imageFindRow, standIns := [], harness := (true, "d4f8ddd5f99026f0cffba4e6092d318181eeb26a8bb450dbffee74ba40705dd5"), looks := false }, kinds := [], alts := [], laidByText := true, laidKinds := [.data, .pinned], laidTests := true, laidLooks := .later }
def ImageFindCardSaid : Prop := Claim7.holds Tryd.pinned (.plain (OpenSpec.ofChange imageFindSpec)) imageFindCard

/-- THE SECOND FORM's CARD OF 'multikernellaw08.ImageRoundTrip'. -/
def imageRoundTripUptoCard : Claim7 := { stood := { row := imageRoundTripUptoRow, standIns := [], harness := (true, "d4f8ddd5f99026f0cffba4e6092d318181eeb26a8bb450dbffee74ba40705dd5"), looks := false }, kinds := [], alts := [], laidByText := true, laidKinds := [.data, .pinned], laidTests := true, laidLooks := .later }
def ImageRoundTripUptoCardSaid : Prop := Claim7.holds Tryd.pinned (.plain (OpenSpec.upto imageRoundTripSpec)) imageRoundTripUptoCard

/-- THE SECOND FORM's CARD OF 'multikernellaw08.ImageLayout'. -/
def imageLayoutUptoCard : Claim7 := { stood := { row := imageLayoutUptoRow, standIns := [], harness := (true, "d4f8ddd5f99026f0cffba4e6092d318181eeb26a8bb450dbffee74ba40705dd5"), looks := false }, kinds := [], alts := [], laidByText := true, laidKinds := [.data, .pinned], laidTests := true, laidLooks := .later }
def ImageLayoutUptoCardSaid : Prop := Claim7.holds Tryd.pinned (.plain (OpenSpec.upto imageLayoutSpec)) imageLayoutUptoCard

/-- THE SECOND FORM's CARD OF 'multikernellaw08.ImageDamaged'. -/
def imageDamagedUptoCard : Claim7 := { stood := { row := imageDamagedUptoRow, standIns := [], harness := (true, "d4f8ddd5f99026f0cffba4e6092d318181eeb26a8bb450dbffee74ba40705dd5"), looks := false }, kinds := [], alts := [], laidByText := true, laidKinds := [.data, .pinned], laidTests := true, laidLooks := .later }
def ImageDamagedUptoCardSaid : Prop := Claim7.holds Tryd.pinned (.plain (OpenSpec.upto imageDamagedSpec)) imageDamagedUptoCard

/-- THE SECOND FORM's CARD OF 'multikernellaw08.ImageHeader'. -/
def imageHeaderUptoCard : Claim7 := { stood := { row := imageHeaderUptoRow, standIns := [], harness := (true, "d4f8ddd5f99026f0cffba4e6092d318181eeb26a8bb450dbffee74ba40705dd5"), looks := false }, kinds := [], alts := [], laidByText := true, laidKinds := [.data, .pinned], laidTests := true, laidLooks := .later }
def ImageHeaderUptoCardSaid : Prop := Claim7.holds Tryd.pinned (.plain (OpenSpec.upto imageHeaderSpec)) imageHeaderUptoCard

/-- THE SECOND FORM's CARD OF 'multikernellaw08.ImageRefused'. -/
def imageRefusedUptoCard : Claim7 := { stood := { row := imageRefusedUptoRow, standIns := [], harness := (true, "d4f8ddd5f99026f0cffba4e6092d318181eeb26a8bb450dbffee74ba40705dd5"), looks := false }, kinds := [], alts := [], laidByText := true, laidKinds := [.data, .pinned], laidTests := true, laidLooks := .later }
def ImageRefusedUptoCardSaid : Prop := Claim7.holds Tryd.pinned (.plain (OpenSpec.upto imageRefusedSpec)) imageRefusedUptoCard

/-- THE SECOND FORM's CARD OF 'multikernellaw08.ImageExact'. -/
def imageExactUptoCard : Claim7 := { stood := { row := imageExactUptoRow, standIns := [], harness := (true, "d4f8ddd5f99026f0cffba4e6092d318181eeb26a8bb450dbffee74ba40705dd5"), looks := false }, kinds := [], alts := [], laidByText := true, laidKinds := [.data, .pinned], laidTests := true, laidLooks := .later }
def ImageExactUptoCardSaid : Prop := Claim7.holds Tryd.pinned (.plain (OpenSpec.upto imageExactSpec)) imageExactUptoCard

/-- THE SECOND FORM's CARD OF 'multikernellaw08.ImageFind'. -/
def imageFindUptoCard : Claim7 := { stood := { row := imageFindUptoRow, standIns := [], harness := (true, "d4f8ddd5f99026f0cffba4e6092d318181eeb26a8bb450dbffee74ba40705dd5"), looks := false }, kinds := [], alts := [], laidByText := true, laidKinds := [.data, .pinned], laidTests := true, laidLooks := .later }
def ImageFindUptoCardSaid : Prop := Claim7.holds Tryd.pinned (.plain (OpenSpec.upto imageFindSpec)) imageFindUptoCard
end Rows
end Go.Proofs.YtigbmlgllgcbhaaDoor
