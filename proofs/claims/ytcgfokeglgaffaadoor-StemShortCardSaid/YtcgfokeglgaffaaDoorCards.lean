/-
  DERIVED. GIVEN WITH THE SEED: THE CARDS: each row of YtcgfokeglgaffaaDoorRows.lean that lists a variable, with what it lists TIED to the program's text (the seventh form; the later family's looks); each row that meets fmt, with fmt's text TOLD by the authors' own Lean function (tested against real Go, not proved from fmt's source: count such statements apart). THE CARD IS WHAT COUNTS. Prove the row's statement (the work); the ties are given (YtcgfokeglgaffaaDoorTie.lean); close each card by the builder's one call (the guide's Derived/Test/ToyasCard.lean, 'card_holds'). Laid BY PROGRAM, IN A SANDBOX (cutbox-door.mjs). By AI agents, Wed Nov 11 2026. No macro, syntax, notation, axiom, sorry.
-/
import Derived.Test.YtcgfokeglgaffaaDoorRows
import GoSem.ClaimSeven
namespace Go.Proofs.YtcgfokeglgaffaaDoor
namespace Rows

/-- THE TIED CARD OF 'waywiserlaw16.StemMeasures'. -/
def stemMeasuresCard : Claim7 := { stood := { row := stemMeasuresRow, standIns := [], harness := (true, "b6662cc7e17c3324085b9c311cfad4ddc9079cf83a2ff3da89dbd256d0f74b7c"), looks := false }, kinds := [], alts := [], laidByText := true, laidKinds := [.data, .listed, .data, .pinned], laidTests := true, laidLooks := .later }
def StemMeasuresCardSaid : Prop := Claim7.holds Tryd.pinned (.plain (OpenSpec.ofChange stemMeasuresSpec)) stemMeasuresCard

/-- THE TIED CARD OF 'waywiserlaw16.StemShort'. -/
def stemShortCard : Claim7 := { stood := { row := stemShortRow, standIns := [], harness := (true, "b6662cc7e17c3324085b9c311cfad4ddc9079cf83a2ff3da89dbd256d0f74b7c"), looks := false }, kinds := [], alts := [], laidByText := true, laidKinds := [.data, .listed, .data, .pinned], laidTests := true, laidLooks := .later }
def StemShortCardSaid : Prop := Claim7.holds Tryd.pinned (.plain (OpenSpec.ofChange stemShortSpec)) stemShortCard

/-- THE TIED CARD OF 'waywiserlaw16.StemPlural'. -/
def stemPluralCard : Claim7 := { stood := { row := stemPluralRow, standIns := [], harness := (true, "b6662cc7e17c3324085b9c311cfad4ddc9079cf83a2ff3da89dbd256d0f74b7c"), looks := false }, kinds := [], alts := [], laidByText := true, laidKinds := [.data, .listed, .data, .pinned], laidTests := true, laidLooks := .later }
def StemPluralCardSaid : Prop := Claim7.holds Tryd.pinned (.plain (OpenSpec.ofChange stemPluralSpec)) stemPluralCard

/-- THE SECOND FORM's CARD OF 'waywiserlaw16.StemMeasures'. -/
def stemMeasuresUptoCard : Claim7 := { stood := { row := stemMeasuresUptoRow, standIns := [], harness := (true, "b6662cc7e17c3324085b9c311cfad4ddc9079cf83a2ff3da89dbd256d0f74b7c"), looks := false }, kinds := [], alts := [], laidByText := true, laidKinds := [.data, .listed, .data, .pinned], laidTests := true, laidLooks := .later }
def StemMeasuresUptoCardSaid : Prop := Claim7.holds Tryd.pinned (.plain (OpenSpec.upto stemMeasuresSpec)) stemMeasuresUptoCard

/-- THE SECOND FORM's CARD OF 'waywiserlaw16.StemShort'. -/
def stemShortUptoCard : Claim7 := { stood := { row := stemShortUptoRow, standIns := [], harness := (true, "b6662cc7e17c3324085b9c311cfad4ddc9079cf83a2ff3da89dbd256d0f74b7c"), looks := false }, kinds := [], alts := [], laidByText := true, laidKinds := [.data, .listed, .data, .pinned], laidTests := true, laidLooks := .later }
def StemShortUptoCardSaid : Prop := Claim7.holds Tryd.pinned (.plain (OpenSpec.upto stemShortSpec)) stemShortUptoCard

/-- THE SECOND FORM's CARD OF 'waywiserlaw16.StemPlural'. -/
def stemPluralUptoCard : Claim7 := { stood := { row := stemPluralUptoRow, standIns := [], harness := (true, "b6662cc7e17c3324085b9c311cfad4ddc9079cf83a2ff3da89dbd256d0f74b7c"), looks := false }, kinds := [], alts := [], laidByText := true, laidKinds := [.data, .listed, .data, .pinned], laidTests := true, laidLooks := .later }
def StemPluralUptoCardSaid : Prop := Claim7.holds Tryd.pinned (.plain (OpenSpec.upto stemPluralSpec)) stemPluralUptoCard
end Rows
end Go.Proofs.YtcgfokeglgaffaaDoor
