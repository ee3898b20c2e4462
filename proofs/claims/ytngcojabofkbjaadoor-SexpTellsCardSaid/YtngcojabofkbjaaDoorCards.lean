/-
  DERIVED. GIVEN WITH THE SEED: THE CARDS: each row of YtngcojabofkbjaaDoorRows.lean that lists a variable, with what it lists TIED to the program's text (the seventh form; the later family's looks); each row that meets fmt, with fmt's text TOLD by the authors' own Lean function (tested against real Go, not proved from fmt's source: count such statements apart). THE CARD IS WHAT COUNTS. Prove the row's statement (the work); the ties are given (YtngcojabofkbjaaDoorTie.lean); close each card by the builder's one call (the guide's Derived/Test/ToyasCard.lean, 'card_holds'). Laid BY PROGRAM, IN A SANDBOX (cutbox-door.mjs). By AI agents, Wed Nov 11 2026. No macro, syntax, notation, axiom, sorry.
-/
import Derived.Test.YtngcojabofkbjaaDoorRows
import GoSem.ClaimSeven
namespace Go.Proofs.YtngcojabofkbjaaDoor
namespace Rows

/-- THE TIED CARD OF 'trufflelaw06.TokenBlanks'. -/
def tokenBlanksCard : Claim7 := { stood := { row := tokenBlanksRow, standIns := [], harness := (true, "b4addd2aad63186449b4ac03b5c75cfd78707b9280cbb64616e5280924b45c79"), looks := true }, kinds := [], alts := [], laidByText := true, laidKinds := [.data, .data, .data, .sentinel, .sentinel], laidTests := true, laidLooks := .later }
def TokenBlanksCardSaid : Prop := Claim7.holds Tryd.pinned (.plain (OpenSpec.ofChange tokenBlanksSpec)) tokenBlanksCard

/-- THE TIED CARD OF 'trufflelaw06.TokenPlaces'. -/
def tokenPlacesCard : Claim7 := { stood := { row := tokenPlacesRow, standIns := [], harness := (true, "b4addd2aad63186449b4ac03b5c75cfd78707b9280cbb64616e5280924b45c79"), looks := true }, kinds := [], alts := [], laidByText := true, laidKinds := [.data, .data, .data, .sentinel, .sentinel], laidTests := true, laidLooks := .later }
def TokenPlacesCardSaid : Prop := Claim7.holds Tryd.pinned (.plain (OpenSpec.ofChange tokenPlacesSpec)) tokenPlacesCard

/-- THE TIED CARD OF 'trufflelaw06.TokenJoin'. -/
def tokenJoinCard : Claim7 := { stood := { row := tokenJoinRow, standIns := [], harness := (true, "b4addd2aad63186449b4ac03b5c75cfd78707b9280cbb64616e5280924b45c79"), looks := true }, kinds := [], alts := [], laidByText := true, laidKinds := [.data, .data, .data, .sentinel, .sentinel], laidTests := true, laidLooks := .later }
def TokenJoinCardSaid : Prop := Claim7.holds Tryd.pinned (.plain (OpenSpec.ofChange tokenJoinSpec)) tokenJoinCard

/-- THE TIED CARD OF 'trufflelaw06.TokenTells'. -/
def tokenTellsCard : Claim7 := { stood := { row := tokenTellsRow, standIns := [], harness := (true, "b4addd2aad63186449b4ac03b5c75cfd78707b9280cbb64616e5280924b45c79"), looks := true }, kinds := [], alts := [], laidByText := true, laidKinds := [.data, .data, .data, .sentinel, .sentinel], laidTests := true, laidLooks := .later }
def TokenTellsCardSaid : Prop := Claim7.holds Tryd.pinned (.plain (OpenSpec.ofChange tokenTellsSpec)) tokenTellsCard

/-- THE TIED CARD OF 'trufflelaw06.TokenBack'. -/
def tokenBackCard : Claim7 := { stood := { row := tokenBackRow, standIns := [], harness := (true, "b4addd2aad63186449b4ac03b5c75cfd78707b9280cbb64616e5280924b45c79"), looks := true }, kinds := [], alts := [], laidByText := true, laidKinds := [.data, .data, .data, .sentinel, .sentinel], laidTests := true, laidLooks := .later }
def TokenBackCardSaid : Prop := Claim7.holds Tryd.pinned (.plain (OpenSpec.ofChange tokenBackSpec)) tokenBackCard

/-- THE TIED CARD OF 'trufflelaw06.TokenQuote'. -/
def tokenQuoteCard : Claim7 := { stood := { row := tokenQuoteRow, standIns := [], harness := (true, "b4addd2aad63186449b4ac03b5c75cfd78707b9280cbb64616e5280924b45c79"), looks := true }, kinds := [], alts := [], laidByText := true, laidKinds := [.data, .data, .data, .sentinel, .sentinel], laidTests := true, laidLooks := .later }
def TokenQuoteCardSaid : Prop := Claim7.holds Tryd.pinned (.plain (OpenSpec.ofChange tokenQuoteSpec)) tokenQuoteCard

/-- THE TIED CARD OF 'trufflelaw14.SexpMay'. -/
def sexpMayCard : Claim7 := { stood := { row := sexpMayRow, standIns := [], harness := (true, "b4addd2aad63186449b4ac03b5c75cfd78707b9280cbb64616e5280924b45c79"), looks := true }, kinds := [], alts := [], laidByText := true, laidKinds := [.data, .data, .data, .sentinel, .sentinel], laidTests := true, laidLooks := .later }
def SexpMayCardSaid : Prop := Claim7.holds Tryd.pinned (.plain (OpenSpec.ofChange sexpMaySpec)) sexpMayCard

/-- THE TIED CARD OF 'trufflelaw14.SexpTells'. -/
def sexpTellsCard : Claim7 := { stood := { row := sexpTellsRow, standIns := [], harness := (true, "b4addd2aad63186449b4ac03b5c75cfd78707b9280cbb64616e5280924b45c79"), looks := true }, kinds := [], alts := [], laidByText := true, laidKinds := [.data, .data, .data, .sentinel, .sentinel], laidTests := true, laidLooks := .later }
def SexpTellsCardSaid : Prop := Claim7.holds Tryd.pinned (.plain (OpenSpec.ofChange sexpTellsSpec)) sexpTellsCard

/-- THE TIED CARD OF 'trufflelaw14.SexpBack'. -/
def sexpBackCard : Claim7 := { stood := { row := sexpBackRow, standIns := [], harness := (true, "b4addd2aad63186449b4ac03b5c75cfd78707b9280cbb64616e5280924b45c79"), looks := true }, kinds := [], alts := [], laidByText := true, laidKinds := [.data, .data, .data, .sentinel, .sentinel], laidTests := true, laidLooks := .later }
def SexpBackCardSaid : Prop := Claim7.holds Tryd.pinned (.plain (OpenSpec.ofChange sexpBackSpec)) sexpBackCard

/-- THE TIED CARD OF 'trufflelaw14.SexpNest'. -/
def sexpNestCard : Claim7 := { stood := { row := sexpNestRow, standIns := [], harness := (true, "b4addd2aad63186449b4ac03b5c75cfd78707b9280cbb64616e5280924b45c79"), looks := true }, kinds := [], alts := [], laidByText := true, laidKinds := [.data, .data, .data, .sentinel, .sentinel], laidTests := true, laidLooks := .later }
def SexpNestCardSaid : Prop := Claim7.holds Tryd.pinned (.plain (OpenSpec.ofChange sexpNestSpec)) sexpNestCard

/-- THE TIED CARD OF 'trufflelaw14.SexpList'. -/
def sexpListCard : Claim7 := { stood := { row := sexpListRow, standIns := [], harness := (true, "b4addd2aad63186449b4ac03b5c75cfd78707b9280cbb64616e5280924b45c79"), looks := true }, kinds := [], alts := [], laidByText := true, laidKinds := [.data, .data, .data, .sentinel, .sentinel], laidTests := true, laidLooks := .later }
def SexpListCardSaid : Prop := Claim7.holds Tryd.pinned (.plain (OpenSpec.ofChange sexpListSpec)) sexpListCard

/-- THE TIED CARD OF 'trufflelaw14.SexpStr'. -/
def sexpStrCard : Claim7 := { stood := { row := sexpStrRow, standIns := [], harness := (true, "b4addd2aad63186449b4ac03b5c75cfd78707b9280cbb64616e5280924b45c79"), looks := true }, kinds := [], alts := [], laidByText := true, laidKinds := [.data, .data, .data, .sentinel, .sentinel], laidTests := true, laidLooks := .later }
def SexpStrCardSaid : Prop := Claim7.holds Tryd.pinned (.plain (OpenSpec.ofChange sexpStrSpec)) sexpStrCard

/-- THE SECOND FORM's CARD OF 'trufflelaw06.TokenBlanks'. -/
def tokenBlanksUptoCard : Claim7 := { stood := { row := tokenBlanksUptoRow, standIns := [], harness := (true, "b4addd2aad63186449b4ac03b5c75cfd78707b9280cbb64616e5280924b45c79"), looks := true }, kinds := [], alts := [], laidByText := true, laidKinds := [.data, .data, .data, .sentinel, .sentinel], laidTests := true, laidLooks := .later }
def TokenBlanksUptoCardSaid : Prop := Claim7.holds Tryd.pinned (.plain (OpenSpec.upto tokenBlanksSpec)) tokenBlanksUptoCard

/-- THE SECOND FORM's CARD OF 'trufflelaw06.TokenPlaces'. -/
def tokenPlacesUptoCard : Claim7 := { stood := { row := tokenPlacesUptoRow, standIns := [], harness := (true, "b4addd2aad63186449b4ac03b5c75cfd78707b9280cbb64616e5280924b45c79"), looks := true }, kinds := [], alts := [], laidByText := true, laidKinds := [.data, .data, .data, .sentinel, .sentinel], laidTests := true, laidLooks := .later }
def TokenPlacesUptoCardSaid : Prop := Claim7.holds Tryd.pinned (.plain (OpenSpec.upto tokenPlacesSpec)) tokenPlacesUptoCard

/-- THE SECOND FORM's CARD OF 'trufflelaw06.TokenJoin'. -/
def tokenJoinUptoCard : Claim7 := { stood := { row := tokenJoinUptoRow, standIns := [], harness := (true, "b4addd2aad63186449b4ac03b5c75cfd78707b9280cbb64616e5280924b45c79"), looks := true }, kinds := [], alts := [], laidByText := true, laidKinds := [.data, .data, .data, .sentinel, .sentinel], laidTests := true, laidLooks := .later }
def TokenJoinUptoCardSaid : Prop := Claim7.holds Tryd.pinned (.plain (OpenSpec.upto tokenJoinSpec)) tokenJoinUptoCard

/-- THE SECOND FORM's CARD OF 'trufflelaw06.TokenTells'. -/
def tokenTellsUptoCard : Claim7 := { stood := { row := tokenTellsUptoRow, standIns := [], harness := (true, "b4addd2aad63186449b4ac03b5c75cfd78707b9280cbb64616e5280924b45c79"), looks := true }, kinds := [], alts := [], laidByText := true, laidKinds := [.data, .data, .data, .sentinel, .sentinel], laidTests := true, laidLooks := .later }
def TokenTellsUptoCardSaid : Prop := Claim7.holds Tryd.pinned (.plain (OpenSpec.upto tokenTellsSpec)) tokenTellsUptoCard

/-- THE SECOND FORM's CARD OF 'trufflelaw06.TokenBack'. -/
def tokenBackUptoCard : Claim7 := { stood := { row := tokenBackUptoRow, standIns := [], harness := (true, "b4addd2aad63186449b4ac03b5c75cfd78707b9280cbb64616e5280924b45c79"), looks := true }, kinds := [], alts := [], laidByText := true, laidKinds := [.data, .data, .data, .sentinel, .sentinel], laidTests := true, laidLooks := .later }
def TokenBackUptoCardSaid : Prop := Claim7.holds Tryd.pinned (.plain (OpenSpec.upto tokenBackSpec)) tokenBackUptoCard

/-- THE SECOND FORM's CARD OF 'trufflelaw06.TokenQuote'. -/
def tokenQuoteUptoCard : Claim7 := { stood := { row := tokenQuoteUptoRow, standIns := [], harness := (true, "b4addd2aad63186449b4ac03b5c75cfd78707b9280cbb64616e5280924b45c79"), looks := true }, kinds := [], alts := [], laidByText := true, laidKinds := [.data, .data, .data, .sentinel, .sentinel], laidTests := true, laidLooks := .later }
def TokenQuoteUptoCardSaid : Prop := Claim7.holds Tryd.pinned (.plain (OpenSpec.upto tokenQuoteSpec)) tokenQuoteUptoCard

/-- THE SECOND FORM's CARD OF 'trufflelaw14.SexpMay'. -/
def sexpMayUptoCard : Claim7 := { stood := { row := sexpMayUptoRow, standIns := [], harness := (true, "b4addd2aad63186449b4ac03b5c75cfd78707b9280cbb64616e5280924b45c79"), looks := true }, kinds := [], alts := [], laidByText := true, laidKinds := [.data, .data, .data, .sentinel, .sentinel], laidTests := true, laidLooks := .later }
def SexpMayUptoCardSaid : Prop := Claim7.holds Tryd.pinned (.plain (OpenSpec.upto sexpMaySpec)) sexpMayUptoCard

/-- THE SECOND FORM's CARD OF 'trufflelaw14.SexpTells'. -/
def sexpTellsUptoCard : Claim7 := { stood := { row := sexpTellsUptoRow, standIns := [], harness := (true, "b4addd2aad63186449b4ac03b5c75cfd78707b9280cbb64616e5280924b45c79"), looks := true }, kinds := [], alts := [], laidByText := true, laidKinds := [.data, .data, .data, .sentinel, .sentinel], laidTests := true, laidLooks := .later }
def SexpTellsUptoCardSaid : Prop := Claim7.holds Tryd.pinned (.plain (OpenSpec.upto sexpTellsSpec)) sexpTellsUptoCard

/-- THE SECOND FORM's CARD OF 'trufflelaw14.SexpBack'. -/
def sexpBackUptoCard : Claim7 := { stood := { row := sexpBackUptoRow, standIns := [], harness := (true, "b4addd2aad63186449b4ac03b5c75cfd78707b9280cbb64616e5280924b45c79"), looks := true }, kinds := [], alts := [], laidByText := true, laidKinds := [.data, .data, .data, .sentinel, .sentinel], laidTests := true, laidLooks := .later }
def SexpBackUptoCardSaid : Prop := Claim7.holds Tryd.pinned (.plain (OpenSpec.upto sexpBackSpec)) sexpBackUptoCard

/-- THE SECOND FORM's CARD OF 'trufflelaw14.SexpNest'. -/
def sexpNestUptoCard : Claim7 := { stood := { row := sexpNestUptoRow, standIns := [], harness := (true, "b4addd2aad63186449b4ac03b5c75cfd78707b9280cbb64616e5280924b45c79"), looks := true }, kinds := [], alts := [], laidByText := true, laidKinds := [.data, .data, .data, .sentinel, .sentinel], laidTests := true, laidLooks := .later }
def SexpNestUptoCardSaid : Prop := Claim7.holds Tryd.pinned (.plain (OpenSpec.upto sexpNestSpec)) sexpNestUptoCard

/-- THE SECOND FORM's CARD OF 'trufflelaw14.SexpList'. -/
def sexpListUptoCard : Claim7 := { stood := { row := sexpListUptoRow, standIns := [], harness := (true, "b4addd2aad63186449b4ac03b5c75cfd78707b9280cbb64616e5280924b45c79"), looks := true }, kinds := [], alts := [], laidByText := true, laidKinds := [.data, .data, .data, .sentinel, .sentinel], laidTests := true, laidLooks := .later }
def SexpListUptoCardSaid : Prop := Claim7.holds Tryd.pinned (.plain (OpenSpec.upto sexpListSpec)) sexpListUptoCard

/-- THE SECOND FORM's CARD OF 'trufflelaw14.SexpStr'. -/
def sexpStrUptoCard : Claim7 := { stood := { row := sexpStrUptoRow, standIns := [], harness := (true, "b4addd2aad63186449b4ac03b5c75cfd78707b9280cbb64616e5280924b45c79"), looks := true }, kinds := [], alts := [], laidByText := true, laidKinds := [.data, .data, .data, .sentinel, .sentinel], laidTests := true, laidLooks := .later }
def SexpStrUptoCardSaid : Prop := Claim7.holds Tryd.pinned (.plain (OpenSpec.upto sexpStrSpec)) sexpStrUptoCard
end Rows
end Go.Proofs.YtngcojabofkbjaaDoor
