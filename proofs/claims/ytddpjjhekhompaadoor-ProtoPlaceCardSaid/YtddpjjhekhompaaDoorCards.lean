/-
  DERIVED. GIVEN WITH THE SEED: THE CARDS: each row of YtddpjjhekhompaaDoorRows.lean that lists a variable, with what it lists TIED to the program's text (the seventh form; the later family's looks); each row that meets fmt, with fmt's text TOLD by the authors' own Lean function (tested against real Go, not proved from fmt's source: count such statements apart). THE CARD IS WHAT COUNTS. Prove the row's statement (the work); the ties are given (YtddpjjhekhompaaDoorTie.lean); close each card by the builder's one call (the guide's Derived/Test/ToyasCard.lean, 'card_holds'). Laid BY PROGRAM, IN A SANDBOX (cutbox-door.mjs). By AI agents, Wed Nov 11 2026. No macro, syntax, notation, axiom, sorry.
-/
import Derived.Test.YtddpjjhekhompaaDoorRows
import GoSem.ClaimSeven
namespace Go.Proofs.YtddpjjhekhompaaDoor
namespace Rows

/-- THE TIED CARD OF 'trufflelaw07.ProtoPlace'. -/
def protoPlaceCard : Claim7 := { stood := { row := protoPlaceRow, standIns := [], harness := (true, "bbc1d4c384fc508da3095b697cfe3d6c361b842413b2342a40fbabdd779e4837"), looks := true }, kinds := [], alts := [], laidByText := true, laidKinds := [.data, .data, .data, .sentinel, .sentinel], laidTests := true, laidLooks := .later }
def ProtoPlaceCardSaid : Prop := Claim7.holds Tryd.pinned (.plain (OpenSpec.ofChange protoPlaceSpec)) protoPlaceCard

/-- THE SECOND FORM's CARD OF 'trufflelaw07.ProtoPlace'. -/
def protoPlaceUptoCard : Claim7 := { stood := { row := protoPlaceUptoRow, standIns := [], harness := (true, "bbc1d4c384fc508da3095b697cfe3d6c361b842413b2342a40fbabdd779e4837"), looks := true }, kinds := [], alts := [], laidByText := true, laidKinds := [.data, .data, .data, .sentinel, .sentinel], laidTests := true, laidLooks := .later }
def ProtoPlaceUptoCardSaid : Prop := Claim7.holds Tryd.pinned (.plain (OpenSpec.upto protoPlaceSpec)) protoPlaceUptoCard
end Rows
end Go.Proofs.YtddpjjhekhompaaDoor
