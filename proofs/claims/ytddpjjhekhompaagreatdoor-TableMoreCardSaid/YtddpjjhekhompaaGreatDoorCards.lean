/-
  DERIVED. GIVEN WITH THE SEED: THE CARDS: each row of YtddpjjhekhompaaGreatDoorRows.lean that lists a variable, with what it lists TIED to the program's text (the seventh form; the later family's looks); each row that meets fmt, with fmt's text TOLD by the authors' own Lean function (tested against real Go, not proved from fmt's source: count such statements apart). THE CARD IS WHAT COUNTS. Prove the row's statement (the work); the ties are given (YtddpjjhekhompaaGreatDoorTie.lean); close each card by the builder's one call (the guide's Derived/Test/ToyasCard.lean, 'card_holds'). Laid BY PROGRAM, IN A SANDBOX (cutbox-door.mjs). By AI agents, Wed Nov 11 2026. No macro, syntax, notation, axiom, sorry.
-/
import Derived.Test.YtddpjjhekhompaaGreatDoorRows
import GoSem.ClaimSeven
namespace Go.Proofs.YtddpjjhekhompaaGreatDoor
namespace Rows

/-- THE TIED CARD OF 'trufflelaw07.ProtoBack'. -/
def protoBackCard : Claim7 := { stood := { row := protoBackRow, standIns := [], harness := (true, "c24a103dac6790402284e25d1eed11a74489c66248b9a99d7e95553e796e0b51"), looks := true }, kinds := [], alts := [], laidByText := true, laidKinds := [.data, .data, .data, .sentinel, .sentinel], laidTests := true, laidLooks := .later }
def ProtoBackCardSaid : Prop := Claim7.holds Tryz.pinned (.plain (OpenSpec.ofChange protoBackSpec)) protoBackCard

/-- THE TIED CARD OF 'trufflelaw07.ProtoBlanks'. -/
def protoBlanksCard : Claim7 := { stood := { row := protoBlanksRow, standIns := [], harness := (true, "c24a103dac6790402284e25d1eed11a74489c66248b9a99d7e95553e796e0b51"), looks := true }, kinds := [], alts := [], laidByText := true, laidKinds := [.data, .data, .data, .sentinel, .sentinel], laidTests := true, laidLooks := .later }
def ProtoBlanksCardSaid : Prop := Claim7.holds Tryz.pinned (.plain (OpenSpec.ofChange protoBlanksSpec)) protoBlanksCard

/-- THE TIED CARD OF 'trufflelaw07.ProtoJoin'. -/
def protoJoinCard : Claim7 := { stood := { row := protoJoinRow, standIns := [], harness := (true, "c24a103dac6790402284e25d1eed11a74489c66248b9a99d7e95553e796e0b51"), looks := true }, kinds := [], alts := [], laidByText := true, laidKinds := [.data, .data, .data, .sentinel, .sentinel], laidTests := true, laidLooks := .later }
def ProtoJoinCardSaid : Prop := Claim7.holds Tryz.pinned (.plain (OpenSpec.ofChange protoJoinSpec)) protoJoinCard

/-- THE TIED CARD OF 'trufflelaw08.TableMay'. -/
def tableMayCard : Claim7 := { stood := { row := tableMayRow, standIns := [], harness := (true, "c24a103dac6790402284e25d1eed11a74489c66248b9a99d7e95553e796e0b51"), looks := true }, kinds := [], alts := [], laidByText := true, laidKinds := [.data, .data, .data, .sentinel, .sentinel], laidTests := true, laidLooks := .later }
def TableMayCardSaid : Prop := Claim7.holds Tryz.pinned (.plain (OpenSpec.ofChange tableMaySpec)) tableMayCard

/-- THE TIED CARD OF 'trufflelaw08.TableFinds'. -/
def tableFindsCard : Claim7 := { stood := { row := tableFindsRow, standIns := [], harness := (true, "c24a103dac6790402284e25d1eed11a74489c66248b9a99d7e95553e796e0b51"), looks := true }, kinds := [], alts := [], laidByText := true, laidKinds := [.data, .data, .data, .sentinel, .sentinel], laidTests := true, laidLooks := .later }
def TableFindsCardSaid : Prop := Claim7.holds Tryz.pinned (.plain (OpenSpec.ofChange tableFindsSpec)) tableFindsCard

/-- THE TIED CARD OF 'trufflelaw08.TableOrder'. -/
def tableOrderCard : Claim7 := { stood := { row := tableOrderRow, standIns := [], harness := (true, "c24a103dac6790402284e25d1eed11a74489c66248b9a99d7e95553e796e0b51"), looks := true }, kinds := [], alts := [], laidByText := true, laidKinds := [.data, .data, .data, .sentinel, .sentinel], laidTests := true, laidLooks := .later }
def TableOrderCardSaid : Prop := Claim7.holds Tryz.pinned (.plain (OpenSpec.ofChange tableOrderSpec)) tableOrderCard

/-- THE TIED CARD OF 'trufflelaw08.TableTells'. -/
def tableTellsCard : Claim7 := { stood := { row := tableTellsRow, standIns := [], harness := (true, "c24a103dac6790402284e25d1eed11a74489c66248b9a99d7e95553e796e0b51"), looks := true }, kinds := [], alts := [], laidByText := true, laidKinds := [.data, .data, .data, .sentinel, .sentinel], laidTests := true, laidLooks := .later }
def TableTellsCardSaid : Prop := Claim7.holds Tryz.pinned (.plain (OpenSpec.ofChange tableTellsSpec)) tableTellsCard

/-- THE TIED CARD OF 'trufflelaw08.TableMore'. -/
def tableMoreCard : Claim7 := { stood := { row := tableMoreRow, standIns := [], harness := (true, "c24a103dac6790402284e25d1eed11a74489c66248b9a99d7e95553e796e0b51"), looks := true }, kinds := [], alts := [], laidByText := true, laidKinds := [.data, .data, .data, .sentinel, .sentinel], laidTests := true, laidLooks := .later }
def TableMoreCardSaid : Prop := Claim7.holds Tryz.pinned (.plain (OpenSpec.ofChange tableMoreSpec)) tableMoreCard

/-- THE TIED CARD OF 'trufflelaw08.TablePrinted'. -/
def tablePrintedCard : Claim7 := { stood := { row := tablePrintedRow, standIns := [], harness := (true, "c24a103dac6790402284e25d1eed11a74489c66248b9a99d7e95553e796e0b51"), looks := true }, kinds := [], alts := [], laidByText := true, laidKinds := [.data, .data, .data, .sentinel, .sentinel], laidTests := true, laidLooks := .later }
def TablePrintedCardSaid : Prop := Claim7.holds Tryz.pinned (.plain (OpenSpec.ofChange tablePrintedSpec)) tablePrintedCard

/-- THE SECOND FORM's CARD OF 'trufflelaw07.ProtoBack'. -/
def protoBackUptoCard : Claim7 := { stood := { row := protoBackUptoRow, standIns := [], harness := (true, "c24a103dac6790402284e25d1eed11a74489c66248b9a99d7e95553e796e0b51"), looks := true }, kinds := [], alts := [], laidByText := true, laidKinds := [.data, .data, .data, .sentinel, .sentinel], laidTests := true, laidLooks := .later }
def ProtoBackUptoCardSaid : Prop := Claim7.holds Tryz.pinned (.plain (OpenSpec.upto protoBackSpec)) protoBackUptoCard

/-- THE SECOND FORM's CARD OF 'trufflelaw07.ProtoBlanks'. -/
def protoBlanksUptoCard : Claim7 := { stood := { row := protoBlanksUptoRow, standIns := [], harness := (true, "c24a103dac6790402284e25d1eed11a74489c66248b9a99d7e95553e796e0b51"), looks := true }, kinds := [], alts := [], laidByText := true, laidKinds := [.data, .data, .data, .sentinel, .sentinel], laidTests := true, laidLooks := .later }
def ProtoBlanksUptoCardSaid : Prop := Claim7.holds Tryz.pinned (.plain (OpenSpec.upto protoBlanksSpec)) protoBlanksUptoCard

/-- THE SECOND FORM's CARD OF 'trufflelaw07.ProtoJoin'. -/
def protoJoinUptoCard : Claim7 := { stood := { row := protoJoinUptoRow, standIns := [], harness := (true, "c24a103dac6790402284e25d1eed11a74489c66248b9a99d7e95553e796e0b51"), looks := true }, kinds := [], alts := [], laidByText := true, laidKinds := [.data, .data, .data, .sentinel, .sentinel], laidTests := true, laidLooks := .later }
def ProtoJoinUptoCardSaid : Prop := Claim7.holds Tryz.pinned (.plain (OpenSpec.upto protoJoinSpec)) protoJoinUptoCard

/-- THE SECOND FORM's CARD OF 'trufflelaw08.TableMay'. -/
def tableMayUptoCard : Claim7 := { stood := { row := tableMayUptoRow, standIns := [], harness := (true, "c24a103dac6790402284e25d1eed11a74489c66248b9a99d7e95553e796e0b51"), looks := true }, kinds := [], alts := [], laidByText := true, laidKinds := [.data, .data, .data, .sentinel, .sentinel], laidTests := true, laidLooks := .later }
def TableMayUptoCardSaid : Prop := Claim7.holds Tryz.pinned (.plain (OpenSpec.upto tableMaySpec)) tableMayUptoCard

/-- THE SECOND FORM's CARD OF 'trufflelaw08.TableFinds'. -/
def tableFindsUptoCard : Claim7 := { stood := { row := tableFindsUptoRow, standIns := [], harness := (true, "c24a103dac6790402284e25d1eed11a74489c66248b9a99d7e95553e796e0b51"), looks := true }, kinds := [], alts := [], laidByText := true, laidKinds := [.data, .data, .data, .sentinel, .sentinel], laidTests := true, laidLooks := .later }
def TableFindsUptoCardSaid : Prop := Claim7.holds Tryz.pinned (.plain (OpenSpec.upto tableFindsSpec)) tableFindsUptoCard

/-- THE SECOND FORM's CARD OF 'trufflelaw08.TableOrder'. -/
def tableOrderUptoCard : Claim7 := { stood := { row := tableOrderUptoRow, standIns := [], harness := (true, "c24a103dac6790402284e25d1eed11a74489c66248b9a99d7e95553e796e0b51"), looks := true }, kinds := [], alts := [], laidByText := true, laidKinds := [.data, .data, .data, .sentinel, .sentinel], laidTests := true, laidLooks := .later }
def TableOrderUptoCardSaid : Prop := Claim7.holds Tryz.pinned (.plain (OpenSpec.upto tableOrderSpec)) tableOrderUptoCard

/-- THE SECOND FORM's CARD OF 'trufflelaw08.TableTells'. -/
def tableTellsUptoCard : Claim7 := { stood := { row := tableTellsUptoRow, standIns := [], harness := (true, "c24a103dac6790402284e25d1eed11a74489c66248b9a99d7e95553e796e0b51"), looks := true }, kinds := [], alts := [], laidByText := true, laidKinds := [.data, .data, .data, .sentinel, .sentinel], laidTests := true, laidLooks := .later }
def TableTellsUptoCardSaid : Prop := Claim7.holds Tryz.pinned (.plain (OpenSpec.upto tableTellsSpec)) tableTellsUptoCard

/-- THE SECOND FORM's CARD OF 'trufflelaw08.TableMore'. -/
def tableMoreUptoCard : Claim7 := { stood := { row := tableMoreUptoRow, standIns := [], harness := (true, "c24a103dac6790402284e25d1eed11a74489c66248b9a99d7e95553e796e0b51"), looks := true }, kinds := [], alts := [], laidByText := true, laidKinds := [.data, .data, .data, .sentinel, .sentinel], laidTests := true, laidLooks := .later }
def TableMoreUptoCardSaid : Prop := Claim7.holds Tryz.pinned (.plain (OpenSpec.upto tableMoreSpec)) tableMoreUptoCard

/-- THE SECOND FORM's CARD OF 'trufflelaw08.TablePrinted'. -/
def tablePrintedUptoCard : Claim7 := { stood := { row := tablePrintedUptoRow, standIns := [], harness := (true, "c24a103dac6790402284e25d1eed11a74489c66248b9a99d7e95553e796e0b51"), looks := true }, kinds := [], alts := [], laidByText := true, laidKinds := [.data, .data, .data, .sentinel, .sentinel], laidTests := true, laidLooks := .later }
def TablePrintedUptoCardSaid : Prop := Claim7.holds Tryz.pinned (.plain (OpenSpec.upto tablePrintedSpec)) tablePrintedUptoCard
end Rows
end Go.Proofs.YtddpjjhekhompaaGreatDoor
