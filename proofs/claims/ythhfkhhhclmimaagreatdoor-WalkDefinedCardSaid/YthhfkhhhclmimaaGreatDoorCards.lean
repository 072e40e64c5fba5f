/-
  DERIVED. GIVEN WITH THE SEED: THE CARDS: each row of YthhfkhhhclmimaaGreatDoorRows.lean that lists a variable, with what it lists TIED to the program's text (the seventh form; the later family's looks); each row that meets fmt, with fmt's text TOLD by the authors' own Lean function (tested against real Go, not proved from fmt's source: count such statements apart). THE CARD IS WHAT COUNTS. Prove the row's statement (the work); the ties are given (YthhfkhhhclmimaaGreatDoorTie.lean); close each card by the builder's one call (the guide's Derived/Test/ToyasCard.lean, 'card_holds'). Laid BY PROGRAM, IN A SANDBOX (cutbox-door.mjs). By AI agents, Wed Nov 11 2026. No macro, syntax, notation, axiom, sorry.
-/
import Derived.Test.YthhfkhhhclmimaaGreatDoorRows
import GoSem.ClaimSeven
namespace Go.Proofs.YthhfkhhhclmimaaGreatDoor
namespace Rows

/-- THE TIED CARD OF 'shedlaw22.ScriptShows'. -/
def scriptShowsCard : Claim7 := { stood := { row := scriptShowsRow, standIns := [], harness := (true, "c8d7bac98332eda8b48885b3f91051c3db85ca661fcc5d769a619cd8733455d0"), looks := true }, kinds := [], alts := [], goes := true, laidByText := true, laidKinds := [.data, .data, .data, .sentinel, .sentinel], laidTests := true, laidLooks := .later }
def ScriptShowsCardSaid : Prop := Claim7.holds Tryz.pinned (.plain (OpenSpec.ofChange scriptShowsSpec)) scriptShowsCard

/-- THE TIED CARD OF 'shedlaw17.OuterErrors'. -/
def outerErrorsCard : Claim7 := { stood := { row := outerErrorsRow, standIns := [], harness := (true, "c8d7bac98332eda8b48885b3f91051c3db85ca661fcc5d769a619cd8733455d0"), looks := true }, kinds := [], alts := [], goes := true, laidByText := true, laidKinds := [.data, .data, .data], laidTests := true, laidLooks := .later }
def OuterErrorsCardSaid : Prop := Claim7.holds Tryz.pinned (.plain (OpenSpec.ofChange outerErrorsSpec)) outerErrorsCard

/-- THE TIED CARD OF 'shedlaw17.OuterCalls'. -/
def outerCallsCard : Claim7 := { stood := { row := outerCallsRow, standIns := [], harness := (true, "c8d7bac98332eda8b48885b3f91051c3db85ca661fcc5d769a619cd8733455d0"), looks := true }, kinds := [], alts := [], goes := true, laidByText := true, laidKinds := [.data, .data, .data], laidTests := true, laidLooks := .later }
def OuterCallsCardSaid : Prop := Claim7.holds Tryz.pinned (.plain (OpenSpec.ofChange outerCallsSpec)) outerCallsCard

/-- THE TIED CARD OF 'shedlaw18.OopEarly'. -/
def oopEarlyCard : Claim7 := { stood := { row := oopEarlyRow, standIns := [], harness := (true, "c8d7bac98332eda8b48885b3f91051c3db85ca661fcc5d769a619cd8733455d0"), looks := true }, kinds := [], alts := [], goes := true, laidByText := true, laidKinds := [.data, .data, .data], laidTests := true, laidLooks := .later }
def OopEarlyCardSaid : Prop := Claim7.holds Tryz.pinned (.plain (OpenSpec.ofChange oopEarlySpec)) oopEarlyCard

/-- THE TIED CARD OF 'shedlaw21.PumpStops'. -/
def pumpStopsCard : Claim7 := { stood := { row := pumpStopsRow, standIns := [], harness := (true, "c8d7bac98332eda8b48885b3f91051c3db85ca661fcc5d769a619cd8733455d0"), looks := true }, kinds := [], alts := [], goes := true, laidByText := true, laidKinds := [.data, .data, .data], laidTests := true, laidLooks := .later }
def PumpStopsCardSaid : Prop := Claim7.holds Tryz.pinned (.plain (OpenSpec.ofChange pumpStopsSpec)) pumpStopsCard

/-- THE TIED CARD OF 'shedlaw20.WalkDefined'. -/
def walkDefinedCard : Claim7 := { stood := { row := walkDefinedRow, standIns := [], harness := (true, "c8d7bac98332eda8b48885b3f91051c3db85ca661fcc5d769a619cd8733455d0"), looks := true }, kinds := [], alts := [], goes := true, laidByText := true, laidKinds := [.data, .data, .data], laidTests := true, laidLooks := .later }
def WalkDefinedCardSaid : Prop := Claim7.holds Tryz.pinned (.plain (OpenSpec.ofChange walkDefinedSpec)) walkDefinedCard

/-- THE TIED CARD OF 'shedlaw22.ScriptParses'. -/
def scriptParsesCard : Claim7 := { stood := { row := scriptParsesRow, standIns := [], harness := (true, "c8d7bac98332eda8b48885b3f91051c3db85ca661fcc5d769a619cd8733455d0"), looks := true }, kinds := [], alts := [], goes := true, laidByText := true, laidKinds := [.data, .data, .data, .sentinel, .sentinel], laidTests := true, laidLooks := .later }
def ScriptParsesCardSaid : Prop := Claim7.holds Tryz.pinned (.plain (OpenSpec.ofChange scriptParsesSpec)) scriptParsesCard

/-- THE SECOND FORM's CARD OF 'shedlaw22.ScriptShows'. -/
def scriptShowsUptoCard : Claim7 := { stood := { row := scriptShowsUptoRow, standIns := [], harness := (true, "c8d7bac98332eda8b48885b3f91051c3db85ca661fcc5d769a619cd8733455d0"), looks := true }, kinds := [], alts := [], goes := true, laidByText := true, laidKinds := [.data, .data, .data, .sentinel, .sentinel], laidTests := true, laidLooks := .later }
def ScriptShowsUptoCardSaid : Prop := Claim7.holds Tryz.pinned (.plain (OpenSpec.upto scriptShowsSpec)) scriptShowsUptoCard

/-- THE SECOND FORM's CARD OF 'shedlaw17.OuterErrors'. -/
def outerErrorsUptoCard : Claim7 := { stood := { row := outerErrorsUptoRow, standIns := [], harness := (true, "c8d7bac98332eda8b48885b3f91051c3db85ca661fcc5d769a619cd8733455d0"), looks := true }, kinds := [], alts := [], goes := true, laidByText := true, laidKinds := [.data, .data, .data], laidTests := true, laidLooks := .later }
def OuterErrorsUptoCardSaid : Prop := Claim7.holds Tryz.pinned (.plain (OpenSpec.upto outerErrorsSpec)) outerErrorsUptoCard

/-- THE SECOND FORM's CARD OF 'shedlaw17.OuterCalls'. -/
def outerCallsUptoCard : Claim7 := { stood := { row := outerCallsUptoRow, standIns := [], harness := (true, "c8d7bac98332eda8b48885b3f91051c3db85ca661fcc5d769a619cd8733455d0"), looks := true }, kinds := [], alts := [], goes := true, laidByText := true, laidKinds := [.data, .data, .data], laidTests := true, laidLooks := .later }
def OuterCallsUptoCardSaid : Prop := Claim7.holds Tryz.pinned (.plain (OpenSpec.upto outerCallsSpec)) outerCallsUptoCard

/-- THE SECOND FORM's CARD OF 'shedlaw18.OopEarly'. -/
def oopEarlyUptoCard : Claim7 := { stood := { row := oopEarlyUptoRow, standIns := [], harness := (true, "c8d7bac98332eda8b48885b3f91051c3db85ca661fcc5d769a619cd8733455d0"), looks := true }, kinds := [], alts := [], goes := true, laidByText := true, laidKinds := [.data, .data, .data], laidTests := true, laidLooks := .later }
def OopEarlyUptoCardSaid : Prop := Claim7.holds Tryz.pinned (.plain (OpenSpec.upto oopEarlySpec)) oopEarlyUptoCard

/-- THE SECOND FORM's CARD OF 'shedlaw21.PumpStops'. -/
def pumpStopsUptoCard : Claim7 := { stood := { row := pumpStopsUptoRow, standIns := [], harness := (true, "c8d7bac98332eda8b48885b3f91051c3db85ca661fcc5d769a619cd8733455d0"), looks := true }, kinds := [], alts := [], goes := true, laidByText := true, laidKinds := [.data, .data, .data], laidTests := true, laidLooks := .later }
def PumpStopsUptoCardSaid : Prop := Claim7.holds Tryz.pinned (.plain (OpenSpec.upto pumpStopsSpec)) pumpStopsUptoCard

/-- THE SECOND FORM's CARD OF 'shedlaw20.WalkDefined'. -/
def walkDefinedUptoCard : Claim7 := { stood := { row := walkDefinedUptoRow, standIns := [], harness := (true, "c8d7bac98332eda8b48885b3f91051c3db85ca661fcc5d769a619cd8733455d0"), looks := true }, kinds := [], alts := [], goes := true, laidByText := true, laidKinds := [.data, .data, .data], laidTests := true, laidLooks := .later }
def WalkDefinedUptoCardSaid : Prop := Claim7.holds Tryz.pinned (.plain (OpenSpec.upto walkDefinedSpec)) walkDefinedUptoCard

/-- THE SECOND FORM's CARD OF 'shedlaw22.ScriptParses'. -/
def scriptParsesUptoCard : Claim7 := { stood := { row := scriptParsesUptoRow, standIns := [], harness := (true, "c8d7bac98332eda8b48885b3f91051c3db85ca661fcc5d769a619cd8733455d0"), looks := true }, kinds := [], alts := [], goes := true, laidByText := true, laidKinds := [.data, .data, .data, .sentinel, .sentinel], laidTests := true, laidLooks := .later }
def ScriptParsesUptoCardSaid : Prop := Claim7.holds Tryz.pinned (.plain (OpenSpec.upto scriptParsesSpec)) scriptParsesUptoCard
end Rows
end Go.Proofs.YthhfkhhhclmimaaGreatDoor
