/-
  DERIVED. GIVEN WITH THE SEED: THE CARDS: each row of YtdolhcmhdjmoeaaGreatDoorRows.lean that lists a variable, with what it lists TIED to the program's text (the seventh form; the later family's looks); each row that meets fmt, with fmt's text TOLD by the authors' own Lean function (tested against real Go, not proved from fmt's source: count such statements apart). THE CARD IS WHAT COUNTS. Prove the row's statement (the work); the ties are given (YtdolhcmhdjmoeaaGreatDoorTie.lean); close each card by the builder's one call (the guide's Derived/Test/ToyasCard.lean, 'card_holds'). Laid BY PROGRAM, IN A SANDBOX (cutbox-door.mjs). By AI agents, Wed Nov 11 2026. No macro, syntax, notation, axiom, sorry.
-/
import Derived.Test.YtdolhcmhdjmoeaaGreatDoorRows
import GoSem.ClaimSeven
namespace Go.Proofs.YtdolhcmhdjmoeaaGreatDoor
namespace Rows

/-- THE TIED CARD OF 'ballastlaw18.LevelRises'. -/
def levelRisesCard : Claim7 := { stood := { row := levelRisesRow, standIns := [], harness := (true, "d56a8cb66f761728c3307fef9529ecefb26b10344749f6e480f6c8fab6c6bea7"), looks := true }, kinds := [], alts := [], laidByText := true, laidKinds := [.data, .pinned], laidTests := true, laidLooks := .later }
def LevelRisesCardSaid : Prop := Claim7.holds Tryz.pinned (.plain (OpenSpec.ofChange levelRisesSpec)) levelRisesCard

/-- THE TIED CARD OF 'ballastlaw12.FitAny'. -/
def fitAnyCard : Claim7 := { stood := { row := fitAnyRow, standIns := [], harness := (true, "d56a8cb66f761728c3307fef9529ecefb26b10344749f6e480f6c8fab6c6bea7"), looks := true }, kinds := [], alts := [], laidByText := true, laidKinds := [.data, .pinned], laidTests := true, laidLooks := .later }
def FitAnyCardSaid : Prop := Claim7.holds Tryz.pinned (.plain (OpenSpec.ofChange fitAnySpec)) fitAnyCard

/-- THE TIED CARD OF 'ballastlaw12.FitLess'. -/
def fitLessCard : Claim7 := { stood := { row := fitLessRow, standIns := [], harness := (true, "d56a8cb66f761728c3307fef9529ecefb26b10344749f6e480f6c8fab6c6bea7"), looks := true }, kinds := [], alts := [], laidByText := true, laidKinds := [.data, .pinned], laidTests := true, laidLooks := .later }
def FitLessCardSaid : Prop := Claim7.holds Tryz.pinned (.plain (OpenSpec.ofChange fitLessSpec)) fitLessCard

/-- THE TIED CARD OF 'ballastlaw12.FitCordon'. -/
def fitCordonCard : Claim7 := { stood := { row := fitCordonRow, standIns := [], harness := (true, "d56a8cb66f761728c3307fef9529ecefb26b10344749f6e480f6c8fab6c6bea7"), looks := true }, kinds := [], alts := [], laidByText := true, laidKinds := [.data, .pinned], laidTests := true, laidLooks := .later }
def FitCordonCardSaid : Prop := Claim7.holds Tryz.pinned (.plain (OpenSpec.ofChange fitCordonSpec)) fitCordonCard

/-- THE TIED CARD OF 'ballastlaw12.FitStays'. -/
def fitStaysCard : Claim7 := { stood := { row := fitStaysRow, standIns := [], harness := (true, "d56a8cb66f761728c3307fef9529ecefb26b10344749f6e480f6c8fab6c6bea7"), looks := true }, kinds := [], alts := [], laidByText := true, laidKinds := [.data, .pinned], laidTests := true, laidLooks := .later }
def FitStaysCardSaid : Prop := Claim7.holds Tryz.pinned (.plain (OpenSpec.ofChange fitStaysSpec)) fitStaysCard

/-- THE TIED CARD OF 'ballastlaw19.StratAny'. -/
def stratAnyCard : Claim7 := { stood := { row := stratAnyRow, standIns := [], harness := (true, "d56a8cb66f761728c3307fef9529ecefb26b10344749f6e480f6c8fab6c6bea7"), looks := true }, kinds := [], alts := [], laidByText := true, laidKinds := [.data, .pinned], laidTests := true, laidLooks := .later }
def StratAnyCardSaid : Prop := Claim7.holds Tryz.pinned (.plain (OpenSpec.ofChange stratAnySpec)) stratAnyCard

/-- THE TIED CARD OF 'ballastlaw19.StratOnce'. -/
def stratOnceCard : Claim7 := { stood := { row := stratOnceRow, standIns := [], harness := (true, "d56a8cb66f761728c3307fef9529ecefb26b10344749f6e480f6c8fab6c6bea7"), looks := true }, kinds := [], alts := [], laidByText := true, laidKinds := [.data, .pinned], laidTests := true, laidLooks := .later }
def StratOnceCardSaid : Prop := Claim7.holds Tryz.pinned (.plain (OpenSpec.ofChange stratOnceSpec)) stratOnceCard

/-- THE TIED CARD OF 'ballastlaw19.StratLevels'. -/
def stratLevelsCard : Claim7 := { stood := { row := stratLevelsRow, standIns := [], harness := (true, "d56a8cb66f761728c3307fef9529ecefb26b10344749f6e480f6c8fab6c6bea7"), looks := true }, kinds := [], alts := [], laidByText := true, laidKinds := [.data, .pinned], laidTests := true, laidLooks := .later }
def StratLevelsCardSaid : Prop := Claim7.holds Tryz.pinned (.plain (OpenSpec.ofChange stratLevelsSpec)) stratLevelsCard

/-- THE TIED CARD OF 'ballastlaw19.StratTwins'. -/
def stratTwinsCard : Claim7 := { stood := { row := stratTwinsRow, standIns := [], harness := (true, "d56a8cb66f761728c3307fef9529ecefb26b10344749f6e480f6c8fab6c6bea7"), looks := true }, kinds := [], alts := [], laidByText := true, laidKinds := [.data, .pinned], laidTests := true, laidLooks := .later }
def StratTwinsCardSaid : Prop := Claim7.holds Tryz.pinned (.plain (OpenSpec.ofChange stratTwinsSpec)) stratTwinsCard

/-- THE TIED CARD OF 'ballastlaw19.StratTaint'. -/
def stratTaintCard : Claim7 := { stood := { row := stratTaintRow, standIns := [], harness := (true, "d56a8cb66f761728c3307fef9529ecefb26b10344749f6e480f6c8fab6c6bea7"), looks := true }, kinds := [], alts := [], laidByText := true, laidKinds := [.data, .pinned], laidTests := true, laidLooks := .later }
def StratTaintCardSaid : Prop := Claim7.holds Tryz.pinned (.plain (OpenSpec.ofChange stratTaintSpec)) stratTaintCard

/-- THE TIED CARD OF 'ballastlaw9.StateAny'. -/
def stateAnyCard : Claim7 := { stood := { row := stateAnyRow, standIns := [], harness := (true, "d56a8cb66f761728c3307fef9529ecefb26b10344749f6e480f6c8fab6c6bea7"), looks := true }, kinds := [], alts := [], laidByText := true, laidKinds := [.data, .pinned], laidTests := true, laidLooks := .later }
def StateAnyCardSaid : Prop := Claim7.holds Tryz.pinned (.plain (OpenSpec.ofChange stateAnySpec)) stateAnyCard

/-- THE TIED CARD OF 'ballastlaw9.StateChanges'. -/
def stateChangesCard : Claim7 := { stood := { row := stateChangesRow, standIns := [], harness := (true, "d56a8cb66f761728c3307fef9529ecefb26b10344749f6e480f6c8fab6c6bea7"), looks := true }, kinds := [], alts := [], laidByText := true, laidKinds := [.data, .pinned], laidTests := true, laidLooks := .later }
def StateChangesCardSaid : Prop := Claim7.holds Tryz.pinned (.plain (OpenSpec.ofChange stateChangesSpec)) stateChangesCard

/-- THE TIED CARD OF 'ballastlaw9.StateTwo'. -/
def stateTwoCard : Claim7 := { stood := { row := stateTwoRow, standIns := [], harness := (true, "d56a8cb66f761728c3307fef9529ecefb26b10344749f6e480f6c8fab6c6bea7"), looks := true }, kinds := [], alts := [], laidByText := true, laidKinds := [.data, .pinned], laidTests := true, laidLooks := .later }
def StateTwoCardSaid : Prop := Claim7.holds Tryz.pinned (.plain (OpenSpec.ofChange stateTwoSpec)) stateTwoCard

/-- THE TIED CARD OF 'ballastlaw9.StateRoom'. -/
def stateRoomCard : Claim7 := { stood := { row := stateRoomRow, standIns := [], harness := (true, "d56a8cb66f761728c3307fef9529ecefb26b10344749f6e480f6c8fab6c6bea7"), looks := true }, kinds := [], alts := [], laidByText := true, laidKinds := [.data, .pinned], laidTests := true, laidLooks := .later }
def StateRoomCardSaid : Prop := Claim7.holds Tryz.pinned (.plain (OpenSpec.ofChange stateRoomSpec)) stateRoomCard

/-- THE TIED CARD OF 'ballastlaw9.StateFull'. -/
def stateFullCard : Claim7 := { stood := { row := stateFullRow, standIns := [], harness := (true, "d56a8cb66f761728c3307fef9529ecefb26b10344749f6e480f6c8fab6c6bea7"), looks := true }, kinds := [], alts := [], laidByText := true, laidKinds := [.data, .pinned], laidTests := true, laidLooks := .later }
def StateFullCardSaid : Prop := Claim7.holds Tryz.pinned (.plain (OpenSpec.ofChange stateFullSpec)) stateFullCard

/-- THE TIED CARD OF 'ballastlaw9.StateTotals'. -/
def stateTotalsCard : Claim7 := { stood := { row := stateTotalsRow, standIns := [], harness := (true, "d56a8cb66f761728c3307fef9529ecefb26b10344749f6e480f6c8fab6c6bea7"), looks := true }, kinds := [], alts := [], laidByText := true, laidKinds := [.data, .pinned], laidTests := true, laidLooks := .later }
def StateTotalsCardSaid : Prop := Claim7.holds Tryz.pinned (.plain (OpenSpec.ofChange stateTotalsSpec)) stateTotalsCard

/-- THE TIED CARD OF 'ballastlaw9.StatePuts'. -/
def statePutsCard : Claim7 := { stood := { row := statePutsRow, standIns := [], harness := (true, "d56a8cb66f761728c3307fef9529ecefb26b10344749f6e480f6c8fab6c6bea7"), looks := true }, kinds := [], alts := [], laidByText := true, laidKinds := [.data, .pinned], laidTests := true, laidLooks := .later }
def StatePutsCardSaid : Prop := Claim7.holds Tryz.pinned (.plain (OpenSpec.ofChange statePutsSpec)) statePutsCard

/-- THE TIED CARD OF 'ballastlaw21.MoveWords'. -/
def moveWordsCard : Claim7 := { stood := { row := moveWordsRow, standIns := [], harness := (true, "d56a8cb66f761728c3307fef9529ecefb26b10344749f6e480f6c8fab6c6bea7"), looks := true }, kinds := [], alts := [], laidByText := true, laidKinds := [.data, .pinned], laidTests := true, laidLooks := .later }
def MoveWordsCardSaid : Prop := Claim7.holds Tryz.pinned (.plain (OpenSpec.ofChange moveWordsSpec)) moveWordsCard

/-- THE TIED CARD OF 'ballastlaw21.MoveBack'. -/
def moveBackCard : Claim7 := { stood := { row := moveBackRow, standIns := [], harness := (true, "d56a8cb66f761728c3307fef9529ecefb26b10344749f6e480f6c8fab6c6bea7"), looks := true }, kinds := [], alts := [], laidByText := true, laidKinds := [.data, .pinned], laidTests := true, laidLooks := .later }
def MoveBackCardSaid : Prop := Claim7.holds Tryz.pinned (.plain (OpenSpec.ofChange moveBackSpec)) moveBackCard

/-- THE TIED CARD OF 'ballastlaw21.MoveFloors'. -/
def moveFloorsCard : Claim7 := { stood := { row := moveFloorsRow, standIns := [], harness := (true, "d56a8cb66f761728c3307fef9529ecefb26b10344749f6e480f6c8fab6c6bea7"), looks := true }, kinds := [], alts := [], laidByText := true, laidKinds := [.data, .pinned], laidTests := true, laidLooks := .later }
def MoveFloorsCardSaid : Prop := Claim7.holds Tryz.pinned (.plain (OpenSpec.ofChange moveFloorsSpec)) moveFloorsCard

/-- THE TIED CARD OF 'ballastlaw21.MoveTwo'. -/
def moveTwoCard : Claim7 := { stood := { row := moveTwoRow, standIns := [], harness := (true, "d56a8cb66f761728c3307fef9529ecefb26b10344749f6e480f6c8fab6c6bea7"), looks := true }, kinds := [], alts := [], laidByText := true, laidKinds := [.data, .pinned], laidTests := true, laidLooks := .later }
def MoveTwoCardSaid : Prop := Claim7.holds Tryz.pinned (.plain (OpenSpec.ofChange moveTwoSpec)) moveTwoCard

/-- THE TIED CARD OF 'ballastlaw12.FitSound'. -/
def fitSoundCard : Claim7 := { stood := { row := fitSoundRow, standIns := [], harness := (true, "d56a8cb66f761728c3307fef9529ecefb26b10344749f6e480f6c8fab6c6bea7"), looks := true }, kinds := [], alts := [], laidByText := true, laidKinds := [.data, .pinned], laidTests := true, laidLooks := .later }
def FitSoundCardSaid : Prop := Claim7.holds Tryz.pinned (.plain (OpenSpec.ofChange fitSoundSpec)) fitSoundCard

/-- THE SECOND FORM's CARD OF 'ballastlaw18.LevelRises'. -/
def levelRisesUptoCard : Claim7 := { stood := { row := levelRisesUptoRow, standIns := [], harness := (true, "d56a8cb66f761728c3307fef9529ecefb26b10344749f6e480f6c8fab6c6bea7"), looks := true }, kinds := [], alts := [], laidByText := true, laidKinds := [.data, .pinned], laidTests := true, laidLooks := .later }
def LevelRisesUptoCardSaid : Prop := Claim7.holds Tryz.pinned (.plain (OpenSpec.upto levelRisesSpec)) levelRisesUptoCard

/-- THE SECOND FORM's CARD OF 'ballastlaw12.FitAny'. -/
def fitAnyUptoCard : Claim7 := { stood := { row := fitAnyUptoRow, standIns := [], harness := (true, "d56a8cb66f761728c3307fef9529ecefb26b10344749f6e480f6c8fab6c6bea7"), looks := true }, kinds := [], alts := [], laidByText := true, laidKinds := [.data, .pinned], laidTests := true, laidLooks := .later }
def FitAnyUptoCardSaid : Prop := Claim7.holds Tryz.pinned (.plain (OpenSpec.upto fitAnySpec)) fitAnyUptoCard

/-- THE SECOND FORM's CARD OF 'ballastlaw12.FitLess'. -/
def fitLessUptoCard : Claim7 := { stood := { row := fitLessUptoRow, standIns := [], harness := (true, "d56a8cb66f761728c3307fef9529ecefb26b10344749f6e480f6c8fab6c6bea7"), looks := true }, kinds := [], alts := [], laidByText := true, laidKinds := [.data, .pinned], laidTests := true, laidLooks := .later }
def FitLessUptoCardSaid : Prop := Claim7.holds Tryz.pinned (.plain (OpenSpec.upto fitLessSpec)) fitLessUptoCard

/-- THE SECOND FORM's CARD OF 'ballastlaw12.FitCordon'. -/
def fitCordonUptoCard : Claim7 := { stood := { row := fitCordonUptoRow, standIns := [], harness := (true, "d56a8cb66f761728c3307fef9529ecefb26b10344749f6e480f6c8fab6c6bea7"), looks := true }, kinds := [], alts := [], laidByText := true, laidKinds := [.data, .pinned], laidTests := true, laidLooks := .later }
def FitCordonUptoCardSaid : Prop := Claim7.holds Tryz.pinned (.plain (OpenSpec.upto fitCordonSpec)) fitCordonUptoCard

/-- THE SECOND FORM's CARD OF 'ballastlaw12.FitStays'. -/
def fitStaysUptoCard : Claim7 := { stood := { row := fitStaysUptoRow, standIns := [], harness := (true, "d56a8cb66f761728c3307fef9529ecefb26b10344749f6e480f6c8fab6c6bea7"), looks := true }, kinds := [], alts := [], laidByText := true, laidKinds := [.data, .pinned], laidTests := true, laidLooks := .later }
def FitStaysUptoCardSaid : Prop := Claim7.holds Tryz.pinned (.plain (OpenSpec.upto fitStaysSpec)) fitStaysUptoCard

/-- THE SECOND FORM's CARD OF 'ballastlaw19.StratAny'. -/
def stratAnyUptoCard : Claim7 := { stood := { row := stratAnyUptoRow, standIns := [], harness := (true, "d56a8cb66f761728c3307fef9529ecefb26b10344749f6e480f6c8fab6c6bea7"), looks := true }, kinds := [], alts := [], laidByText := true, laidKinds := [.data, .pinned], laidTests := true, laidLooks := .later }
def StratAnyUptoCardSaid : Prop := Claim7.holds Tryz.pinned (.plain (OpenSpec.upto stratAnySpec)) stratAnyUptoCard

/-- THE SECOND FORM's CARD OF 'ballastlaw19.StratOnce'. -/
def stratOnceUptoCard : Claim7 := { stood := { row := stratOnceUptoRow, standIns := [], harness := (true, "d56a8cb66f761728c3307fef9529ecefb26b10344749f6e480f6c8fab6c6bea7"), looks := true }, kinds := [], alts := [], laidByText := true, laidKinds := [.data, .pinned], laidTests := true, laidLooks := .later }
def StratOnceUptoCardSaid : Prop := Claim7.holds Tryz.pinned (.plain (OpenSpec.upto stratOnceSpec)) stratOnceUptoCard

/-- THE SECOND FORM's CARD OF 'ballastlaw19.StratLevels'. -/
def stratLevelsUptoCard : Claim7 := { stood := { row := stratLevelsUptoRow, standIns := [], harness := (true, "d56a8cb66f761728c3307fef9529ecefb26b10344749f6e480f6c8fab6c6bea7"), looks := true }, kinds := [], alts := [], laidByText := true, laidKinds := [.data, .pinned], laidTests := true, laidLooks := .later }
def StratLevelsUptoCardSaid : Prop := Claim7.holds Tryz.pinned (.plain (OpenSpec.upto stratLevelsSpec)) stratLevelsUptoCard

/-- THE SECOND FORM's CARD OF 'ballastlaw19.StratTwins'. -/
def stratTwinsUptoCard : Claim7 := { stood := { row := stratTwinsUptoRow, standIns := [], harness := (true, "d56a8cb66f761728c3307fef9529ecefb26b10344749f6e480f6c8fab6c6bea7"), looks := true }, kinds := [], alts := [], laidByText := true, laidKinds := [.data, .pinned], laidTests := true, laidLooks := .later }
def StratTwinsUptoCardSaid : Prop := Claim7.holds Tryz.pinned (.plain (OpenSpec.upto stratTwinsSpec)) stratTwinsUptoCard

/-- THE SECOND FORM's CARD OF 'ballastlaw19.StratTaint'. -/
def stratTaintUptoCard : Claim7 := { stood := { row := stratTaintUptoRow, standIns := [], harness := (true, "d56a8cb66f761728c3307fef9529ecefb26b10344749f6e480f6c8fab6c6bea7"), looks := true }, kinds := [], alts := [], laidByText := true, laidKinds := [.data, .pinned], laidTests := true, laidLooks := .later }
def StratTaintUptoCardSaid : Prop := Claim7.holds Tryz.pinned (.plain (OpenSpec.upto stratTaintSpec)) stratTaintUptoCard

/-- THE SECOND FORM's CARD OF 'ballastlaw9.StateAny'. -/
def stateAnyUptoCard : Claim7 := { stood := { row := stateAnyUptoRow, standIns := [], harness := (true, "d56a8cb66f761728c3307fef9529ecefb26b10344749f6e480f6c8fab6c6bea7"), looks := true }, kinds := [], alts := [], laidByText := true, laidKinds := [.data, .pinned], laidTests := true, laidLooks := .later }
def StateAnyUptoCardSaid : Prop := Claim7.holds Tryz.pinned (.plain (OpenSpec.upto stateAnySpec)) stateAnyUptoCard

/-- THE SECOND FORM's CARD OF 'ballastlaw9.StateChanges'. -/
def stateChangesUptoCard : Claim7 := { stood := { row := stateChangesUptoRow, standIns := [], harness := (true, "d56a8cb66f761728c3307fef9529ecefb26b10344749f6e480f6c8fab6c6bea7"), looks := true }, kinds := [], alts := [], laidByText := true, laidKinds := [.data, .pinned], laidTests := true, laidLooks := .later }
def StateChangesUptoCardSaid : Prop := Claim7.holds Tryz.pinned (.plain (OpenSpec.upto stateChangesSpec)) stateChangesUptoCard

/-- THE SECOND FORM's CARD OF 'ballastlaw9.StateTwo'. -/
def stateTwoUptoCard : Claim7 := { stood := { row := stateTwoUptoRow, standIns := [], harness := (true, "d56a8cb66f761728c3307fef9529ecefb26b10344749f6e480f6c8fab6c6bea7"), looks := true }, kinds := [], alts := [], laidByText := true, laidKinds := [.data, .pinned], laidTests := true, laidLooks := .later }
def StateTwoUptoCardSaid : Prop := Claim7.holds Tryz.pinned (.plain (OpenSpec.upto stateTwoSpec)) stateTwoUptoCard

/-- THE SECOND FORM's CARD OF 'ballastlaw9.StateRoom'. -/
def stateRoomUptoCard : Claim7 := { stood := { row := stateRoomUptoRow, standIns := [], harness := (true, "d56a8cb66f761728c3307fef9529ecefb26b10344749f6e480f6c8fab6c6bea7"), looks := true }, kinds := [], alts := [], laidByText := true, laidKinds := [.data, .pinned], laidTests := true, laidLooks := .later }
def StateRoomUptoCardSaid : Prop := Claim7.holds Tryz.pinned (.plain (OpenSpec.upto stateRoomSpec)) stateRoomUptoCard

/-- THE SECOND FORM's CARD OF 'ballastlaw9.StateFull'. -/
def stateFullUptoCard : Claim7 := { stood := { row := stateFullUptoRow, standIns := [], harness := (true, "d56a8cb66f761728c3307fef9529ecefb26b10344749f6e480f6c8fab6c6bea7"), looks := true }, kinds := [], alts := [], laidByText := true, laidKinds := [.data, .pinned], laidTests := true, laidLooks := .later }
def StateFullUptoCardSaid : Prop := Claim7.holds Tryz.pinned (.plain (OpenSpec.upto stateFullSpec)) stateFullUptoCard

/-- THE SECOND FORM's CARD OF 'ballastlaw9.StateTotals'. -/
def stateTotalsUptoCard : Claim7 := { stood := { row := stateTotalsUptoRow, standIns := [], harness := (true, "d56a8cb66f761728c3307fef9529ecefb26b10344749f6e480f6c8fab6c6bea7"), looks := true }, kinds := [], alts := [], laidByText := true, laidKinds := [.data, .pinned], laidTests := true, laidLooks := .later }
def StateTotalsUptoCardSaid : Prop := Claim7.holds Tryz.pinned (.plain (OpenSpec.upto stateTotalsSpec)) stateTotalsUptoCard

/-- THE SECOND FORM's CARD OF 'ballastlaw9.StatePuts'. -/
def statePutsUptoCard : Claim7 := { stood := { row := statePutsUptoRow, standIns := [], harness := (true, "d56a8cb66f761728c3307fef9529ecefb26b10344749f6e480f6c8fab6c6bea7"), looks := true }, kinds := [], alts := [], laidByText := true, laidKinds := [.data, .pinned], laidTests := true, laidLooks := .later }
def StatePutsUptoCardSaid : Prop := Claim7.holds Tryz.pinned (.plain (OpenSpec.upto statePutsSpec)) statePutsUptoCard

/-- THE SECOND FORM's CARD OF 'ballastlaw21.MoveWords'. -/
def moveWordsUptoCard : Claim7 := { stood := { row := moveWordsUptoRow, standIns := [], harness := (true, "d56a8cb66f761728c3307fef9529ecefb26b10344749f6e480f6c8fab6c6bea7"), looks := true }, kinds := [], alts := [], laidByText := true, laidKinds := [.data, .pinned], laidTests := true, laidLooks := .later }
def MoveWordsUptoCardSaid : Prop := Claim7.holds Tryz.pinned (.plain (OpenSpec.upto moveWordsSpec)) moveWordsUptoCard

/-- THE SECOND FORM's CARD OF 'ballastlaw21.MoveBack'. -/
def moveBackUptoCard : Claim7 := { stood := { row := moveBackUptoRow, standIns := [], harness := (true, "d56a8cb66f761728c3307fef9529ecefb26b10344749f6e480f6c8fab6c6bea7"), looks := true }, kinds := [], alts := [], laidByText := true, laidKinds := [.data, .pinned], laidTests := true, laidLooks := .later }
def MoveBackUptoCardSaid : Prop := Claim7.holds Tryz.pinned (.plain (OpenSpec.upto moveBackSpec)) moveBackUptoCard

/-- THE SECOND FORM's CARD OF 'ballastlaw21.MoveFloors'. -/
def moveFloorsUptoCard : Claim7 := { stood := { row := moveFloorsUptoRow, standIns := [], harness := (true, "d56a8cb66f761728c3307fef9529ecefb26b10344749f6e480f6c8fab6c6bea7"), looks := true }, kinds := [], alts := [], laidByText := true, laidKinds := [.data, .pinned], laidTests := true, laidLooks := .later }
def MoveFloorsUptoCardSaid : Prop := Claim7.holds Tryz.pinned (.plain (OpenSpec.upto moveFloorsSpec)) moveFloorsUptoCard

/-- THE SECOND FORM's CARD OF 'ballastlaw21.MoveTwo'. -/
def moveTwoUptoCard : Claim7 := { stood := { row := moveTwoUptoRow, standIns := [], harness := (true, "d56a8cb66f761728c3307fef9529ecefb26b10344749f6e480f6c8fab6c6bea7"), looks := true }, kinds := [], alts := [], laidByText := true, laidKinds := [.data, .pinned], laidTests := true, laidLooks := .later }
def MoveTwoUptoCardSaid : Prop := Claim7.holds Tryz.pinned (.plain (OpenSpec.upto moveTwoSpec)) moveTwoUptoCard

/-- THE SECOND FORM's CARD OF 'ballastlaw12.FitSound'. -/
def fitSoundUptoCard : Claim7 := { stood := { row := fitSoundUptoRow, standIns := [], harness := (true, "d56a8cb66f761728c3307fef9529ecefb26b10344749f6e480f6c8fab6c6bea7"), looks := true }, kinds := [], alts := [], laidByText := true, laidKinds := [.data, .pinned], laidTests := true, laidLooks := .later }
def FitSoundUptoCardSaid : Prop := Claim7.holds Tryz.pinned (.plain (OpenSpec.upto fitSoundSpec)) fitSoundUptoCard
end Rows
end Go.Proofs.YtdolhcmhdjmoeaaGreatDoor
