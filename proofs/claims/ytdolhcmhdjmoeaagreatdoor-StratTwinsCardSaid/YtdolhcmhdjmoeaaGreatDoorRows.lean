/-
  NARROWER THAN 'FOR EVERY INPUT', by the rows' own cells (each row's printed sentence says how): LevelRises: laid · FitAny: laid · FitLess: laid · FitCordon: laid · FitStays: laid · StratAny: laid · StratOnce: laid · StratLevels: laid · StratTwins: laid · StratTaint: laid · StateAny: laid · StateChanges: laid · StateTwo: laid · StateRoom: laid · StateFull: laid · StateTotals: laid · StatePuts: laid · MoveWords: laid · MoveBack: laid · MoveFloors: laid · MoveTwo: laid · FitSound: laid.
  DERIVED. THE GIVEN ROWS OF THIS SEAT. 22 by the template 'for every input the law returns true; each argument reads behind the call as it read before'; 0 by the template 'total and deterministic' (their statements: YtdolhcmhdjmoeaaGreatDoorTotals.lean).
  GIVEN WITH THE SEED: the statements are not yours to turn. If you find one false, say at which input.
  Laid BY PROGRAM, IN A SANDBOX (cutbox-rows.mjs): the forced cells as the released guide's own fill.sh prints them over the translation 270062e557fd4f82… (all of the seat's roots in one cut). By AI agents, Wed Nov 11 2026. No macro, syntax, notation, axiom, sorry.
-/
import Derived.Test.YtdolhcmhdjmoeaaGreatDoorChecked
import GoSem.PinnedTables
import GoSem.Claim
import GoSem.ClaimJoined
import GoSem.ClaimMapViews
import Derived.JoinedTies
import Derived.KernelRfl
namespace Go.Proofs.YtdolhcmhdjmoeaaGreatDoor
/- THE CELL 'sum', in the pinned program and in every row, IS THE sha256 OF THE DUMP (.gsa) THAT YtdolhcmhdjmoeaaGreatDoorProg.lean LOADS. Nothing in Lean hashes anything: it is a label: what it is worth is what the hold of that sum in a sandbox is worth. -/
noncomputable def Tryz.pinned : Pinned := { name := "ytdolhcmhdjmoeaagreatdoor", sum := "270062e557fd4f82fb22f29d012aeadc7c87267b01f3c3cdcdb0cb246a1167ef", checked := Tryz.checked }
namespace Rows
def none {H : Type} : Left H := { results := [], args := [] }

/- WHAT THE LISTED PACKAGE-LEVEL VARIABLES READ AS WHEN THE CALL BEGINS. Each datum BY PROGRAM (the guide's laid-datum.mjs) off the statement by which the dump's own 'gosem.cut.vars' lays the variable. In a bare row this is a premise. The card (YtdolhcmhdjmoeaaGreatDoorCards.lean) ties it to the program's text. -/
def laid_unicode_utf8_acceptRanges {H : Type} : DataW H := .agg [.agg [.lit (.int .u8 128), .lit (.int .u8 191)], .agg [.lit (.int .u8 160), .lit (.int .u8 191)], .agg [.lit (.int .u8 128), .lit (.int .u8 159)], .agg [.lit (.int .u8 144), .lit (.int .u8 191)], .agg [.lit (.int .u8 128), .lit (.int .u8 143)], .agg [.lit (.int .u8 0), .lit (.int .u8 0)], .agg [.lit (.int .u8 0), .lit (.int .u8 0)], .agg [.lit (.int .u8 0), .lit (.int .u8 0)], .agg [.lit (.int .u8 0), .lit (.int .u8 0)], .agg [.lit (.int .u8 0), .lit (.int .u8 0)], .agg [.lit (.int .u8 0), .lit (.int .u8 0)], .agg [.lit (.int .u8 0), .lit (.int .u8 0)], .agg [.lit (.int .u8 0), .lit (.int .u8 0)], .agg [.lit (.int .u8 0), .lit (.int .u8 0)], .agg [.lit (.int .u8 0), .lit (.int .u8 0)], .agg [.lit (.int .u8 0), .lit (.int .u8 0)]]
/-- One of Go's own tables, pinned by name: the form's constant. -/
def laid_unicode_utf8_first : DataW Unit := Go.Pinned.utf8First

/-- 'ballastlaw18.LevelRises': WHATEVER THE INPUT: true; the input reads as it did. -/
def levelRisesSpec : ChangeSpec := { name := "levelRises", fn := fun _ => fun
  | [d1, d2, d3, d4, d5] => { results := [.lit (.bool true)], args := [d1, d2, d3, d4, d5] }
  | _ => none }
def levelRisesRow : OpenClaim := { program := "ytdolhcmhdjmoeaagreatdoor", sum := "270062e557fd4f82fb22f29d012aeadc7c87267b01f3c3cdcdb0cb246a1167ef", func := "ballast/ballastlaw18.LevelRises", spec := "levelRises", inPlace := ["math.Float64frombits", "internal/bytealg.IndexByteString", "internal/bytealg.IndexString", "math.Float64bits"], unfollowed := true, recurses := true, named := ["unicode/utf8.first", "unicode/utf8.acceptRanges", "internal/bytealg.MaxLen"], apart := false, laid := [("unicode/utf8.acceptRanges", laid_unicode_utf8_acceptRanges), ("unicode/utf8.first", laid_unicode_utf8_first)] }
def LevelRisesSaid : Prop := levelRisesRow.holds Tryz.pinned (OpenSpec.ofChange levelRisesSpec)

/-- ITS FALSE NEIGHBOUR: 'it returns false'. Refute it at one input. -/
def levelRisesWrong : ChangeSpec := { name := "levelRises", fn := fun _ => fun
  | [d1, d2, d3, d4, d5] => { results := [.lit (.bool false)], args := [d1, d2, d3, d4, d5] }
  | _ => none }
def LevelRisesWrongFalsely : Prop := levelRisesRow.holds Tryz.pinned (OpenSpec.ofChange levelRisesWrong)

/-- 'ballastlaw12.FitAny': WHATEVER THE INPUT: true; the input reads as it did. -/
def fitAnySpec : ChangeSpec := { name := "fitAny", fn := fun _ => fun
  | [d1, d2, d3] => { results := [.lit (.bool true)], args := [d1, d2, d3] }
  | _ => none }
def fitAnyRow : OpenClaim := { program := "ytdolhcmhdjmoeaagreatdoor", sum := "270062e557fd4f82fb22f29d012aeadc7c87267b01f3c3cdcdb0cb246a1167ef", func := "ballast/ballastlaw12.FitAny", spec := "fitAny", inPlace := ["internal/bytealg.IndexByteString", "internal/bytealg.IndexString"], unfollowed := true, recurses := true, named := ["unicode/utf8.first", "unicode/utf8.acceptRanges", "internal/bytealg.MaxLen"], apart := false, laid := [("unicode/utf8.acceptRanges", laid_unicode_utf8_acceptRanges), ("unicode/utf8.first", laid_unicode_utf8_first)] }
def FitAnySaid : Prop := fitAnyRow.holds Tryz.pinned (OpenSpec.ofChange fitAnySpec)

/-- ITS FALSE NEIGHBOUR: 'it returns false'. Refute it at one input. -/
def fitAnyWrong : ChangeSpec := { name := "fitAny", fn := fun _ => fun
  | [d1, d2, d3] => { results := [.lit (.bool false)], args := [d1, d2, d3] }
  | _ => none }
def FitAnyWrongFalsely : Prop := fitAnyRow.holds Tryz.pinned (OpenSpec.ofChange fitAnyWrong)

/-- 'ballastlaw12.FitLess': WHATEVER THE INPUT: true; the input reads as it did. -/
def fitLessSpec : ChangeSpec := { name := "fitLess", fn := fun _ => fun
  | [d1, d2, d3] => { results := [.lit (.bool true)], args := [d1, d2, d3] }
  | _ => none }
def fitLessRow : OpenClaim := { program := "ytdolhcmhdjmoeaagreatdoor", sum := "270062e557fd4f82fb22f29d012aeadc7c87267b01f3c3cdcdb0cb246a1167ef", func := "ballast/ballastlaw12.FitLess", spec := "fitLess", inPlace := ["internal/bytealg.IndexByteString", "internal/bytealg.IndexString"], unfollowed := true, recurses := true, named := ["unicode/utf8.first", "unicode/utf8.acceptRanges", "internal/bytealg.MaxLen"], apart := false, laid := [("unicode/utf8.acceptRanges", laid_unicode_utf8_acceptRanges), ("unicode/utf8.first", laid_unicode_utf8_first)] }
def FitLessSaid : Prop := fitLessRow.holds Tryz.pinned (OpenSpec.ofChange fitLessSpec)

/-- ITS FALSE NEIGHBOUR: 'it returns false'. Refute it at one input. -/
def fitLessWrong : ChangeSpec := { name := "fitLess", fn := fun _ => fun
  | [d1, d2, d3] => { results := [.lit (.bool false)], args := [d1, d2, d3] }
  | _ => none }
def FitLessWrongFalsely : Prop := fitLessRow.holds Tryz.pinned (OpenSpec.ofChange fitLessWrong)

/-- 'ballastlaw12.FitCordon': WHATEVER THE INPUT: true; the input reads as it did. -/
def fitCordonSpec : ChangeSpec := { name := "fitCordon", fn := fun _ => fun
  | [d1, d2, d3] => { results := [.lit (.bool true)], args := [d1, d2, d3] }
  | _ => none }
def fitCordonRow : OpenClaim := { program := "ytdolhcmhdjmoeaagreatdoor", sum := "270062e557fd4f82fb22f29d012aeadc7c87267b01f3c3cdcdb0cb246a1167ef", func := "ballast/ballastlaw12.FitCordon", spec := "fitCordon", inPlace := ["internal/bytealg.IndexByteString", "internal/bytealg.IndexString"], unfollowed := true, recurses := true, named := ["unicode/utf8.first", "unicode/utf8.acceptRanges", "internal/bytealg.MaxLen"], apart := false, laid := [("unicode/utf8.acceptRanges", laid_unicode_utf8_acceptRanges), ("unicode/utf8.first", laid_unicode_utf8_first)] }
def FitCordonSaid : Prop := fitCordonRow.holds Tryz.pinned (OpenSpec.ofChange fitCordonSpec)

/-- ITS FALSE NEIGHBOUR: 'it returns false'. Refute it at one input. -/
def fitCordonWrong : ChangeSpec := { name := "fitCordon", fn := fun _ => fun
  | [d1, d2, d3] => { results := [.lit (.bool false)], args := [d1, d2, d3] }
  | _ => none }
def FitCordonWrongFalsely : Prop := fitCordonRow.holds Tryz.pinned (OpenSpec.ofChange fitCordonWrong)

/-- 'ballastlaw12.FitStays': WHATEVER THE INPUT: true; the input reads as it did. -/
def fitStaysSpec : ChangeSpec := { name := "fitStays", fn := fun _ => fun
  | [d] => { results := [.lit (.bool true)], args := [d] }
  | _ => none }
def fitStaysRow : OpenClaim := { program := "ytdolhcmhdjmoeaagreatdoor", sum := "270062e557fd4f82fb22f29d012aeadc7c87267b01f3c3cdcdb0cb246a1167ef", func := "ballast/ballastlaw12.FitStays", spec := "fitStays", inPlace := ["internal/bytealg.IndexByteString", "internal/bytealg.IndexString"], unfollowed := true, recurses := true, named := ["unicode/utf8.first", "unicode/utf8.acceptRanges", "internal/bytealg.MaxLen"], apart := false, laid := [("unicode/utf8.acceptRanges", laid_unicode_utf8_acceptRanges), ("unicode/utf8.first", laid_unicode_utf8_first)] }
def FitStaysSaid : Prop := fitStaysRow.holds Tryz.pinned (OpenSpec.ofChange fitStaysSpec)

/-- ITS FALSE NEIGHBOUR: 'it returns false'. Refute it at one input. -/
def fitStaysWrong : ChangeSpec := { name := "fitStays", fn := fun _ => fun
  | [d] => { results := [.lit (.bool false)], args := [d] }
  | _ => none }
def FitStaysWrongFalsely : Prop := fitStaysRow.holds Tryz.pinned (OpenSpec.ofChange fitStaysWrong)

/-- 'ballastlaw19.StratAny': WHATEVER THE INPUT: true; the input reads as it did. -/
def stratAnySpec : ChangeSpec := { name := "stratAny", fn := fun _ => fun
  | [d1, d2, d3, d4, d5] => { results := [.lit (.bool true)], args := [d1, d2, d3, d4, d5] }
  | _ => none }
def stratAnyRow : OpenClaim := { program := "ytdolhcmhdjmoeaagreatdoor", sum := "270062e557fd4f82fb22f29d012aeadc7c87267b01f3c3cdcdb0cb246a1167ef", func := "ballast/ballastlaw19.StratAny", spec := "stratAny", inPlace := ["math.Float64frombits", "internal/bytealg.IndexByteString", "internal/bytealg.IndexString", "math.Float64bits"], unfollowed := true, recurses := true, named := ["unicode/utf8.first", "unicode/utf8.acceptRanges", "internal/bytealg.MaxLen"], apart := false, laid := [("unicode/utf8.acceptRanges", laid_unicode_utf8_acceptRanges), ("unicode/utf8.first", laid_unicode_utf8_first)] }
def StratAnySaid : Prop := stratAnyRow.holds Tryz.pinned (OpenSpec.ofChange stratAnySpec)

/-- ITS FALSE NEIGHBOUR: 'it returns false'. Refute it at one input. -/
def stratAnyWrong : ChangeSpec := { name := "stratAny", fn := fun _ => fun
  | [d1, d2, d3, d4, d5] => { results := [.lit (.bool false)], args := [d1, d2, d3, d4, d5] }
  | _ => none }
def StratAnyWrongFalsely : Prop := stratAnyRow.holds Tryz.pinned (OpenSpec.ofChange stratAnyWrong)

/-- 'ballastlaw19.StratOnce': WHATEVER THE INPUT: true; the input reads as it did. -/
def stratOnceSpec : ChangeSpec := { name := "stratOnce", fn := fun _ => fun
  | [d1, d2, d3, d4] => { results := [.lit (.bool true)], args := [d1, d2, d3, d4] }
  | _ => none }
def stratOnceRow : OpenClaim := { program := "ytdolhcmhdjmoeaagreatdoor", sum := "270062e557fd4f82fb22f29d012aeadc7c87267b01f3c3cdcdb0cb246a1167ef", func := "ballast/ballastlaw19.StratOnce", spec := "stratOnce", inPlace := ["math.Float64frombits", "internal/bytealg.IndexByteString", "internal/bytealg.IndexString", "math.Float64bits"], unfollowed := true, recurses := true, named := ["unicode/utf8.first", "unicode/utf8.acceptRanges", "internal/bytealg.MaxLen"], apart := false, laid := [("unicode/utf8.acceptRanges", laid_unicode_utf8_acceptRanges), ("unicode/utf8.first", laid_unicode_utf8_first)] }
def StratOnceSaid : Prop := stratOnceRow.holds Tryz.pinned (OpenSpec.ofChange stratOnceSpec)

/-- ITS FALSE NEIGHBOUR: 'it returns false'. Refute it at one input. -/
def stratOnceWrong : ChangeSpec := { name := "stratOnce", fn := fun _ => fun
  | [d1, d2, d3, d4] => { results := [.lit (.bool false)], args := [d1, d2, d3, d4] }
  | _ => none }
def StratOnceWrongFalsely : Prop := stratOnceRow.holds Tryz.pinned (OpenSpec.ofChange stratOnceWrong)

/-- 'ballastlaw19.StratLevels': WHATEVER THE INPUT: true; the input reads as it did. -/
def stratLevelsSpec : ChangeSpec := { name := "stratLevels", fn := fun _ => fun
  | [d] => { results := [.lit (.bool true)], args := [d] }
  | _ => none }
def stratLevelsRow : OpenClaim := { program := "ytdolhcmhdjmoeaagreatdoor", sum := "270062e557fd4f82fb22f29d012aeadc7c87267b01f3c3cdcdb0cb246a1167ef", func := "ballast/ballastlaw19.StratLevels", spec := "stratLevels", inPlace := ["math.Float64frombits", "internal/bytealg.IndexByteString", "internal/bytealg.IndexString", "math.Float64bits"], unfollowed := true, recurses := true, named := ["unicode/utf8.first", "unicode/utf8.acceptRanges", "internal/bytealg.MaxLen"], apart := false, laid := [("unicode/utf8.acceptRanges", laid_unicode_utf8_acceptRanges), ("unicode/utf8.first", laid_unicode_utf8_first)] }
def StratLevelsSaid : Prop := stratLevelsRow.holds Tryz.pinned (OpenSpec.ofChange stratLevelsSpec)

/-- ITS FALSE NEIGHBOUR: 'it returns false'. Refute it at one input. -/
def stratLevelsWrong : ChangeSpec := { name := "stratLevels", fn := fun _ => fun
  | [d] => { results := [.lit (.bool false)], args := [d] }
  | _ => none }
def StratLevelsWrongFalsely : Prop := stratLevelsRow.holds Tryz.pinned (OpenSpec.ofChange stratLevelsWrong)

/-- 'ballastlaw19.StratTwins': WHATEVER THE INPUT: true; the input reads as it did. -/
def stratTwinsSpec : ChangeSpec := { name := "stratTwins", fn := fun _ => fun
  | [d] => { results := [.lit (.bool true)], args := [d] }
  | _ => none }
def stratTwinsRow : OpenClaim := { program := "ytdolhcmhdjmoeaagreatdoor", sum := "270062e557fd4f82fb22f29d012aeadc7c87267b01f3c3cdcdb0cb246a1167ef", func := "ballast/ballastlaw19.StratTwins", spec := "stratTwins", inPlace := ["math.Float64frombits", "internal/bytealg.IndexByteString", "internal/bytealg.IndexString", "math.Float64bits"], unfollowed := true, recurses := true, named := ["unicode/utf8.first", "unicode/utf8.acceptRanges", "internal/bytealg.MaxLen"], apart := false, laid := [("unicode/utf8.acceptRanges", laid_unicode_utf8_acceptRanges), ("unicode/utf8.first", laid_unicode_utf8_first)] }
def StratTwinsSaid : Prop := stratTwinsRow.holds Tryz.pinned (OpenSpec.ofChange stratTwinsSpec)

/-- ITS FALSE NEIGHBOUR: 'it returns false'. Refute it at one input. -/
def stratTwinsWrong : ChangeSpec := { name := "stratTwins", fn := fun _ => fun
  | [d] => { results := [.lit (.bool false)], args := [d] }
  | _ => none }
def StratTwinsWrongFalsely : Prop := stratTwinsRow.holds Tryz.pinned (OpenSpec.ofChange stratTwinsWrong)

/-- 'ballastlaw19.StratTaint': WHATEVER THE INPUT: true; the input reads as it did. -/
def stratTaintSpec : ChangeSpec := { name := "stratTaint", fn := fun _ => fun
  | [d] => { results := [.lit (.bool true)], args := [d] }
  | _ => none }
def stratTaintRow : OpenClaim := { program := "ytdolhcmhdjmoeaagreatdoor", sum := "270062e557fd4f82fb22f29d012aeadc7c87267b01f3c3cdcdb0cb246a1167ef", func := "ballast/ballastlaw19.StratTaint", spec := "stratTaint", inPlace := ["math.Float64frombits", "internal/bytealg.IndexByteString", "internal/bytealg.IndexString", "math.Float64bits"], unfollowed := true, recurses := true, named := ["unicode/utf8.first", "unicode/utf8.acceptRanges", "internal/bytealg.MaxLen"], apart := false, laid := [("unicode/utf8.acceptRanges", laid_unicode_utf8_acceptRanges), ("unicode/utf8.first", laid_unicode_utf8_first)] }
def StratTaintSaid : Prop := stratTaintRow.holds Tryz.pinned (OpenSpec.ofChange stratTaintSpec)

/-- ITS FALSE NEIGHBOUR: 'it returns false'. Refute it at one input. -/
def stratTaintWrong : ChangeSpec := { name := "stratTaint", fn := fun _ => fun
  | [d] => { results := [.lit (.bool false)], args := [d] }
  | _ => none }
def StratTaintWrongFalsely : Prop := stratTaintRow.holds Tryz.pinned (OpenSpec.ofChange stratTaintWrong)

/-- 'ballastlaw9.StateAny': WHATEVER THE INPUT: true; the input reads as it did. -/
def stateAnySpec : ChangeSpec := { name := "stateAny", fn := fun _ => fun
  | [d1, d2] => { results := [.lit (.bool true)], args := [d1, d2] }
  | _ => none }
def stateAnyRow : OpenClaim := { program := "ytdolhcmhdjmoeaagreatdoor", sum := "270062e557fd4f82fb22f29d012aeadc7c87267b01f3c3cdcdb0cb246a1167ef", func := "ballast/ballastlaw9.StateAny", spec := "stateAny", inPlace := ["internal/bytealg.IndexByteString", "internal/bytealg.IndexString", "internal/bytealg.abigen_runtime_cmpstring", "slices.overlaps[ballast/pod.Pod]"], unfollowed := true, recurses := true, named := ["unicode/utf8.first", "unicode/utf8.acceptRanges", "internal/bytealg.MaxLen"], apart := false, laid := [("unicode/utf8.acceptRanges", laid_unicode_utf8_acceptRanges), ("unicode/utf8.first", laid_unicode_utf8_first)] }
def StateAnySaid : Prop := stateAnyRow.holds Tryz.pinned (OpenSpec.ofChange stateAnySpec)

/-- ITS FALSE NEIGHBOUR: 'it returns false'. Refute it at one input. -/
def stateAnyWrong : ChangeSpec := { name := "stateAny", fn := fun _ => fun
  | [d1, d2] => { results := [.lit (.bool false)], args := [d1, d2] }
  | _ => none }
def StateAnyWrongFalsely : Prop := stateAnyRow.holds Tryz.pinned (OpenSpec.ofChange stateAnyWrong)

/-- 'ballastlaw9.StateChanges': WHATEVER THE INPUT: true; the input reads as it did. -/
def stateChangesSpec : ChangeSpec := { name := "stateChanges", fn := fun _ => fun
  | [d1, d2, d3, d4] => { results := [.lit (.bool true)], args := [d1, d2, d3, d4] }
  | _ => none }
def stateChangesRow : OpenClaim := { program := "ytdolhcmhdjmoeaagreatdoor", sum := "270062e557fd4f82fb22f29d012aeadc7c87267b01f3c3cdcdb0cb246a1167ef", func := "ballast/ballastlaw9.StateChanges", spec := "stateChanges", inPlace := ["internal/bytealg.IndexByteString", "internal/bytealg.IndexString", "internal/bytealg.abigen_runtime_cmpstring", "slices.overlaps[ballast/pod.Pod]"], unfollowed := true, recurses := true, named := ["unicode/utf8.first", "unicode/utf8.acceptRanges", "internal/bytealg.MaxLen"], apart := false, laid := [("unicode/utf8.acceptRanges", laid_unicode_utf8_acceptRanges), ("unicode/utf8.first", laid_unicode_utf8_first)] }
def StateChangesSaid : Prop := stateChangesRow.holds Tryz.pinned (OpenSpec.ofChange stateChangesSpec)

/-- ITS FALSE NEIGHBOUR: 'it returns false'. Refute it at one input. -/
def stateChangesWrong : ChangeSpec := { name := "stateChanges", fn := fun _ => fun
  | [d1, d2, d3, d4] => { results := [.lit (.bool false)], args := [d1, d2, d3, d4] }
  | _ => none }
def StateChangesWrongFalsely : Prop := stateChangesRow.holds Tryz.pinned (OpenSpec.ofChange stateChangesWrong)

/-- 'ballastlaw9.StateTwo': WHATEVER THE INPUT: true; the input reads as it did. -/
def stateTwoSpec : ChangeSpec := { name := "stateTwo", fn := fun _ => fun
  | [d1, d2] => { results := [.lit (.bool true)], args := [d1, d2] }
  | _ => none }
def stateTwoRow : OpenClaim := { program := "ytdolhcmhdjmoeaagreatdoor", sum := "270062e557fd4f82fb22f29d012aeadc7c87267b01f3c3cdcdb0cb246a1167ef", func := "ballast/ballastlaw9.StateTwo", spec := "stateTwo", inPlace := ["internal/bytealg.IndexByteString", "internal/bytealg.IndexString", "internal/bytealg.abigen_runtime_cmpstring", "slices.overlaps[ballast/pod.Pod]"], unfollowed := true, recurses := true, named := ["unicode/utf8.first", "unicode/utf8.acceptRanges", "internal/bytealg.MaxLen"], apart := false, laid := [("unicode/utf8.acceptRanges", laid_unicode_utf8_acceptRanges), ("unicode/utf8.first", laid_unicode_utf8_first)] }
def StateTwoSaid : Prop := stateTwoRow.holds Tryz.pinned (OpenSpec.ofChange stateTwoSpec)

/-- ITS FALSE NEIGHBOUR: 'it returns false'. Refute it at one input. -/
def stateTwoWrong : ChangeSpec := { name := "stateTwo", fn := fun _ => fun
  | [d1, d2] => { results := [.lit (.bool false)], args := [d1, d2] }
  | _ => none }
def StateTwoWrongFalsely : Prop := stateTwoRow.holds Tryz.pinned (OpenSpec.ofChange stateTwoWrong)

/-- 'ballastlaw9.StateRoom': WHATEVER THE INPUT: true; the input reads as it did. -/
def stateRoomSpec : ChangeSpec := { name := "stateRoom", fn := fun _ => fun
  | [d1, d2, d3] => { results := [.lit (.bool true)], args := [d1, d2, d3] }
  | _ => none }
def stateRoomRow : OpenClaim := { program := "ytdolhcmhdjmoeaagreatdoor", sum := "270062e557fd4f82fb22f29d012aeadc7c87267b01f3c3cdcdb0cb246a1167ef", func := "ballast/ballastlaw9.StateRoom", spec := "stateRoom", inPlace := ["internal/bytealg.IndexByteString", "internal/bytealg.IndexString", "internal/bytealg.abigen_runtime_cmpstring", "slices.overlaps[ballast/pod.Pod]"], unfollowed := true, recurses := true, named := ["unicode/utf8.first", "unicode/utf8.acceptRanges", "internal/bytealg.MaxLen"], apart := false, laid := [("unicode/utf8.acceptRanges", laid_unicode_utf8_acceptRanges), ("unicode/utf8.first", laid_unicode_utf8_first)] }
def StateRoomSaid : Prop := stateRoomRow.holds Tryz.pinned (OpenSpec.ofChange stateRoomSpec)

/-- ITS FALSE NEIGHBOUR: 'it returns false'. Refute it at one input. -/
def stateRoomWrong : ChangeSpec := { name := "stateRoom", fn := fun _ => fun
  | [d1, d2, d3] => { results := [.lit (.bool false)], args := [d1, d2, d3] }
  | _ => none }
def StateRoomWrongFalsely : Prop := stateRoomRow.holds Tryz.pinned (OpenSpec.ofChange stateRoomWrong)

/-- 'ballastlaw9.StateFull': WHATEVER THE INPUT: true; the input reads as it did. -/
def stateFullSpec : ChangeSpec := { name := "stateFull", fn := fun _ => fun
  | [d1, d2] => { results := [.lit (.bool true)], args := [d1, d2] }
  | _ => none }
def stateFullRow : OpenClaim := { program := "ytdolhcmhdjmoeaagreatdoor", sum := "270062e557fd4f82fb22f29d012aeadc7c87267b01f3c3cdcdb0cb246a1167ef", func := "ballast/ballastlaw9.StateFull", spec := "stateFull", inPlace := ["internal/bytealg.IndexByteString", "internal/bytealg.IndexString", "internal/bytealg.abigen_runtime_cmpstring", "slices.overlaps[ballast/pod.Pod]"], unfollowed := true, recurses := true, named := ["unicode/utf8.first", "unicode/utf8.acceptRanges", "internal/bytealg.MaxLen"], apart := false, laid := [("unicode/utf8.acceptRanges", laid_unicode_utf8_acceptRanges), ("unicode/utf8.first", laid_unicode_utf8_first)] }
def StateFullSaid : Prop := stateFullRow.holds Tryz.pinned (OpenSpec.ofChange stateFullSpec)

/-- ITS FALSE NEIGHBOUR: 'it returns false'. Refute it at one input. -/
def stateFullWrong : ChangeSpec := { name := "stateFull", fn := fun _ => fun
  | [d1, d2] => { results := [.lit (.bool false)], args := [d1, d2] }
  | _ => none }
def StateFullWrongFalsely : Prop := stateFullRow.holds Tryz.pinned (OpenSpec.ofChange stateFullWrong)

/-- 'ballastlaw9.StateTotals': WHATEVER THE INPUT: true; the input reads as it did. -/
def stateTotalsSpec : ChangeSpec := { name := "stateTotals", fn := fun _ => fun
  | [d1, d2] => { results := [.lit (.bool true)], args := [d1, d2] }
  | _ => none }
def stateTotalsRow : OpenClaim := { program := "ytdolhcmhdjmoeaagreatdoor", sum := "270062e557fd4f82fb22f29d012aeadc7c87267b01f3c3cdcdb0cb246a1167ef", func := "ballast/ballastlaw9.StateTotals", spec := "stateTotals", inPlace := ["internal/bytealg.IndexByteString", "internal/bytealg.IndexString", "internal/bytealg.abigen_runtime_cmpstring", "slices.overlaps[ballast/pod.Pod]"], unfollowed := true, recurses := true, named := ["unicode/utf8.first", "unicode/utf8.acceptRanges", "internal/bytealg.MaxLen"], apart := false, laid := [("unicode/utf8.acceptRanges", laid_unicode_utf8_acceptRanges), ("unicode/utf8.first", laid_unicode_utf8_first)] }
def StateTotalsSaid : Prop := stateTotalsRow.holds Tryz.pinned (OpenSpec.ofChange stateTotalsSpec)

/-- ITS FALSE NEIGHBOUR: 'it returns false'. Refute it at one input. -/
def stateTotalsWrong : ChangeSpec := { name := "stateTotals", fn := fun _ => fun
  | [d1, d2] => { results := [.lit (.bool false)], args := [d1, d2] }
  | _ => none }
def StateTotalsWrongFalsely : Prop := stateTotalsRow.holds Tryz.pinned (OpenSpec.ofChange stateTotalsWrong)

/-- 'ballastlaw9.StatePuts': WHATEVER THE INPUT: true; the input reads as it did. -/
def statePutsSpec : ChangeSpec := { name := "statePuts", fn := fun _ => fun
  | [d1, d2] => { results := [.lit (.bool true)], args := [d1, d2] }
  | _ => none }
def statePutsRow : OpenClaim := { program := "ytdolhcmhdjmoeaagreatdoor", sum := "270062e557fd4f82fb22f29d012aeadc7c87267b01f3c3cdcdb0cb246a1167ef", func := "ballast/ballastlaw9.StatePuts", spec := "statePuts", inPlace := ["internal/bytealg.IndexByteString", "internal/bytealg.IndexString", "internal/bytealg.abigen_runtime_cmpstring", "slices.overlaps[ballast/pod.Pod]"], unfollowed := true, recurses := true, named := ["unicode/utf8.first", "unicode/utf8.acceptRanges", "internal/bytealg.MaxLen"], apart := false, laid := [("unicode/utf8.acceptRanges", laid_unicode_utf8_acceptRanges), ("unicode/utf8.first", laid_unicode_utf8_first)] }
def StatePutsSaid : Prop := statePutsRow.holds Tryz.pinned (OpenSpec.ofChange statePutsSpec)

/-- ITS FALSE NEIGHBOUR: 'it returns false'. Refute it at one input. -/
def statePutsWrong : ChangeSpec := { name := "statePuts", fn := fun _ => fun
  | [d1, d2] => { results := [.lit (.bool false)], args := [d1, d2] }
  | _ => none }
def StatePutsWrongFalsely : Prop := statePutsRow.holds Tryz.pinned (OpenSpec.ofChange statePutsWrong)

/-- 'ballastlaw21.MoveWords': WHATEVER THE INPUT: true; the input reads as it did. -/
def moveWordsSpec : ChangeSpec := { name := "moveWords", fn := fun _ => fun
  | [d] => { results := [.lit (.bool true)], args := [d] }
  | _ => none }
def moveWordsRow : OpenClaim := { program := "ytdolhcmhdjmoeaagreatdoor", sum := "270062e557fd4f82fb22f29d012aeadc7c87267b01f3c3cdcdb0cb246a1167ef", func := "ballast/ballastlaw21.MoveWords", spec := "moveWords", inPlace := ["internal/bytealg.IndexByteString", "internal/bytealg.IndexString", "internal/bytealg.CountString"], unfollowed := true, recurses := true, named := ["unicode/utf8.first", "unicode/utf8.acceptRanges", "internal/bytealg.MaxLen"], apart := false, laid := [("unicode/utf8.acceptRanges", laid_unicode_utf8_acceptRanges), ("unicode/utf8.first", laid_unicode_utf8_first)] }
def MoveWordsSaid : Prop := moveWordsRow.holds Tryz.pinned (OpenSpec.ofChange moveWordsSpec)

/-- ITS FALSE NEIGHBOUR: 'it returns false'. Refute it at one input. -/
def moveWordsWrong : ChangeSpec := { name := "moveWords", fn := fun _ => fun
  | [d] => { results := [.lit (.bool false)], args := [d] }
  | _ => none }
def MoveWordsWrongFalsely : Prop := moveWordsRow.holds Tryz.pinned (OpenSpec.ofChange moveWordsWrong)

/-- 'ballastlaw21.MoveBack': WHATEVER THE INPUT: true; the input reads as it did. -/
def moveBackSpec : ChangeSpec := { name := "moveBack", fn := fun _ => fun
  | [d1, d2] => { results := [.lit (.bool true)], args := [d1, d2] }
  | _ => none }
def moveBackRow : OpenClaim := { program := "ytdolhcmhdjmoeaagreatdoor", sum := "270062e557fd4f82fb22f29d012aeadc7c87267b01f3c3cdcdb0cb246a1167ef", func := "ballast/ballastlaw21.MoveBack", spec := "moveBack", inPlace := ["internal/bytealg.IndexByteString", "internal/bytealg.IndexString", "internal/bytealg.CountString"], unfollowed := true, recurses := true, named := ["unicode/utf8.first", "unicode/utf8.acceptRanges", "internal/bytealg.MaxLen"], apart := false, laid := [("unicode/utf8.acceptRanges", laid_unicode_utf8_acceptRanges), ("unicode/utf8.first", laid_unicode_utf8_first)] }
def MoveBackSaid : Prop := moveBackRow.holds Tryz.pinned (OpenSpec.ofChange moveBackSpec)

/-- ITS FALSE NEIGHBOUR: 'it returns false'. Refute it at one input. -/
def moveBackWrong : ChangeSpec := { name := "moveBack", fn := fun _ => fun
  | [d1, d2] => { results := [.lit (.bool false)], args := [d1, d2] }
  | _ => none }
def MoveBackWrongFalsely : Prop := moveBackRow.holds Tryz.pinned (OpenSpec.ofChange moveBackWrong)

/-- 'ballastlaw21.MoveFloors': WHATEVER THE INPUT: true; the input reads as it did. -/
def moveFloorsSpec : ChangeSpec := { name := "moveFloors", fn := fun _ => fun
  | [d1, d2] => { results := [.lit (.bool true)], args := [d1, d2] }
  | _ => none }
def moveFloorsRow : OpenClaim := { program := "ytdolhcmhdjmoeaagreatdoor", sum := "270062e557fd4f82fb22f29d012aeadc7c87267b01f3c3cdcdb0cb246a1167ef", func := "ballast/ballastlaw21.MoveFloors", spec := "moveFloors", inPlace := ["internal/bytealg.IndexByteString", "internal/bytealg.IndexString", "internal/bytealg.CountString"], unfollowed := true, recurses := true, named := ["unicode/utf8.first", "unicode/utf8.acceptRanges", "internal/bytealg.MaxLen"], apart := false, laid := [("unicode/utf8.acceptRanges", laid_unicode_utf8_acceptRanges), ("unicode/utf8.first", laid_unicode_utf8_first)] }
def MoveFloorsSaid : Prop := moveFloorsRow.holds Tryz.pinned (OpenSpec.ofChange moveFloorsSpec)

/-- ITS FALSE NEIGHBOUR: 'it returns false'. Refute it at one input. -/
def moveFloorsWrong : ChangeSpec := { name := "moveFloors", fn := fun _ => fun
  | [d1, d2] => { results := [.lit (.bool false)], args := [d1, d2] }
  | _ => none }
def MoveFloorsWrongFalsely : Prop := moveFloorsRow.holds Tryz.pinned (OpenSpec.ofChange moveFloorsWrong)

/-- 'ballastlaw21.MoveTwo': WHATEVER THE INPUT: true; the input reads as it did. -/
def moveTwoSpec : ChangeSpec := { name := "moveTwo", fn := fun _ => fun
  | [d1, d2, d3] => { results := [.lit (.bool true)], args := [d1, d2, d3] }
  | _ => none }
def moveTwoRow : OpenClaim := { program := "ytdolhcmhdjmoeaagreatdoor", sum := "270062e557fd4f82fb22f29d012aeadc7c87267b01f3c3cdcdb0cb246a1167ef", func := "ballast/ballastlaw21.MoveTwo", spec := "moveTwo", inPlace := ["internal/bytealg.IndexByteString", "internal/bytealg.IndexString", "internal/bytealg.CountString"], unfollowed := true, recurses := true, named := ["unicode/utf8.first", "unicode/utf8.acceptRanges", "internal/bytealg.MaxLen"], apart := false, laid := [("unicode/utf8.acceptRanges", laid_unicode_utf8_acceptRanges), ("unicode/utf8.first", laid_unicode_utf8_first)] }
def MoveTwoSaid : Prop := moveTwoRow.holds Tryz.pinned (OpenSpec.ofChange moveTwoSpec)

/-- ITS FALSE NEIGHBOUR: 'it returns false'. Refute it at one input. -/
def moveTwoWrong : ChangeSpec := { name := "moveTwo", fn := fun _ => fun
  | [d1, d2, d3] => { results := [.lit (.bool false)], args := [d1, d2, d3] }
  | _ => none }
def MoveTwoWrongFalsely : Prop := moveTwoRow.holds Tryz.pinned (OpenSpec.ofChange moveTwoWrong)

/-- 'ballastlaw12.FitSound': WHATEVER THE INPUT: true; the input reads as it did. -/
def fitSoundSpec : ChangeSpec := { name := "fitSound", fn := fun _ => fun
  | [d1, d2] => { results := [.lit (.bool true)], args := [d1, d2] }
  | _ => none }
def fitSoundRow : OpenClaim := { program := "ytdolhcmhdjmoeaagreatdoor", sum := "270062e557fd4f82fb22f29d012aeadc7c87267b01f3c3cdcdb0cb246a1167ef", func := "ballast/ballastlaw12.FitSound", spec := "fitSound", inPlace := ["internal/bytealg.IndexByteString", "internal/bytealg.IndexString", "internal/bytealg.abigen_runtime_cmpstring", "slices.overlaps[ballast/pod.Pod]"], unfollowed := true, recurses := true, named := ["unicode/utf8.first", "unicode/utf8.acceptRanges", "internal/bytealg.MaxLen"], apart := false, laid := [("unicode/utf8.acceptRanges", laid_unicode_utf8_acceptRanges), ("unicode/utf8.first", laid_unicode_utf8_first)] }
def FitSoundSaid : Prop := fitSoundRow.holds Tryz.pinned (OpenSpec.ofChange fitSoundSpec)

/-- ITS FALSE NEIGHBOUR: 'it returns false'. Refute it at one input. -/
def fitSoundWrong : ChangeSpec := { name := "fitSound", fn := fun _ => fun
  | [d1, d2] => { results := [.lit (.bool false)], args := [d1, d2] }
  | _ => none }
def FitSoundWrongFalsely : Prop := fitSoundRow.holds Tryz.pinned (OpenSpec.ofChange fitSoundWrong)

/- THE SECOND FORM. 'bulk': how many values and letters a reading holds, each counted each time it is reached (what is shared counts as often as it is met; a slice's spare places count too). A statement '..UptoSaid' is the law's where the arguments, and the package variables that the reading takes, are together of bulk at most 1048576: NARROWER than '..Said'. Prove '..Said' where nothing that the law and all that it calls make is longer than what came in: it says more and counts as full. Else prove '..UptoSaid'. A law counts once. -/
mutual
def uptoBulk {H : Type} : DataW H → Nat
  | .lit (.string bytes) => bytes.length + 1
  | .lit _ => 1
  | .nil => 1
  | .ptr d => uptoBulk d + 1
  | .slice elems spare => uptoBulkAll elems + uptoBulkAll spare + 1
  | .agg parts => uptoBulkAll parts + 1
  | .iface _ d => uptoBulk d + 1
  | .map entries => uptoBulkEntries entries + 1
  | .held _ => 1
def uptoBulkAll {H : Type} : List (DataW H) → Nat
  | [] => 0
  | d :: r => uptoBulk d + uptoBulkAll r
def uptoBulkEntries {H : Type} : List (Lit × DataW H) → Nat
  | [] => 0
  | x :: r => uptoBulkEntry x + uptoBulkEntries r
def uptoBulkEntry {H : Type} : Lit × DataW H → Nat
  | (.string bytes, d) => bytes.length + uptoBulk d + 1
  | (_, d) => uptoBulk d + 1
 end
def uptoSmall : (H : Type) → List (DataW H) → Bool := fun _ ds => decide (uptoBulkAll ds ≤ 1048576)
def OpenSpec.upto (s : _root_.Go.ChangeSpec) : _root_.Go.OpenSpec := { _root_.Go.OpenSpec.ofChange s with cond := some uptoSmall }

/-- 'ballastlaw18.LevelRises', WHERE WHAT IT READS IS OF BULK AT MOST 1048576: true; the input reads as it did. -/
def levelRisesUptoRow : OpenClaim := { program := "ytdolhcmhdjmoeaagreatdoor", sum := "270062e557fd4f82fb22f29d012aeadc7c87267b01f3c3cdcdb0cb246a1167ef", func := "ballast/ballastlaw18.LevelRises", spec := "levelRises", inPlace := ["math.Float64frombits", "internal/bytealg.IndexByteString", "internal/bytealg.IndexString", "math.Float64bits"], unfollowed := true, recurses := true, named := ["unicode/utf8.first", "unicode/utf8.acceptRanges", "internal/bytealg.MaxLen"], apart := false, laid := [("unicode/utf8.acceptRanges", laid_unicode_utf8_acceptRanges), ("unicode/utf8.first", laid_unicode_utf8_first)], narrowed := true }
def LevelRisesUptoSaid : Prop := levelRisesUptoRow.holds Tryz.pinned (OpenSpec.upto levelRisesSpec)

/-- 'ballastlaw12.FitAny', WHERE WHAT IT READS IS OF BULK AT MOST 1048576: true; the input reads as it did. -/
def fitAnyUptoRow : OpenClaim := { program := "ytdolhcmhdjmoeaagreatdoor", sum := "270062e557fd4f82fb22f29d012aeadc7c87267b01f3c3cdcdb0cb246a1167ef", func := "ballast/ballastlaw12.FitAny", spec := "fitAny", inPlace := ["internal/bytealg.IndexByteString", "internal/bytealg.IndexString"], unfollowed := true, recurses := true, named := ["unicode/utf8.first", "unicode/utf8.acceptRanges", "internal/bytealg.MaxLen"], apart := false, laid := [("unicode/utf8.acceptRanges", laid_unicode_utf8_acceptRanges), ("unicode/utf8.first", laid_unicode_utf8_first)], narrowed := true }
def FitAnyUptoSaid : Prop := fitAnyUptoRow.holds Tryz.pinned (OpenSpec.upto fitAnySpec)

/-- 'ballastlaw12.FitLess', WHERE WHAT IT READS IS OF BULK AT MOST 1048576: true; the input reads as it did. -/
def fitLessUptoRow : OpenClaim := { program := "ytdolhcmhdjmoeaagreatdoor", sum := "270062e557fd4f82fb22f29d012aeadc7c87267b01f3c3cdcdb0cb246a1167ef", func := "ballast/ballastlaw12.FitLess", spec := "fitLess", inPlace := ["internal/bytealg.IndexByteString", "internal/bytealg.IndexString"], unfollowed := true, recurses := true, named := ["unicode/utf8.first", "unicode/utf8.acceptRanges", "internal/bytealg.MaxLen"], apart := false, laid := [("unicode/utf8.acceptRanges", laid_unicode_utf8_acceptRanges), ("unicode/utf8.first", laid_unicode_utf8_first)], narrowed := true }
def FitLessUptoSaid : Prop := fitLessUptoRow.holds Tryz.pinned (OpenSpec.upto fitLessSpec)

/-- 'ballastlaw12.FitCordon', WHERE WHAT IT READS IS OF BULK AT MOST 1048576: true; the input reads as it did. -/
def fitCordonUptoRow : OpenClaim := { program := "ytdolhcmhdjmoeaagreatdoor", sum := "270062e557fd4f82fb22f29d012aeadc7c87267b01f3c3cdcdb0cb246a1167ef", func := "ballast/ballastlaw12.FitCordon", spec := "fitCordon", inPlace := ["internal/bytealg.IndexByteString", "internal/bytealg.IndexString"], unfollowed := true, recurses := true, named := ["unicode/utf8.first", "unicode/utf8.acceptRanges", "internal/bytealg.MaxLen"], apart := false, laid := [("unicode/utf8.acceptRanges", laid_unicode_utf8_acceptRanges), ("unicode/utf8.first", laid_unicode_utf8_first)], narrowed := true }
def FitCordonUptoSaid : Prop := fitCordonUptoRow.holds Tryz.pinned (OpenSpec.upto fitCordonSpec)

/-- 'ballastlaw12.FitStays', WHERE WHAT IT READS IS OF BULK AT MOST 1048576: true; the input reads as it did. -/
def fitStaysUptoRow : OpenClaim := { program := "ytdolhcmhdjmoeaagreatdoor", sum := "270062e557fd4f82fb22f29d012aeadc7c87267b01f3c3cdcdb0cb246a1167ef", func := "ballast/ballastlaw12.FitStays", spec := "fitStays", inPlace := ["internal/bytealg.IndexByteString", "internal/bytealg.IndexString"], unfollowed := true, recurses := true, named := ["unicode/utf8.first", "unicode/utf8.acceptRanges", "internal/bytealg.MaxLen"], apart := false, laid := [("unicode/utf8.acceptRanges", laid_unicode_utf8_acceptRanges), ("unicode/utf8.first", laid_unicode_utf8_first)], narrowed := true }
def FitStaysUptoSaid : Prop := fitStaysUptoRow.holds Tryz.pinned (OpenSpec.upto fitStaysSpec)

/-- 'ballastlaw19.StratAny', WHERE WHAT IT READS IS OF BULK AT MOST 1048576: true; the input reads as it did. -/
def stratAnyUptoRow : OpenClaim := { program := "ytdolhcmhdjmoeaagreatdoor", sum := "270062e557fd4f82fb22f29d012aeadc7c87267b01f3c3cdcdb0cb246a1167ef", func := "ballast/ballastlaw19.StratAny", spec := "stratAny", inPlace := ["math.Float64frombits", "internal/bytealg.IndexByteString", "internal/bytealg.IndexString", "math.Float64bits"], unfollowed := true, recurses := true, named := ["unicode/utf8.first", "unicode/utf8.acceptRanges", "internal/bytealg.MaxLen"], apart := false, laid := [("unicode/utf8.acceptRanges", laid_unicode_utf8_acceptRanges), ("unicode/utf8.first", laid_unicode_utf8_first)], narrowed := true }
def StratAnyUptoSaid : Prop := stratAnyUptoRow.holds Tryz.pinned (OpenSpec.upto stratAnySpec)

/-- 'ballastlaw19.StratOnce', WHERE WHAT IT READS IS OF BULK AT MOST 1048576: true; the input reads as it did. -/
def stratOnceUptoRow : OpenClaim := { program := "ytdolhcmhdjmoeaagreatdoor", sum := "270062e557fd4f82fb22f29d012aeadc7c87267b01f3c3cdcdb0cb246a1167ef", func := "ballast/ballastlaw19.StratOnce", spec := "stratOnce", inPlace := ["math.Float64frombits", "internal/bytealg.IndexByteString", "internal/bytealg.IndexString", "math.Float64bits"], unfollowed := true, recurses := true, named := ["unicode/utf8.first", "unicode/utf8.acceptRanges", "internal/bytealg.MaxLen"], apart := false, laid := [("unicode/utf8.acceptRanges", laid_unicode_utf8_acceptRanges), ("unicode/utf8.first", laid_unicode_utf8_first)], narrowed := true }
def StratOnceUptoSaid : Prop := stratOnceUptoRow.holds Tryz.pinned (OpenSpec.upto stratOnceSpec)

/-- 'ballastlaw19.StratLevels', WHERE WHAT IT READS IS OF BULK AT MOST 1048576: true; the input reads as it did. -/
def stratLevelsUptoRow : OpenClaim := { program := "ytdolhcmhdjmoeaagreatdoor", sum := "270062e557fd4f82fb22f29d012aeadc7c87267b01f3c3cdcdb0cb246a1167ef", func := "ballast/ballastlaw19.StratLevels", spec := "stratLevels", inPlace := ["math.Float64frombits", "internal/bytealg.IndexByteString", "internal/bytealg.IndexString", "math.Float64bits"], unfollowed := true, recurses := true, named := ["unicode/utf8.first", "unicode/utf8.acceptRanges", "internal/bytealg.MaxLen"], apart := false, laid := [("unicode/utf8.acceptRanges", laid_unicode_utf8_acceptRanges), ("unicode/utf8.first", laid_unicode_utf8_first)], narrowed := true }
def StratLevelsUptoSaid : Prop := stratLevelsUptoRow.holds Tryz.pinned (OpenSpec.upto stratLevelsSpec)

/-- 'ballastlaw19.StratTwins', WHERE WHAT IT READS IS OF BULK AT MOST 1048576: true; the input reads as it did. -/
def stratTwinsUptoRow : OpenClaim := { program := "ytdolhcmhdjmoeaagreatdoor", sum := "270062e557fd4f82fb22f29d012aeadc7c87267b01f3c3cdcdb0cb246a1167ef", func := "ballast/ballastlaw19.StratTwins", spec := "stratTwins", inPlace := ["math.Float64frombits", "internal/bytealg.IndexByteString", "internal/bytealg.IndexString", "math.Float64bits"], unfollowed := true, recurses := true, named := ["unicode/utf8.first", "unicode/utf8.acceptRanges", "internal/bytealg.MaxLen"], apart := false, laid := [("unicode/utf8.acceptRanges", laid_unicode_utf8_acceptRanges), ("unicode/utf8.first", laid_unicode_utf8_first)], narrowed := true }
def StratTwinsUptoSaid : Prop := stratTwinsUptoRow.holds Tryz.pinned (OpenSpec.upto stratTwinsSpec)

/-- 'ballastlaw19.StratTaint', WHERE WHAT IT READS IS OF BULK AT MOST 1048576: true; the input reads as it did. -/
def stratTaintUptoRow : OpenClaim := { program := "ytdolhcmhdjmoeaagreatdoor", sum := "270062e557fd4f82fb22f29d012aeadc7c87267b01f3c3cdcdb0cb246a1167ef", func := "ballast/ballastlaw19.StratTaint", spec := "stratTaint", inPlace := ["math.Float64frombits", "internal/bytealg.IndexByteString", "internal/bytealg.IndexString", "math.Float64bits"], unfollowed := true, recurses := true, named := ["unicode/utf8.first", "unicode/utf8.acceptRanges", "internal/bytealg.MaxLen"], apart := false, laid := [("unicode/utf8.acceptRanges", laid_unicode_utf8_acceptRanges), ("unicode/utf8.first", laid_unicode_utf8_first)], narrowed := true }
def StratTaintUptoSaid : Prop := stratTaintUptoRow.holds Tryz.pinned (OpenSpec.upto stratTaintSpec)

/-- 'ballastlaw9.StateAny', WHERE WHAT IT READS IS OF BULK AT MOST 1048576: true; the input reads as it did. -/
def stateAnyUptoRow : OpenClaim := { program := "ytdolhcmhdjmoeaagreatdoor", sum := "270062e557fd4f82fb22f29d012aeadc7c87267b01f3c3cdcdb0cb246a1167ef", func := "ballast/ballastlaw9.StateAny", spec := "stateAny", inPlace := ["internal/bytealg.IndexByteString", "internal/bytealg.IndexString", "internal/bytealg.abigen_runtime_cmpstring", "slices.overlaps[ballast/pod.Pod]"], unfollowed := true, recurses := true, named := ["unicode/utf8.first", "unicode/utf8.acceptRanges", "internal/bytealg.MaxLen"], apart := false, laid := [("unicode/utf8.acceptRanges", laid_unicode_utf8_acceptRanges), ("unicode/utf8.first", laid_unicode_utf8_first)], narrowed := true }
def StateAnyUptoSaid : Prop := stateAnyUptoRow.holds Tryz.pinned (OpenSpec.upto stateAnySpec)

/-- 'ballastlaw9.StateChanges', WHERE WHAT IT READS IS OF BULK AT MOST 1048576: true; the input reads as it did. -/
def stateChangesUptoRow : OpenClaim := { program := "ytdolhcmhdjmoeaagreatdoor", sum := "270062e557fd4f82fb22f29d012aeadc7c87267b01f3c3cdcdb0cb246a1167ef", func := "ballast/ballastlaw9.StateChanges", spec := "stateChanges", inPlace := ["internal/bytealg.IndexByteString", "internal/bytealg.IndexString", "internal/bytealg.abigen_runtime_cmpstring", "slices.overlaps[ballast/pod.Pod]"], unfollowed := true, recurses := true, named := ["unicode/utf8.first", "unicode/utf8.acceptRanges", "internal/bytealg.MaxLen"], apart := false, laid := [("unicode/utf8.acceptRanges", laid_unicode_utf8_acceptRanges), ("unicode/utf8.first", laid_unicode_utf8_first)], narrowed := true }
def StateChangesUptoSaid : Prop := stateChangesUptoRow.holds Tryz.pinned (OpenSpec.upto stateChangesSpec)

/-- 'ballastlaw9.StateTwo', WHERE WHAT IT READS IS OF BULK AT MOST 1048576: true; the input reads as it did. -/
def stateTwoUptoRow : OpenClaim := { program := "ytdolhcmhdjmoeaagreatdoor", sum := "270062e557fd4f82fb22f29d012aeadc7c87267b01f3c3cdcdb0cb246a1167ef", func := "ballast/ballastlaw9.StateTwo", spec := "stateTwo", inPlace := ["internal/bytealg.IndexByteString", "internal/bytealg.IndexString", "internal/bytealg.abigen_runtime_cmpstring", "slices.overlaps[ballast/pod.Pod]"], unfollowed := true, recurses := true, named := ["unicode/utf8.first", "unicode/utf8.acceptRanges", "internal/bytealg.MaxLen"], apart := false, laid := [("unicode/utf8.acceptRanges", laid_unicode_utf8_acceptRanges), ("unicode/utf8.first", laid_unicode_utf8_first)], narrowed := true }
def StateTwoUptoSaid : Prop := stateTwoUptoRow.holds Tryz.pinned (OpenSpec.upto stateTwoSpec)

/-- 'ballastlaw9.StateRoom', WHERE WHAT IT READS IS OF BULK AT MOST 1048576: true; the input reads as it did. -/
def stateRoomUptoRow : OpenClaim := { program := "ytdolhcmhdjmoeaagreatdoor", sum := "270062e557fd4f82fb22f29d012aeadc7c87267b01f3c3cdcdb0cb246a1167ef", func := "ballast/ballastlaw9.StateRoom", spec := "stateRoom", inPlace := ["internal/bytealg.IndexByteString", "internal/bytealg.IndexString", "internal/bytealg.abigen_runtime_cmpstring", "slices.overlaps[ballast/pod.Pod]"], unfollowed := true, recurses := true, named := ["unicode/utf8.first", "unicode/utf8.acceptRanges", "internal/bytealg.MaxLen"], apart := false, laid := [("unicode/utf8.acceptRanges", laid_unicode_utf8_acceptRanges), ("unicode/utf8.first", laid_unicode_utf8_first)], narrowed := true }
def StateRoomUptoSaid : Prop := stateRoomUptoRow.holds Tryz.pinned (OpenSpec.upto stateRoomSpec)

/-- 'ballastlaw9.StateFull', WHERE WHAT IT READS IS OF BULK AT MOST 1048576: true; the input reads as it did. -/
def stateFullUptoRow : OpenClaim := { program := "ytdolhcmhdjmoeaagreatdoor", sum := "270062e557fd4f82fb22f29d012aeadc7c87267b01f3c3cdcdb0cb246a1167ef", func := "ballast/ballastlaw9.StateFull", spec := "stateFull", inPlace := ["internal/bytealg.IndexByteString", "internal/bytealg.IndexString", "internal/bytealg.abigen_runtime_cmpstring", "slices.overlaps[ballast/pod.Pod]"], unfollowed := true, recurses := true, named := ["unicode/utf8.first", "unicode/utf8.acceptRanges", "internal/bytealg.MaxLen"], apart := false, laid := [("unicode/utf8.acceptRanges", laid_unicode_utf8_acceptRanges), ("unicode/utf8.first", laid_unicode_utf8_first)], narrowed := true }
def StateFullUptoSaid : Prop := stateFullUptoRow.holds Tryz.pinned (OpenSpec.upto stateFullSpec)

/-- 'ballastlaw9.StateTotals', WHERE WHAT IT READS IS OF BULK AT MOST 1048576: true; the input reads as it did. -/
def stateTotalsUptoRow : OpenClaim := { program := "ytdolhcmhdjmoeaagreatdoor", sum := "270062e557fd4f82fb22f29d012aeadc7c87267b01f3c3cdcdb0cb246a1167ef", func := "ballast/ballastlaw9.StateTotals", spec := "stateTotals", inPlace := ["internal/bytealg.IndexByteString", "internal/bytealg.IndexString", "internal/bytealg.abigen_runtime_cmpstring", "slices.overlaps[ballast/pod.Pod]"], unfollowed := true, recurses := true, named := ["unicode/utf8.first", "unicode/utf8.acceptRanges", "internal/bytealg.MaxLen"], apart := false, laid := [("unicode/utf8.acceptRanges", laid_unicode_utf8_acceptRanges), ("unicode/utf8.first", laid_unicode_utf8_first)], narrowed := true }
def StateTotalsUptoSaid : Prop := stateTotalsUptoRow.holds Tryz.pinned (OpenSpec.upto stateTotalsSpec)

/-- 'ballastlaw9.StatePuts', WHERE WHAT IT READS IS OF BULK AT MOST 1048576: true; the input reads as it did. -/
def statePutsUptoRow : OpenClaim := { program := "ytdolhcmhdjmoeaagreatdoor", sum := "270062e557fd4f82fb22f29d012aeadc7c87267b01f3c3cdcdb0cb246a1167ef", func := "ballast/ballastlaw9.StatePuts", spec := "statePuts", inPlace := ["internal/bytealg.IndexByteString", "internal/bytealg.IndexString", "internal/bytealg.abigen_runtime_cmpstring", "slices.overlaps[ballast/pod.Pod]"], unfollowed := true, recurses := true, named := ["unicode/utf8.first", "unicode/utf8.acceptRanges", "internal/bytealg.MaxLen"], apart := false, laid := [("unicode/utf8.acceptRanges", laid_unicode_utf8_acceptRanges), ("unicode/utf8.first", laid_unicode_utf8_first)], narrowed := true }
def StatePutsUptoSaid : Prop := statePutsUptoRow.holds Tryz.pinned (OpenSpec.upto statePutsSpec)

/-- 'ballastlaw21.MoveWords', WHERE WHAT IT READS IS OF BULK AT MOST 1048576: true; the input reads as it did. -/
def moveWordsUptoRow : OpenClaim := { program := "ytdolhcmhdjmoeaagreatdoor", sum := "270062e557fd4f82fb22f29d012aeadc7c87267b01f3c3cdcdb0cb246a1167ef", func := "ballast/ballastlaw21.MoveWords", spec := "moveWords", inPlace := ["internal/bytealg.IndexByteString", "internal/bytealg.IndexString", "internal/bytealg.CountString"], unfollowed := true, recurses := true, named := ["unicode/utf8.first", "unicode/utf8.acceptRanges", "internal/bytealg.MaxLen"], apart := false, laid := [("unicode/utf8.acceptRanges", laid_unicode_utf8_acceptRanges), ("unicode/utf8.first", laid_unicode_utf8_first)], narrowed := true }
def MoveWordsUptoSaid : Prop := moveWordsUptoRow.holds Tryz.pinned (OpenSpec.upto moveWordsSpec)

/-- 'ballastlaw21.MoveBack', WHERE WHAT IT READS IS OF BULK AT MOST 1048576: true; the input reads as it did. -/
def moveBackUptoRow : OpenClaim := { program := "ytdolhcmhdjmoeaagreatdoor", sum := "270062e557fd4f82fb22f29d012aeadc7c87267b01f3c3cdcdb0cb246a1167ef", func := "ballast/ballastlaw21.MoveBack", spec := "moveBack", inPlace := ["internal/bytealg.IndexByteString", "internal/bytealg.IndexString", "internal/bytealg.CountString"], unfollowed := true, recurses := true, named := ["unicode/utf8.first", "unicode/utf8.acceptRanges", "internal/bytealg.MaxLen"], apart := false, laid := [("unicode/utf8.acceptRanges", laid_unicode_utf8_acceptRanges), ("unicode/utf8.first", laid_unicode_utf8_first)], narrowed := true }
def MoveBackUptoSaid : Prop := moveBackUptoRow.holds Tryz.pinned (OpenSpec.upto moveBackSpec)

/-- 'ballastlaw21.MoveFloors', WHERE WHAT IT READS IS OF BULK AT MOST 1048576: true; the input reads as it did. -/
def moveFloorsUptoRow : OpenClaim := { program := "ytdolhcmhdjmoeaagreatdoor", sum := "270062e557fd4f82fb22f29d012aeadc7c87267b01f3c3cdcdb0cb246a1167ef", func := "ballast/ballastlaw21.MoveFloors", spec := "moveFloors", inPlace := ["internal/bytealg.IndexByteString", "internal/bytealg.IndexString", "internal/bytealg.CountString"], unfollowed := true, recurses := true, named := ["unicode/utf8.first", "unicode/utf8.acceptRanges", "internal/bytealg.MaxLen"], apart := false, laid := [("unicode/utf8.acceptRanges", laid_unicode_utf8_acceptRanges), ("unicode/utf8.first", laid_unicode_utf8_first)], narrowed := true }
def MoveFloorsUptoSaid : Prop := moveFloorsUptoRow.holds Tryz.pinned (OpenSpec.upto moveFloorsSpec)

/-- 'ballastlaw21.MoveTwo', WHERE WHAT IT READS IS OF BULK AT MOST 1048576: true; the input reads as it did. -/
def moveTwoUptoRow : OpenClaim := { program := "ytdolhcmhdjmoeaagreatdoor", sum := "270062e557fd4f82fb22f29d012aeadc7c87267b01f3c3cdcdb0cb246a1167ef", func := "ballast/ballastlaw21.MoveTwo", spec := "moveTwo", inPlace := ["internal/bytealg.IndexByteString", "internal/bytealg.IndexString", "internal/bytealg.CountString"], unfollowed := true, recurses := true, named := ["unicode/utf8.first", "unicode/utf8.acceptRanges", "internal/bytealg.MaxLen"], apart := false, laid := [("unicode/utf8.acceptRanges", laid_unicode_utf8_acceptRanges), ("unicode/utf8.first", laid_unicode_utf8_first)], narrowed := true }
def MoveTwoUptoSaid : Prop := moveTwoUptoRow.holds Tryz.pinned (OpenSpec.upto moveTwoSpec)

/-- 'ballastlaw12.FitSound', WHERE WHAT IT READS IS OF BULK AT MOST 1048576: true; the input reads as it did. -/
def fitSoundUptoRow : OpenClaim := { program := "ytdolhcmhdjmoeaagreatdoor", sum := "270062e557fd4f82fb22f29d012aeadc7c87267b01f3c3cdcdb0cb246a1167ef", func := "ballast/ballastlaw12.FitSound", spec := "fitSound", inPlace := ["internal/bytealg.IndexByteString", "internal/bytealg.IndexString", "internal/bytealg.abigen_runtime_cmpstring", "slices.overlaps[ballast/pod.Pod]"], unfollowed := true, recurses := true, named := ["unicode/utf8.first", "unicode/utf8.acceptRanges", "internal/bytealg.MaxLen"], apart := false, laid := [("unicode/utf8.acceptRanges", laid_unicode_utf8_acceptRanges), ("unicode/utf8.first", laid_unicode_utf8_first)], narrowed := true }
def FitSoundUptoSaid : Prop := fitSoundUptoRow.holds Tryz.pinned (OpenSpec.upto fitSoundSpec)

end Rows
end Go.Proofs.YtdolhcmhdjmoeaaGreatDoor
