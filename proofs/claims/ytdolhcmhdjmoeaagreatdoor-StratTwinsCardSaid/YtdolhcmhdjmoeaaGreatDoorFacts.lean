/- Closing facts of the program, that name no row. -/
import Derived.Test.YtdolhcmhdjmoeaaGreatDoorCards
import Derived.WalkKit
import Derived.JoinedOf
set_option maxRecDepth 100000
namespace Go.Proofs.YtdolhcmhdjmoeaaGreatDoor.Facts
open Go Go.Proofs Go.RowKit
def chars (l : List Nat) : List Char := l.map Char.ofNat
theorem words_space (r : List Char) : wordsSigns (Char.ofNat 32 :: r) = [] :: wordsSigns r := rfl
theorem words_cons (c : Char) (h : c ≠ Char.ofNat 32) (r w : List Char) (ws : List (List Char)) (e : wordsSigns r = w :: ws) : wordsSigns (c :: r) = (c :: w) :: ws := by
  unfold wordsSigns
  split
  · rename_i h2; cases h2
  · rename_i h2; injection h2 with h3 h4; exact absurd h3 h
  · rename_i h2
    injection h2 with h3 h4
    subst h3 h4
    rw [e]
theorem words_app (r : List Char) : ∀ (a : List Char), (a.all fun c => !(c == Char.ofNat 32)) = true → wordsSigns (a ++ Char.ofNat 32 :: r) = a :: wordsSigns r
  | [], _ => words_space r
  | c :: a, h => by
    simp only [List.all_cons, Bool.and_eq_true, Bool.not_eq_true', beq_eq_false_iff_ne] at h
    exact words_cons c h.1 _ _ _ (words_app r a h.2)
def w1 : List Nat := [104, 97, 114, 110, 101, 115, 115]
def w2 : List Nat := [100, 53, 54, 97, 56, 99, 98, 54, 54, 102, 55, 54, 49, 55, 50, 56, 99, 51, 51, 48, 55, 102, 101, 102, 57, 53, 50, 57, 101, 99, 101, 102, 98, 50, 54, 98, 49, 48, 51, 52, 52, 55, 52, 57, 102, 54, 101, 52, 56, 48, 102, 54, 99, 56, 102, 97, 98, 54, 99, 54, 98, 101, 97, 55]
def w3 : List Nat := [99, 117, 116]
def laws : List Nat := [97, 116, 32, 98, 97, 108, 108, 97, 115, 116, 47, 98, 97, 108, 108, 97, 115, 116, 108, 97, 119, 49, 56, 46, 76, 101, 118, 101, 108, 82, 105, 115, 101, 115, 32, 98, 97, 108, 108, 97, 115, 116, 47, 98, 97, 108, 108, 97, 115, 116, 108, 97, 119, 49, 50, 46, 70, 105, 116, 65, 110, 121, 32, 98, 97, 108, 108, 97, 115, 116, 47, 98, 97, 108, 108, 97, 115, 116, 108, 97, 119, 49, 50, 46, 70, 105, 116, 76, 101, 115, 115, 32, 98, 97, 108, 108, 97, 115, 116, 47, 98, 97, 108, 108, 97, 115, 116, 108, 97, 119, 49, 50, 46, 70, 105, 116, 67, 111, 114, 100, 111, 110, 32, 98, 97, 108, 108, 97, 115, 116, 47, 98, 97, 108, 108, 97, 115, 116, 108, 97, 119, 49, 50, 46, 70, 105, 116, 83, 116, 97, 121, 115, 32, 98, 97, 108, 108, 97, 115, 116, 47, 98, 97, 108, 108, 97, 115, 116, 108, 97, 119, 49, 57, 46, 83, 116, 114, 97, 116, 65, 110, 121, 32, 98, 97, 108, 108, 97, 115, 116, 47, 98, 97, 108, 108, 97, 115, 116, 108, 97, 119, 49, 57, 46, 83, 116, 114, 97, 116, 79, 110, 99, 101, 32, 98, 97, 108, 108, 97, 115, 116, 47, 98, 97, 108, 108, 97, 115, 116, 108, 97, 119, 49, 57, 46, 83, 116, 114, 97, 116, 76, 101, 118, 101, 108, 115, 32, 98, 97, 108, 108, 97, 115, 116, 47, 98, 97, 108, 108, 97, 115, 116, 108, 97, 119, 49, 57, 46, 83, 116, 114, 97, 116, 84, 119, 105, 110, 115, 32, 98, 97, 108, 108, 97, 115, 116, 47, 98, 97, 108, 108, 97, 115, 116, 108, 97, 119, 49, 57, 46, 83, 116, 114, 97, 116, 84, 97, 105, 110, 116, 32, 98, 97, 108, 108, 97, 115, 116, 47, 98, 97, 108, 108, 97, 115, 116, 108, 97, 119, 57, 46, 83, 116, 97, 116, 101, 65, 110, 121, 32, 98, 97, 108, 108, 97, 115, 116, 47, 98, 97, 108, 108, 97, 115, 116, 108, 97, 119, 57, 46, 83, 116, 97, 116, 101, 67, 104, 97, 110, 103, 101, 115, 32, 98, 97, 108, 108, 97, 115, 116, 47, 98, 97, 108, 108, 97, 115, 116, 108, 97, 119, 57, 46, 83, 116, 97, 116, 101, 84, 119, 111, 32, 98, 97, 108, 108, 97, 115, 116, 47, 98, 97, 108, 108, 97, 115, 116, 108, 97, 119, 57, 46, 83, 116, 97, 116, 101, 82, 111, 111, 109, 32, 98, 97, 108, 108, 97, 115, 116, 47, 98, 97, 108, 108, 97, 115, 116, 108, 97, 119, 57, 46, 83, 116, 97, 116, 101, 70, 117, 108, 108, 32, 98, 97, 108, 108, 97, 115, 116, 47, 98, 97, 108, 108, 97, 115, 116, 108, 97, 119, 57, 46, 83, 116, 97, 116, 101, 84, 111, 116, 97, 108, 115, 32, 98, 97, 108, 108, 97, 115, 116, 47, 98, 97, 108, 108, 97, 115, 116, 108, 97, 119, 57, 46, 83, 116, 97, 116, 101, 80, 117, 116, 115, 32, 98, 97, 108, 108, 97, 115, 116, 47, 98, 97, 108, 108, 97, 115, 116, 108, 97, 119, 50, 49, 46, 77, 111, 118, 101, 87, 111, 114, 100, 115, 32, 98, 97, 108, 108, 97, 115, 116, 47, 98, 97, 108, 108, 97, 115, 116, 108, 97, 119, 50, 49, 46, 77, 111, 118, 101, 66, 97, 99, 107, 32, 98, 97, 108, 108, 97, 115, 116, 47, 98, 97, 108, 108, 97, 115, 116, 108, 97, 119, 50, 49, 46, 77, 111, 118, 101, 70, 108, 111, 111, 114, 115, 32, 98, 97, 108, 108, 97, 115, 116, 47, 98, 97, 108, 108, 97, 115, 116, 108, 97, 119, 50, 49, 46, 77, 111, 118, 101, 84, 119, 111, 32, 98, 97, 108, 108, 97, 115, 116, 47, 98, 97, 108, 108, 97, 115, 116, 108, 97, 119, 49, 50, 46, 70, 105, 116, 83, 111, 117, 110, 100]
theorem order : Tryz.prog.initOrder = String.ofList (chars (w1 ++ 32 :: (w2 ++ 32 :: (w3 ++ 32 :: laws)))) := by kernel_rfl
theorem words : wordsSigns Tryz.prog.initOrder.toList = chars w1 :: chars w2 :: chars w3 :: wordsSigns (chars laws) := by
  rw [order, String.toList_ofList]
  simp only [chars, List.map_append, List.map_cons]
  rw [words_app _ _ (by kernel_rfl), words_app _ _ (by kernel_rfl), words_app _ _ (by kernel_rfl)]
theorem mainIs : Tryz.prog.mainIs = some (true, "d56a8cb66f761728c3307fef9529ecefb26b10344749f6e480f6c8fab6c6bea7".toList) := by
  unfold Program.mainIs
  rw [words]
  generalize wordsSigns (chars laws) = X
  kernel_rfl
theorem looks : Tryz.prog.looks [] = true := by kernel_rfl
theorem behind (X : List (List Char)) : behindMainWord (chars w1 :: chars w2 :: X) = X := by kernel_rfl
theorem main : behindMainWord (wordsSigns Tryz.prog.initOrder.toList) = chars w3 :: wordsSigns (chars laws) := by rw [words, behind]
theorem strip (X : List (List Char)) : stripLifts liftWords (chars w3 :: X) = ([], chars w3 :: X) := by kernel_rfl
def doors : List String := ["var's door: gosem.cut.vars holds initialisers alone; see the manifest's row cutvarsword (look 11, test files too)", "var's door: the look of gosem.cut.vars went over the folder that the caller named as the repository's root (look 11)", "var's door: unicode/utf8.acceptRanges is laid by its own initialiser, plain data (look 11)", "var's door: unicode/utf8.first is laid by its text alone (pinned 1)"]
theorem doorRows : Tryz.prog.doorRows = doors.map fun s => (nameBytes s).reverse := by kernel_rfl
theorem door1 : ((doors.map fun s => (nameBytes s).reverse).any fun n => ["(look 8)", "(look 8, test files too)", "(list 7)", "(look 7)"].any (endsIn · n)) = false := by kernel_rfl
theorem doorFits : Tryz.prog.doorFits [] = true := by
  unfold Program.doorFits
  rw [doorRows]
  simp only [door1, List.contains_nil, Bool.false_and, Bool.not_false, Bool.or_false, Bool.or_true, Bool.and_self, Bool.or_self, Bool.false_or]
theorem laysLater : Tryz.prog.laysLater = false := by kernel_rfl
theorem bearsReflect : Tryz.prog.bearsReflect = false := by kernel_rfl
theorem mayEnter : Tryz.prog.mayEnter = true := by
  unfold Program.mayEnter
  rw [main]
  generalize wordsSigns (chars laws) = X
  simp only [strip, laysLater, bearsReflect, doorFits]
  kernel_rfl
theorem headLifts : Tryz.prog.headLifts = [] := by
  unfold Program.headLifts
  rw [main, strip]
  kernel_rfl
theorem liftsFinal : Tryz.prog.liftsFinal = false := by
  unfold Program.liftsFinal
  rw [main, headLifts]
  generalize wordsSigns (chars laws) = X
  kernel_rfl
theorem make : Tryz.prog.make = some .cut := by
  unfold Program.make
  rw [main]
  generalize wordsSigns (chars laws) = X
  kernel_rfl
theorem laidOut : laidOutB Tryz.prog = true := by kernel_rfl
theorem mapsRowed : mapsRowed Tryz.prog = true := by kernel_rfl
theorem stops : (Tryz.prog.stops == []) = true := by kernel_rfl
theorem stopKnobs : (Tryz.prog.stopKnobs == []) = true := by kernel_rfl
theorem stopsHeard : Tryz.prog.stopsHeard = true := by kernel_rfl
theorem plainKeys : Tryz.prog.plainKeys = true := by kernel_rfl
end Go.Proofs.YtdolhcmhdjmoeaaGreatDoor.Facts
