/- Closing facts of the program, that name no row. -/
import Derived.Test.YtdolhcmhdjmoeaaDoorCards
import Derived.WalkKit
import Derived.JoinedOf
set_option maxRecDepth 100000
namespace Go.Proofs.YtdolhcmhdjmoeaaDoor.Facts
open Go Go.Proofs Go.RowKit
def chars (l : List Nat) : List Char := l.map Char.ofNat
theorem words_space (r : List Char) : wordsSigns (Char.ofNat 32 :: r) = [] :: wordsSigns r := rfl
theorem words_cons (c : Char) (h : c ≠ Char.ofNat 32) (r w : List Char) (ws : List (List Char)) (e : wordsSigns r = w :: ws) : wordsSigns (c :: r) = (c :: w) :: ws := by
  unfold wordsSigns
  split
  · rename_i h2; cases h2
  · rename_i h2; injection h2 with h3 h4; exact absurd h3 h
  · rename_i h2
    injection h2 with h3 h4
    subst h3 h4
    rw [e]
theorem words_app (r : List Char) : ∀ (a : List Char), (a.all fun c => !(c == Char.ofNat 32)) = true → wordsSigns (a ++ Char.ofNat 32 :: r) = a :: wordsSigns r
  | [], _ => words_space r
  | c :: a, h => by
    simp only [List.all_cons, Bool.and_eq_true, Bool.not_eq_true', beq_eq_false_iff_ne] at h
    exact words_cons c h.1 _ _ _ (words_app r a h.2)
def w1 : List Nat := [104, 97, 114, 110, 101, 115, 115]
def w2 : List Nat := [57, 52, 54, 52, 56, 100, 48, 99, 97, 53, 99, 99, 55, 51, 49, 54, 56, 100, 101, 102, 97, 48, 57, 98, 50, 98, 52, 98, 102, 50, 54, 97, 55, 55, 102, 51, 100, 49, 56, 98, 100, 49, 97, 55, 54, 53, 52, 49, 54, 102, 99, 51, 48, 52, 99, 101, 99, 97, 48, 56, 56, 99, 52, 55]
def w3 : List Nat := [99, 117, 116]
def laws : List Nat := [97, 116, 32, 98, 97, 108, 108, 97, 115, 116, 47, 98, 97, 108, 108, 97, 115, 116, 108, 97, 119, 49, 56, 46, 76, 101, 118, 101, 108, 69, 100, 103, 101, 115]
theorem order : Tryd.prog.initOrder = String.ofList (chars (w1 ++ 32 :: (w2 ++ 32 :: (w3 ++ 32 :: laws)))) := by kernel_rfl
theorem words : wordsSigns Tryd.prog.initOrder.toList = chars w1 :: chars w2 :: chars w3 :: wordsSigns (chars laws) := by
  rw [order, String.toList_ofList]
  simp only [chars, List.map_append, List.map_cons]
  rw [words_app _ _ (by kernel_rfl), words_app _ _ (by kernel_rfl), words_app _ _ (by kernel_rfl)]
theorem mainIs : Tryd.prog.mainIs = some (true, "94648d0ca5cc73168defa09b2b4bf26a77f3d18bd1a765416fc304ceca088c47".toList) := by
  unfold Program.mainIs
  rw [words]
  generalize wordsSigns (chars laws) = X
  kernel_rfl
theorem looks : Tryd.prog.looks [] = true := by kernel_rfl
theorem behind (X : List (List Char)) : behindMainWord (chars w1 :: chars w2 :: X) = X := by kernel_rfl
theorem main : behindMainWord (wordsSigns Tryd.prog.initOrder.toList) = chars w3 :: wordsSigns (chars laws) := by rw [words, behind]
theorem strip (X : List (List Char)) : stripLifts liftWords (chars w3 :: X) = ([], chars w3 :: X) := by kernel_rfl
def doors : List String := ["var's door: gosem.cut.vars holds initialisers alone; see the manifest's row cutvarsword (look 11, test files too)", "var's door: the look of gosem.cut.vars went over the folder that the caller named as the repository's root (look 11)", "var's door: unicode/utf8.acceptRanges is laid by its own initialiser, plain data (look 11)", "var's door: unicode/utf8.first is laid by its text alone (pinned 1)"]
theorem doorRows : Tryd.prog.doorRows = doors.map fun s => (nameBytes s).reverse := by kernel_rfl
theorem door1 : ((doors.map fun s => (nameBytes s).reverse).any fun n => ["(look 8)", "(look 8, test files too)", "(list 7)", "(look 7)"].any (endsIn · n)) = false := by kernel_rfl
theorem doorFits : Tryd.prog.doorFits [] = true := by
  unfold Program.doorFits
  rw [doorRows]
  simp only [door1, List.contains_nil, Bool.false_and, Bool.not_false, Bool.or_false, Bool.or_true, Bool.and_self, Bool.or_self, Bool.false_or]
theorem laysLater : Tryd.prog.laysLater = false := by kernel_rfl
theorem bearsReflect : Tryd.prog.bearsReflect = false := by kernel_rfl
theorem mayEnter : Tryd.prog.mayEnter = true := by
  unfold Program.mayEnter
  rw [main]
  generalize wordsSigns (chars laws) = X
  simp only [strip, laysLater, bearsReflect, doorFits]
  kernel_rfl
theorem headLifts : Tryd.prog.headLifts = [] := by
  unfold Program.headLifts
  rw [main, strip]
  kernel_rfl
theorem liftsFinal : Tryd.prog.liftsFinal = false := by
  unfold Program.liftsFinal
  rw [main, headLifts]
  generalize wordsSigns (chars laws) = X
  kernel_rfl
theorem make : Tryd.prog.make = some .cut := by
  unfold Program.make
  rw [main]
  generalize wordsSigns (chars laws) = X
  kernel_rfl
theorem laidOut : laidOutB Tryd.prog = true := by kernel_rfl
theorem mapsRowed : mapsRowed Tryd.prog = true := by kernel_rfl
theorem stops : (Tryd.prog.stops == []) = true := by kernel_rfl
theorem stopKnobs : (Tryd.prog.stopKnobs == []) = true := by kernel_rfl
theorem stopsHeard : Tryd.prog.stopsHeard = true := by kernel_rfl
theorem plainKeys : Tryd.prog.plainKeys = true := by kernel_rfl
end Go.Proofs.YtdolhcmhdjmoeaaDoor.Facts
