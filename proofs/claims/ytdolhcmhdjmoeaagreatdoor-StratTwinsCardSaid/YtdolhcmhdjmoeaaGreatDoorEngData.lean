/- The data of the program and of the document's answer: Lean's structures and what they are worth. -/
import Derived.Test.YtdolhcmhdjmoeaaGreatDoorProg
import Derived.Test.YtdolhcmhdjmoeaaGreatDoorEngU
set_option linter.unusedSimpArgs false
set_option linter.unusedVariables false
namespace Go.Proofs.Eng
open Go Go.Proofs
theorem mixedTryz : Tryz.prog.follows .mixedOrders = true := by kernel_rfl
structure Amount where
  Name : Str
  N : Int
  deriving DecidableEq
def Amount.av (x : Amount) : AV := .agg [AV.str x.Name, AV.int x.N]
structure Pair where
  Key : Str
  Val : Str
  deriving DecidableEq
def Pair.av (x : Pair) : AV := .agg [AV.str x.Key, AV.str x.Val]
structure Taint where
  Key : Str
  Val : Str
  Hard : Bool
  deriving DecidableEq
def Taint.av (x : Taint) : AV := .agg [AV.str x.Key, AV.str x.Val, AV.bool x.Hard]
def Taint.cs (x : Taint) : List AV := [AV.str x.Key, AV.str x.Val, AV.bool x.Hard]
structure Node where
  Name : Str
  Cap : (List Amount)
  Labels : (List Pair)
  Taints : (List Taint)
  Cordon : Bool
  deriving DecidableEq
def Node.av (x : Node) : AV := .agg [AV.str x.Name, AV.lst 2 Amount.av x.Cap, AV.lst 2 Pair.av x.Labels, AV.lst 3 Taint.av x.Taints, AV.bool x.Cordon]
def Node.cs (x : Node) : List AV := [AV.str x.Name, AV.lst 2 Amount.av x.Cap, AV.lst 2 Pair.av x.Labels, AV.lst 3 Taint.av x.Taints, AV.bool x.Cordon]
structure Term where
  Op : Int
  Key : Str
  Val : Str
  deriving DecidableEq
def Term.av (x : Term) : AV := .agg [AV.int x.Op, AV.str x.Key, AV.str x.Val]
def Term.cs (x : Term) : List AV := [AV.int x.Op, AV.str x.Key, AV.str x.Val]
structure Tol where
  Key : Str
  Val : Str
  Any : Bool
  deriving DecidableEq
def Tol.av (x : Tol) : AV := .agg [AV.str x.Key, AV.str x.Val, AV.bool x.Any]
def Tol.cs (x : Tol) : List AV := [AV.str x.Key, AV.str x.Val, AV.bool x.Any]
structure Pod where
  Name : Str
  Owner : Str
  Prio : Int
  Need : (List Amount)
  Labels : (List Pair)
  Sel : (List Term)
  Tols : (List Tol)
  Key : Str
  Most : Int
  Node : Str
  Hold : Bool
  deriving DecidableEq
def Pod.av (x : Pod) : AV := .agg [AV.str x.Name, AV.str x.Owner, AV.int x.Prio, AV.lst 2 Amount.av x.Need, AV.lst 2 Pair.av x.Labels, AV.lst 3 Term.av x.Sel, AV.lst 3 Tol.av x.Tols, AV.str x.Key, AV.int x.Most, AV.str x.Node, AV.bool x.Hold]
def Pod.cs (x : Pod) : List AV := [AV.str x.Name, AV.str x.Owner, AV.int x.Prio, AV.lst 2 Amount.av x.Need, AV.lst 2 Pair.av x.Labels, AV.lst 3 Term.av x.Sel, AV.lst 3 Tol.av x.Tols, AV.str x.Key, AV.int x.Most, AV.str x.Node, AV.bool x.Hold]
structure Budget where
  Name : Str
  Sel : (List Term)
  Floor : Int
  deriving DecidableEq
def Budget.av (x : Budget) : AV := .agg [AV.str x.Name, AV.lst 3 Term.av x.Sel, AV.int x.Floor]
def Budget.cs (x : Budget) : List AV := [AV.str x.Name, AV.lst 3 Term.av x.Sel, AV.int x.Floor]
structure State where
  Nodes : (List Node)
  Pods : (List Pod)
  Budgets : (List Budget)
  deriving DecidableEq
def State.av (x : State) : AV := .agg [AV.lst 5 Node.av x.Nodes, AV.lst 11 Pod.av x.Pods, AV.lst 3 Budget.av x.Budgets]
def State.cs (x : State) : List AV := [AV.lst 5 Node.av x.Nodes, AV.lst 11 Pod.av x.Pods, AV.lst 3 Budget.av x.Budgets]
structure Marks where
  Low : Nat
  High : Nat
  deriving DecidableEq
def Marks.av (x : Marks) : AV := .agg [AV.fl x.Low, AV.fl x.High]
structure Conf where
  Marks : Marks
  On : (List Int)
  deriving DecidableEq
def Conf.av (x : Conf) : AV := .agg [AV.fl x.Marks.Low, AV.fl x.Marks.High, AV.lst 1 AV.int x.On]
def Conf.cs (x : Conf) : List AV := [AV.fl x.Marks.Low, AV.fl x.Marks.High, AV.lst 1 AV.int x.On]
structure Found where
  Pod : Str
  Why : Int
  deriving DecidableEq
def Found.av (x : Found) : AV := .agg [AV.str x.Pod, AV.int x.Why]
structure Move where
  Pod : Str
  From : Str
  To : Str
  deriving DecidableEq
def Move.av (x : Move) : AV := .agg [AV.str x.Pod, AV.str x.From, AV.str x.To]
def Move.cs (x : Move) : List AV := [AV.str x.Pod, AV.str x.From, AV.str x.To]
structure Stop where
  e : Int
  deriving DecidableEq
def Stop.av (x : Stop) : AV := .agg [AV.int x.e]
end Go.Proofs.Eng
