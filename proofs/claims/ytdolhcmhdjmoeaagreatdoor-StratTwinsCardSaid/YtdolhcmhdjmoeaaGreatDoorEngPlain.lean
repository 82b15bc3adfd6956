/- The nice functions: what the program and the document's answer come to, in plain words. -/
import Derived.Test.YtdolhcmhdjmoeaaGreatDoorEngData
import Derived.Test.YtdolhcmhdjmoeaaGreatDoorEngW
import Derived.Test.YtdolhcmhdjmoeaaGreatDoorEngLeaf
set_option linter.unusedSimpArgs false
set_option linter.unusedVariables false
namespace Go.Proofs.Eng
open Go

def Node.none : Node := ⟨[], [], [], [], false⟩
def Pod.none : Pod := ⟨[], [], 0, [], [], [], [], [], 0, [], false⟩
def labelGet (s : List Pair) (key : Str) : Str × Bool :=
  match s with
  | [] => ([], false)
  | p :: r => if p.Key = key then (p.Val, true) else labelGet r key
def nodeFind (s : List Node) (name : Str) : Node × Bool :=
  match s with
  | [] => (Node.none, false)
  | p :: r => if p.Name = name then (p, true) else nodeFind r name
def podFind (s : List Pod) (name : Str) : Pod × Bool :=
  match s with
  | [] => (Pod.none, false)
  | p :: r => if p.Name = name then (p, true) else podFind r name
def getN (s : List Amount) (name : Str) : Int :=
  match s with
  | [] => 0
  | p :: r => if p.Name = name then p.N else getN r name

def sameL {α : Type} [DecidableEq α] (a b : List α) : Bool := decide (a = b)
theorem Amount.eqB (x y : Amount) : (decide (x.Name = y.Name) && (decide (x.N = y.N) && true)) = decide (x = y) := by
  cases x; cases y; simp [beqd]
theorem Pair.eqB (x y : Pair) : (decide (x.Key = y.Key) && (decide (x.Val = y.Val) && true)) = decide (x = y) := by
  cases x; cases y; simp [beqd]
theorem Term.eqB (x y : Term) : (decide (x.Op = y.Op) && (decide (x.Key = y.Key) && (decide (x.Val = y.Val) && true))) = decide (x = y) := by
  cases x; cases y; simp [beqd]
theorem Tol.eqB (x y : Tol) : (decide (x.Key = y.Key) && (decide (x.Val = y.Val) && ((x.Any == y.Any) && true))) = decide (x = y) := by
  cases x; cases y; simp [beqd]
theorem Taint.eqB (x y : Taint) : (decide (x.Key = y.Key) && (decide (x.Val = y.Val) && ((x.Hard == y.Hard) && true))) = decide (x = y) := by
  cases x; cases y; simp [beqd]

def idxF {α : Type} (g : α → Option Bool) : Int → List α → Option Int
  | _, [] => some (-1)
  | i, x :: t => (g x).bind fun b => if b = true then some i else idxF g (i + 1) t
def anyF {α : Type} (g : α → Option Bool) : List α → Option Bool
  | [] => some false
  | x :: t => (g x).bind fun b => if b = true then some true else anyF g t
theorem idxF_any {α : Type} (g : α → Option Bool) : ∀ (l : List α) (i : Int), 0 ≤ i → ((idxF g i l).bind fun r => some (decide (0 ≤ r))) = anyF g l
  | [], i, h => by simp [idxF, anyF]
  | x :: t, i, h => by
    simp only [idxF, anyF]
    cases g x with
    | none => rfl
    | some b =>
      simp only [Option.bind_some]
      cases b
      · simpa using idxF_any g t (i + 1) (by omega)
      · simp [h]

/-- Few, and none of them long. -/
def few {α : Type} (ok : α → Bool) (l : List α) : Bool := decide (l.length ≤ 20) && l.all ok
def Amount.short (x : Amount) : Bool := decide (x.Name.length ≤ 50)
def Pair.short (x : Pair) : Bool := decide (x.Key.length ≤ 50) && decide (x.Val.length ≤ 50)
def Term.short (x : Term) : Bool := decide (x.Key.length ≤ 50) && decide (x.Val.length ≤ 50)
def Tol.short (x : Tol) : Bool := decide (x.Key.length ≤ 50) && decide (x.Val.length ≤ 50)
def Taint.short (x : Taint) : Bool := decide (x.Key.length ≤ 50) && decide (x.Val.length ≤ 50)
/-- A list that can be copied: its n bytes an element fit. -/
def copied {α : Type} (n : Nat) (l : List α) : Option (List α) := if fits n l.length then some l else none

theorem copied_some {α : Type} {n : Nat} {l r : List α} (h : copied n l = some r) : r = l ∧ fits n l.length := by
  unfold copied at h
  split at h
  · rename_i hp; cases h; exact ⟨rfl, hp⟩
  · cases h
theorem copied_step {α : Type} {n : Nat} {b t r : List α} {x : α} (h : copied n (b ++ x :: t) = some r) : fits n (b ++ [x]).length ∧ copied n (b ++ [x] ++ t) = some r := by
  have e : b ++ [x] ++ t = b ++ x :: t := by simp
  rw [e]
  refine ⟨?_, h⟩
  obtain ⟨_, h1, h2⟩ := copied_some h
  simp only [List.length_append, List.length_cons, List.length_nil] at h1 h2 ⊢
  exact ⟨Nat.le_trans (Nat.mul_le_mul_right n (by omega)) h1, by omega⟩

theorem fits_le {n m m' : Nat} (h : fits n m) (hm : m' ≤ m) : fits n m' := ⟨Nat.le_trans (Nat.mul_le_mul_right n hm) h.1, Nat.le_trans hm h.2⟩
/-- Those of a list for which f holds, behind b. -/
def filtF {α : Type} (n : Nat) (f : α → Bool) (b t : List α) : Option (List α) := if fits n (b.length + t.length) then some (b ++ t.filter f) else none
theorem filtF_some {α : Type} {n : Nat} {f : α → Bool} {b t r : List α} (h : filtF n f b t = some r) : fits n (b.length + t.length) ∧ r = b ++ t.filter f := by
  unfold filtF at h
  split at h
  · rename_i hp; cases h; exact ⟨hp, rfl⟩
  · cases h
theorem filtF_yes {α : Type} {n : Nat} {f : α → Bool} {b t r : List α} {x : α} (h : filtF n f b (x :: t) = some r) (hx : f x = true) : fits n (b ++ [x]).length ∧ filtF n f (b ++ [x]) t = some r := by
  obtain ⟨h1, rfl⟩ := filtF_some h
  refine ⟨fits_le h1 (by simp only [List.length_append, List.length_cons, List.length_nil]; omega), ?_⟩
  unfold filtF
  rw [if_pos (fits_le h1 (by simp only [List.length_append, List.length_cons, List.length_nil]; omega))]
  simp [hx]
theorem filtF_no {α : Type} {n : Nat} {f : α → Bool} {b t r : List α} {x : α} (h : filtF n f b (x :: t) = some r) (hx : f x = false) : filtF n f b t = some r := by
  obtain ⟨h1, rfl⟩ := filtF_some h
  unfold filtF
  rw [if_pos (fits_le h1 (by simp only [List.length_append, List.length_cons, List.length_nil]; omega))]
  simp [hx]

/-- Whose pods stand on the node of this name. -/
def onNode (name : Str) (p : Pod) : Bool := decide (p.Node = name) && decide (¬ name = [])
def onF (s : State) (name : Str) : Option (List Pod) := filtF 184 (onNode name) [] s.Pods

/-! What can be copied comes out as it is. -/
def keep {α : Type} (ok : α → Bool) (x : α) : Option α := if ok x = true then some x else none
def keepAll {α : Type} (n : Nat) (ok : α → Bool) (l : List α) : Option (List α) := if fits n l.length ∧ l.all ok = true then some l else none
theorem keep_some {α : Type} {ok : α → Bool} {x r : α} (h : keep ok x = some r) : r = x ∧ ok x = true := by
  unfold keep at h
  split at h
  · rename_i hp; cases h; exact ⟨rfl, hp⟩
  · cases h
theorem keepAll_some {α : Type} {n : Nat} {ok : α → Bool} {l r : List α} (h : keepAll n ok l = some r) : r = l ∧ fits n l.length ∧ l.all ok = true := by
  unfold keepAll at h
  split at h
  · rename_i hp; cases h; exact ⟨rfl, hp⟩
  · cases h
/-- Along a list: b is done. -/
def keepL {α : Type} (n : Nat) (ok : α → Bool) (b t : List α) : Option (List α) := if fits n (b.length + t.length) ∧ t.all ok = true then some (b ++ t) else none
theorem keepL_some {α : Type} {n : Nat} {ok : α → Bool} {b t r : List α} (h : keepL n ok b t = some r) : r = b ++ t ∧ fits n (b.length + t.length) ∧ t.all ok = true := by
  unfold keepL at h
  split at h
  · rename_i hp; cases h; exact ⟨rfl, hp⟩
  · cases h
theorem keepL_step {α : Type} {n : Nat} {ok : α → Bool} {b t r : List α} {x : α} (h : keepL n ok b (x :: t) = some r) : keep ok x = some x ∧ fits n (b ++ [x]).length ∧ keepL n ok (b ++ [x]) t = some r := by
  obtain ⟨rfl, h1, h2⟩ := keepL_some h
  simp only [List.all_cons, Bool.and_eq_true] at h2
  refine ⟨by simp [keep, h2.1], fits_le h1 (by simp only [List.length_append, List.length_cons, List.length_nil]; omega), ?_⟩
  unfold keepL
  rw [if_pos ⟨fits_le h1 (by simp only [List.length_append, List.length_cons, List.length_nil]; omega), h2.2⟩]
  simp
theorem copied_of {α : Type} {n : Nat} {l : List α} (h : fits n l.length) : copied n l = some l := by unfold copied; rw [if_pos h]
def Node.ok (x : Node) : Bool := decide (fits 24 x.Cap.length) && decide (fits 32 x.Labels.length) && decide (fits 40 x.Taints.length)
def Pod.ok (x : Pod) : Bool := decide (fits 24 x.Need.length) && decide (fits 32 x.Labels.length) && decide (fits 40 x.Sel.length) && decide (fits 40 x.Tols.length)
def Budget.ok (x : Budget) : Bool := decide (fits 40 x.Sel.length)
def State.ok (x : State) : Bool := decide (fits 96 x.Nodes.length) && x.Nodes.all Node.ok && decide (fits 184 x.Pods.length) && x.Pods.all Pod.ok && decide (fits 48 x.Budgets.length) && x.Budgets.all Budget.ok

/-! What is wrong with what. -/
def leS (a b : Str) : Bool := Op.bytesLess a b || decide (a = b)
def nameB (b : UInt8) : Bool := (decide (97 ≤ b.toNat) && decide (b.toNat ≤ 122)) || (decide (48 ≤ b.toNat) && decide (b.toNat ≤ 57))
def isName (s : Str) : Bool := decide (1 ≤ s.length) && decide (s.length ≤ 12) && s.all nameB
def chkRows {α : Type} (chk : α → Int) (key : α → Str) : Option α → List α → Int
  | _, [] => 0
  | o, x :: t => if chk x ≠ 0 then chk x else if (match o with | none => false | some y => leS (key x) (key y)) = true then 13 else chkRows chk key (some x) t
def chkAll {α : Type} (chk : α → Int) : List α → Int
  | [] => 0
  | x :: t => if chk x ≠ 0 then chk x else chkAll chk t
def amtChk (x : Amount) : Int := if isName x.Name = true then if x.N ≤ 0 then 1 else 0 else 3
def checkVec (v : List Amount) : Int := if 8 < v.length then 4 else chkRows amtChk Amount.Name none v
def pairChk (x : Pair) : Int := if isName x.Key = true ∧ isName x.Val = true then 0 else 3
def checkSet (v : List Pair) : Int := if 8 < v.length then 4 else chkRows pairChk Pair.Key none v
def termChk (t : Term) : Int := if t.Op < 1 ∨ 4 < t.Op then 1 else if isName t.Key = true ∧ (t.Op ≤ 2 → isName t.Val = true) ∧ (3 ≤ t.Op → t.Val = []) then 0 else 3
def checkSel (v : List Term) : Int := if 8 < v.length then 4 else chkAll termChk v
def tolChk (t : Tol) : Int := if (t.Key = [] ∨ isName t.Key = true) ∧ (if t.Any = true then t.Val = [] else isName t.Val = true) then 0 else 3
def checkTols (v : List Tol) : Int := if 8 < v.length then 4 else chkAll tolChk v
def sameTaint (x y : Taint) : Bool := decide (x.Key = y.Key) && decide (x.Val = y.Val)
def chkTaints : List Taint → List Taint → Int
  | _, [] => 0
  | d, x :: t => if isName x.Key = true ∧ isName x.Val = true then if d.any (fun y => sameTaint y x) = true then 6 else chkTaints (d ++ [x]) t else 3
def checkTaints (v : List Taint) : Int := if 8 < v.length then 4 else chkTaints [] v
/-- The first that is not 0. -/
def fst0 : List Int → Int
  | [] => 0
  | e :: r => if e ≠ 0 then e else fst0 r
def named (s : Str) : Int := if isName s = true then 0 else 3
def maybeName (s : Str) : Int := if s = [] then 0 else named s
def checkNode (n : Node) : Int := fst0 [named n.Name, checkVec n.Cap, checkSet n.Labels, checkTaints n.Taints]
def checkNodes (l : List Node) : Int := if 32 < l.length then 4 else chkRows checkNode Node.Name none l
def prioChk (p : Pod) : Int := if p.Hold = true then (if p.Prio = -1 then 0 else 1) else if 0 ≤ p.Prio ∧ p.Prio ≤ 1000000 then 0 else 1
def mostChk (p : Pod) : Int := if p.Key = [] then (if p.Most = 0 then 0 else 1) else if 1 ≤ p.Most ∧ p.Most ≤ 128 then 0 else 1
def checkPod (p : Pod) : Int := fst0 [named p.Name, maybeName p.Owner, prioChk p, checkVec p.Need, checkSet p.Labels, checkSel p.Sel, checkTols p.Tols, maybeName p.Key, mostChk p, maybeName p.Node]
def checkPods (l : List Pod) : Int := if 128 < l.length then 4 else chkRows checkPod Pod.Name none l
def floorChk (b : Budget) : Int := if b.Floor < 0 ∨ 128 < b.Floor then 1 else 0
def checkBudget (b : Budget) : Int := fst0 [named b.Name, checkSel b.Sel, floorChk b]
def checkBudgets (l : List Budget) : Int := if 8 < l.length then 4 else chkRows checkBudget Budget.Name none l

theorem chkRows_cons {α : Type} (chk : α → Int) (key : α → Str) (o : Option α) (x : α) (t : List α) : chkRows chk key o (x :: t) = if chk x ≠ 0 then chk x else if (match o with | none => false | some y => leS (key x) (key y)) = true then 13 else chkRows chk key (some x) t := rfl
theorem chkAll_cons {α : Type} (chk : α → Int) (x : α) (t : List α) : chkAll chk (x :: t) = if chk x ≠ 0 then chk x else chkAll chk t := rfl

/-! Small ones. -/
def Budget.short (b : Budget) : Bool := decide (b.Name.length ≤ 50) && few Term.short b.Sel
def Node.few (n : Node) : Bool := decide (n.Name.length ≤ 50) && Eng.few Amount.short n.Cap && Eng.few Pair.short n.Labels && Eng.few Taint.short n.Taints
def Pod.few (p : Pod) : Bool := decide (p.Name.length ≤ 50) && decide (p.Owner.length ≤ 50) && decide (p.Key.length ≤ 50) && decide (p.Node.length ≤ 50) && Eng.few Amount.short p.Need && Eng.few Pair.short p.Labels && Eng.few Term.short p.Sel && Eng.few Tol.short p.Tols
def State.few (s : State) : Bool := decide (s.Nodes.length ≤ 34) && decide (s.Pods.length ≤ 130) && Eng.few Budget.short s.Budgets && s.Nodes.all Node.few && s.Pods.all Pod.few

/-! Sums. -/
/-- Those of both, rising, each once (n: how many at the most). -/
def mergeN : Nat → List Str → List Str → List Str
  | 0, _, _ => []
  | _ + 1, [], [] => []
  | n + 1, x :: a, [] => x :: mergeN n a []
  | n + 1, [], y :: b => y :: mergeN n [] b
  | n + 1, x :: a, y :: b => if Op.bytesLess x y = true then x :: mergeN n a (y :: b) else if Op.bytesLess y x = true then y :: mergeN n (x :: a) b else x :: mergeN n a b
def namesR (a b : List Amount) : Option (List Str) := if fits 16 (a.length + b.length) then some (mergeN (a.length + b.length) (a.map Amount.Name) (b.map Amount.Name)) else none
def rAdd (a b : Int) : Int × Int := if (decide (a < 0) || decide (b < 0)) = true then (0, 1) else if decide (w64 ((9223372036854775807 : Int) - b) < a) = true then (0, 5) else (w64 (a + b), 0)
def addL (a b : List Amount) : List Str → List Amount → List Amount × Int
  | [], out => if 8 < out.length then ([], 4) else (out, 0)
  | s :: t, out => if (rAdd (getN a s) (getN b s)).2 ≠ 0 then ([], (rAdd (getN a s) (getN b s)).2) else addL a b t (out ++ [⟨s, (rAdd (getN a s) (getN b s)).1⟩])
def addVec (a b : List Amount) : List Amount × Int := if checkVec a ≠ 0 then ([], checkVec a) else if checkVec b ≠ 0 then ([], checkVec b) else addL a b (mergeN (a.length + b.length) (a.map Amount.Name) (b.map Amount.Name)) []
theorem mergeN_len : ∀ (n : Nat) (a b : List Str), (mergeN n a b).length ≤ n
  | 0, _, _ => by simp [mergeN]
  | n + 1, [], [] => by simp [mergeN]
  | n + 1, x :: a, [] => by simp only [mergeN, List.length_cons]; have := mergeN_len n a []; omega
  | n + 1, [], y :: b => by simp only [mergeN, List.length_cons]; have := mergeN_len n [] b; omega
  | n + 1, x :: a, y :: b => by
    simp only [mergeN]
    split
    · simp only [List.length_cons]; have := mergeN_len n a (y :: b); omega
    · split
      · simp only [List.length_cons]; have := mergeN_len n (x :: a) b; omega
      · simp only [List.length_cons]; have := mergeN_len n a b; omega
theorem mergeN_fuel : ∀ (n m : Nat) (a b : List Str), a.length + b.length ≤ n → a.length + b.length ≤ m → mergeN n a b = mergeN m a b
  | 0, 0, _, _, _, _ => rfl
  | 0, m + 1, a, b, h, _ => by
    have ha : a = [] := List.eq_nil_of_length_eq_zero (by omega)
    have hb : b = [] := List.eq_nil_of_length_eq_zero (by omega)
    subst ha hb; rfl
  | n + 1, 0, a, b, _, h => by
    have ha : a = [] := List.eq_nil_of_length_eq_zero (by omega)
    have hb : b = [] := List.eq_nil_of_length_eq_zero (by omega)
    subst ha hb; rfl
  | n + 1, m + 1, [], [], _, _ => rfl
  | n + 1, m + 1, x :: a, [], h, h' => by simp only [mergeN]; rw [mergeN_fuel n m a [] (by simp at h ⊢; omega) (by simp at h' ⊢; omega)]
  | n + 1, m + 1, [], y :: b, h, h' => by simp only [mergeN]; rw [mergeN_fuel n m [] b (by simp at h ⊢; omega) (by simp at h' ⊢; omega)]
  | n + 1, m + 1, x :: a, y :: b, h, h' => by
    simp only [List.length_cons] at h h'
    simp only [mergeN]
    rw [mergeN_fuel n m a (y :: b) (by simp; omega) (by simp; omega), mergeN_fuel n m (x :: a) b (by simp; omega) (by simp; omega), mergeN_fuel n m a b (by omega) (by omega)]
theorem checkVec_len {v : List Amount} (h : checkVec v = 0) : v.length ≤ 8 := by
  unfold checkVec at h
  split at h
  · cases h
  · omega
def usedL (name : Str) : List Pod → List Amount → List Amount × Int
  | [], v => (v, 0)
  | p :: t, v => if p.Node = name then (if (addVec v p.Need).2 ≠ 0 then ([], (addVec v p.Need).2) else usedL name t (addVec v p.Need).1) else usedL name t v
def usedR (s : State) (name : Str) : List Amount × Int := if (nodeFind s.Nodes name).2 = true then usedL name s.Pods [] else ([], 3)
def totalL : List Node → List Amount → List Amount × Int
  | [], v => (v, 0)
  | n :: t, v => if (addVec v n.Cap).2 ≠ 0 then ([], (addVec v n.Cap).2) else totalL t (addVec v n.Cap).1
def totalR (s : State) : List Amount × Int := totalL s.Nodes []
def fitsB (need have_ : List Amount) : Bool := need.all fun x => !decide (getN have_ x.Name < x.N)
def placed (s : State) : List Pod → Bool
  | [] => true
  | p :: t => if p.Node = [] then placed s t else if (nodeFind s.Nodes p.Node).2 = true then placed s t else false
def roomy (s : State) : List Node → Int
  | [] => 0
  | n :: t => if (usedR s n.Name).2 ≠ 0 then (usedR s n.Name).2 else if fitsB (usedR s n.Name).1 n.Cap = true then roomy s t else 7
def checkState (s : State) : Int :=
  if checkNodes s.Nodes ≠ 0 then checkNodes s.Nodes else if checkPods s.Pods ≠ 0 then checkPods s.Pods else if checkBudgets s.Budgets ≠ 0 then checkBudgets s.Budgets else
  if placed s s.Pods = true then (if roomy s s.Nodes ≠ 0 then roomy s s.Nodes else (totalR s).2) else 3

end Go.Proofs.Eng
