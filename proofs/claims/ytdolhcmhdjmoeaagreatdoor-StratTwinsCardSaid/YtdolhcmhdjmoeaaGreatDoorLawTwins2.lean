/- 'ballastlaw19.StratTwins': what it counts (under way). -/
import Derived.Test.YtdolhcmhdjmoeaaGreatDoorLawTwins
set_option linter.unusedSimpArgs false
set_option linter.unusedVariables false
set_option maxRecDepth 100000
namespace Go.Proofs.Eng
open Go Go.Proofs

def sameO (x y : Pod) : Bool := decide (y.Owner = x.Owner) && !y.Hold
/-- Not the first of its owner's. -/
def cntB (pre : List Pod) (x : Pod) : Bool := pre.any (sameO x) && (decide (¬ x.Owner = []) && !x.Hold)
theorem foldP_first (x : Pod) : ∀ (l pre : List Pod) (b : Bool), foldP (fun b _ y => if sameO x y = true then false else b) b pre l = (b && !l.any (sameO x))
  | [], _, b => by simp [foldP]
  | y :: t, pre, b => by
    simp only [foldP, List.any_cons]
    rw [foldP_first x t]
    cases sameO x y <;> simp
theorem getI_take {α : Type} (l : List α) (k p : Int) (h0 : 0 ≤ p) (h1 : p < k) : getI (l.take k.toNat) p = getI l p := by
  unfold getI
  rw [if_pos h0, if_pos h0, List.getElem?_take_of_lt (by omega)]
theorem l37_eq (l : List Pod) (hl : l.length ≤ 130) (n k : Int) (x : Pod) (h0 : 0 ≤ k) (hk : k < l.length) (hx : getI l k = some x) (rec : Int × Int → Option Bool) :
    iterL (F11.l37 (n, k) l rec) 4096 (true, 0) = rec (if cntB (l.take k.toNat) x = true then w64 (n + 1) else n, w64 (k + 1)) := by
  have hlen : (l.take k.toNat).length = k.toNat := by rw [List.length_take]; omega
  have h := iter_foldP (β := Bool) (l.take k.toNat) 4096 (by omega) (by omega) (fun b p => (b, p)) (F11.l37 (n, k) l rec) (fun b _ y => if sameO x y = true then false else b)
    (fun b => rec (if ((!b) && (decide (¬ x.Owner = []) && !x.Hold)) = true then w64 (n + 1) else n, w64 (k + 1))) ?_ ?_ true
  · rw [h, foldP_first]
    simp [cntB]
  · intro rec2 b
    have e : ¬ (((l.take k.toNat).length : Int) < k) := by omega
    simp only [F11.l37, e, decide_false, Bool.false_eq_true, _root_.if_false, hx, Option.bind_some, F11.j53, F11.j54]
    cases b
    · by_cases q1 : x.Owner = []
      · simp [q1]
      · rcases Bool.eq_false_or_eq_true x.Hold with q2 | q2 <;> simp [q1, q2]
    · simp
  · intro rec2 p b y hp0 hp1 hy hm hw
    have hpk : p < k := by omega
    have hy2 : getI l p = some y := by rw [← getI_take l k p hp0 hpk]; exact hy
    simp only [F11.l37, hpk, hy2, hx, decide_true, if_true, Option.bind_some, F11.j45, F11.j46, hw, sameO]
    by_cases q1 : y.Owner = x.Owner
    · rcases Bool.eq_false_or_eq_true y.Hold with q2 | q2 <;> simp [q1, q2]
    · simp [q1]
def stepT (n : Int) (pre : List Pod) (x : Pod) : Int := if cntB pre x = true then w64 (n + 1) else n
theorem l27_eq (s : State) (l : List Pod) (hl : l.length ≤ 130) (n : Int) (rec18 : Int × Int → Option Bool) (p18 : Int × Int) :
    A11.l27 s l (A11.l37 s) rec18 p18 (n, 0) = rec18 (foldP stepT n [] l, w64 (p18.2 + 1)) := by
  refine iter_foldP (β := Int) l 4096 (by omega) (by omega) (fun b p => (b, p)) _ stepT (fun b => rec18 (b, w64 (p18.2 + 1))) ?_ ?_ n
  · intro rec b
    simp only [F11.l27, Int.lt_irrefl, decide_false, Bool.false_eq_true, _root_.if_false]
  · intro rec p b x h0 h1 hx hm hw
    simp only [F11.l27, h1, decide_true, if_true]
    have := l37_eq l hl b p x h0 h1 hx rec
    rw [hw] at this
    exact this
/-- All that are not the first of their owner's, node by node. -/
def wantT (s : State) : Int := foldP (fun n _ nd => foldP stepT n [] (onL s nd.Name)) 0 [] s.Nodes
theorem A11_eq (s : State) (hp : s.Pods.length ≤ 130) (hn : s.Nodes.length ≤ 34) : A11.l18 s (A11.l27 s) (A11.l37 s) (0, 0) = some (decide ((((s.Pods.filter (badP s)).map Pod.Name).length : Int) = wantT s)) := by
  refine iter_foldP (β := Int) s.Nodes 4096 (by omega) (by omega) (fun b p => (b, p)) _ (fun n _ nd => foldP stepT n [] (onL s nd.Name)) (fun b => some (decide ((((s.Pods.filter (badP s)).map Pod.Name).length : Int) = b))) ?_ ?_ 0
  · intro rec b
    simp only [F11.l18, Int.lt_irrefl, decide_false, Bool.false_eq_true, _root_.if_false, A46_eq s hp, Option.bind_some]
  · intro rec p b x h0 h1 hx hm hw
    simp only [F11.l18, h1, hx, onF_eq s hp, decide_true, if_true, Option.bind_some]
    rw [l27_eq s (onL s x.Name) (Nat.le_trans (List.length_filter_le _ _) hp), hw]
end Go.Proofs.Eng
