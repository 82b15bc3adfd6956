/- 'ballastlaw19.StratTwins': the count (under way). -/
import Derived.Test.YtdolhcmhdjmoeaaGreatDoorLawTwins2
set_option linter.unusedSimpArgs false
set_option linter.unusedVariables false
set_option maxRecDepth 100000
namespace Go.Proofs.Eng
open Go Go.Proofs

def lessN (x y : Pod) : Prop := Op.bytesLess x.Name y.Name = true ∧ Op.bytesLess y.Name x.Name = false ∧ Op.bytesLess x.Name x.Name = false ∧ Op.bytesLess y.Name y.Name = false
/-- Not the first of its owner's among these. -/
def cAll (l : List Pod) (p : Pod) : Bool := (l.any fun x => sameO p x && Op.bytesLess x.Name p.Name) && (decide (¬ p.Owner = []) && !p.Hold)
theorem pre_any (pre t : List Pod) (x : Pod) (hs : (pre ++ x :: t).Pairwise lessN) (hxx : Op.bytesLess x.Name x.Name = false) : pre.any (sameO x) = (pre ++ x :: t).any fun y => sameO x y && Op.bytesLess y.Name x.Name := by
  rw [List.pairwise_append] at hs
  obtain ⟨h1, h2, h3⟩ := hs
  rw [List.any_append, List.any_cons, hxx, Bool.and_false, Bool.false_or]
  have e1 : (pre.any fun y => sameO x y && Op.bytesLess y.Name x.Name) = pre.any (sameO x) := by
    rw [Bool.eq_iff_iff, List.any_eq_true, List.any_eq_true]
    constructor
    · rintro ⟨y, hy, hc⟩
      simp only [Bool.and_eq_true] at hc
      exact ⟨y, hy, hc.1⟩
    · rintro ⟨y, hy, hc⟩
      exact ⟨y, hy, by rw [hc, (h3 y hy x List.mem_cons_self).1]; rfl⟩
  have e2 : (t.any fun y => sameO x y && Op.bytesLess y.Name x.Name) = false := by
    rw [List.any_eq_false]
    intro y hy
    have := (List.pairwise_cons.1 h2).1 y hy
    rw [this.2.1]
    simp
  rw [e1, e2, Bool.or_false]
theorem foldP_cnt : ∀ (t pre : List Pod) (n : Int), (pre ++ t).Pairwise lessN → (∀ x ∈ t, Op.bytesLess x.Name x.Name = false) → 0 ≤ n → n + t.length ≤ 1000000 → foldP stepT n pre t = n + t.countP (cAll (pre ++ t))
  | [], pre, n, _, _, _, _ => by simp [foldP]
  | x :: t, pre, n, hs, hi, h0, h1 => by
    simp only [List.length_cons] at h1
    simp only [foldP, stepT]
    have e : cntB pre x = cAll (pre ++ x :: t) x := by
      unfold cntB cAll
      rw [pre_any pre t x hs (hi x List.mem_cons_self)]
    have e2 : pre ++ [x] ++ t = pre ++ x :: t := by simp
    have hw : w64 (n + 1) = n + 1 := w64_of (by omega) (by omega)
    rw [e, List.countP_cons, hw]
    cases hc : cAll (pre ++ x :: t) x with
    | true =>
      have := foldP_cnt t (pre ++ [x]) (n + 1) (by rw [e2]; exact hs) (fun y hy => hi y (List.mem_cons_of_mem _ hy)) (by omega) (by omega)
      rw [e2] at this
      simp only [if_true, this]
      omega
    | false =>
      have := foldP_cnt t (pre ++ [x]) n (by rw [e2]; exact hs) (fun y hy => hi y (List.mem_cons_of_mem _ hy)) (by omega) (by omega)
      rw [e2] at this
      simp only [Bool.false_eq_true, _root_.if_false, this]
      omega
/-- Who is not the first of its owner's on a node. -/
theorem node_cnt (s : State) (nm : Str) (hs : s.Pods.Pairwise lessN) (hi : ∀ x ∈ s.Pods, Op.bytesLess x.Name x.Name = false) (hp : s.Pods.length ≤ 130) (n : Int) (h0 : 0 ≤ n) (h1 : n ≤ 100000) :
    foldP stepT n [] (onL s nm) = n + (onL s nm).countP (badP s) := by
  have hl : (onL s nm).length ≤ 130 := Nat.le_trans (List.length_filter_le _ _) hp
  have := foldP_cnt (onL s nm) [] n (by rw [List.nil_append]; exact hs.sublist List.filter_sublist) (fun x hx => hi x (List.mem_filter.1 hx).1) h0 (by omega)
  rw [this, List.nil_append]
  congr 2
  apply List.countP_congr
  intro p hp
  have hn : onNode nm p = true := (List.mem_filter.1 hp).2
  unfold onNode at hn
  simp only [Bool.and_eq_true, decide_eq_true_eq] at hn
  obtain ⟨h5, h6⟩ := hn
  have h7 : ¬ p.Node = [] := by rw [h5]; exact h6
  unfold badP twinB cAll
  rw [h5]
  simp only [h7, h6, not_false_eq_true, decide_true, Bool.true_and, sameO]
  have : ((onL s nm).any fun x => decide (x.Owner = p.Owner) && !x.Hold && Op.bytesLess x.Name p.Name) = (onL s nm).any fun x => decide (x.Owner = p.Owner) && (!x.Hold && Op.bytesLess x.Name p.Name) := by
    congr 1; funext x; rw [Bool.and_assoc]
  rw [this]
  generalize ((onL s nm).any fun x => decide (x.Owner = p.Owner) && (!x.Hold && Op.bytesLess x.Name p.Name)) = A
  rcases Bool.eq_false_or_eq_true p.Hold with q | q <;> by_cases q1 : p.Owner = [] <;> cases A <;> simp [q, q1]
end Go.Proofs.Eng
