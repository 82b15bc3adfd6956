/- 'ballastlaw19.StratTwins': the count over all nodes (under way). -/
import Derived.Test.YtdolhcmhdjmoeaaGreatDoorLawTwins3
set_option linter.unusedSimpArgs false
set_option linter.unusedVariables false
set_option maxRecDepth 100000
namespace Go.Proofs.Eng
open Go Go.Proofs

theorem sum_add {α : Type} (f g : α → Nat) : ∀ l : List α, (l.map fun x => f x + g x).sum = (l.map f).sum + (l.map g).sum
  | [] => rfl
  | x :: t => by simp only [List.map_cons, List.sum_cons, sum_add f g t]; omega
theorem sum_ind {α : Type} (q : α → Bool) : ∀ l : List α, (l.map fun x => if q x = true then 1 else 0).sum = l.countP q
  | [] => rfl
  | x :: t => by
    simp only [List.map_cons, List.sum_cons, sum_ind q t, List.countP_cons]
    omega
theorem sum_zero {α : Type} : ∀ l : List α, (l.map fun _ => 0).sum = 0
  | [] => rfl
  | _ :: t => by simp only [List.map_cons, List.sum_cons, sum_zero t]
theorem sum_split (bad : Pod → Bool) (N : List Node) : ∀ r : List Pod, (∀ p ∈ r, bad p = true → N.countP (fun nd => onNode nd.Name p) = 1) → (N.map fun nd => (r.filter (onNode nd.Name)).countP bad).sum = r.countP bad
  | [], _ => by simpa using sum_zero N
  | p :: r, h => by
    have ih := sum_split bad N r fun q hq => h q (List.mem_cons_of_mem _ hq)
    have e : (fun nd : Node => ((p :: r).filter (onNode nd.Name)).countP bad) = fun nd => (r.filter (onNode nd.Name)).countP bad + if (onNode nd.Name p && bad p) = true then 1 else 0 := by
      funext nd
      cases h1 : onNode nd.Name p with
      | true => simp [List.filter_cons_of_pos h1, List.countP_cons]
      | false => simp [List.filter_cons_of_neg (show ¬ onNode nd.Name p = true by rw [h1]; decide)]
    rw [e, sum_add, ih, sum_ind, List.countP_cons]
    cases hb : bad p with
    | true =>
      have := h p List.mem_cons_self hb
      simp only [Bool.and_true, this, if_true]
    | false => simp
theorem nodes_cnt (s : State) (hs : s.Pods.Pairwise lessN) (hi : ∀ x ∈ s.Pods, Op.bytesLess x.Name x.Name = false) (hp : s.Pods.length ≤ 130) : ∀ (t pre : List Node) (n : Int), 0 ≤ n → n + 130 * t.length ≤ 100000 →
    foldP (fun n _ nd => foldP stepT n [] (onL s nd.Name)) n pre t = n + ((t.map fun nd => (onL s nd.Name).countP (badP s)).sum : Nat)
  | [], pre, n, _, _ => by simp [foldP]
  | nd :: t, pre, n, h0, h1 => by
    simp only [List.length_cons] at h1
    have hc : (onL s nd.Name).countP (badP s) ≤ 130 := Nat.le_trans List.countP_le_length (Nat.le_trans (List.length_filter_le _ _) hp)
    simp only [foldP, node_cnt s nd.Name hs hi hp n h0 (by omega)]
    rw [nodes_cnt s hs hi hp t _ _ (by omega) (by omega)]
    simp only [List.map_cons, List.sum_cons]
    omega
/-- What is wanted is what is found. -/
theorem want_eq (s : State) (hs : s.Pods.Pairwise lessN) (hi : ∀ x ∈ s.Pods, Op.bytesLess x.Name x.Name = false) (hp : s.Pods.length ≤ 130) (hn : s.Nodes.length ≤ 34) (h1 : ∀ p ∈ s.Pods, ¬ p.Node = [] → s.Nodes.countP (fun nd => onNode nd.Name p) = 1) :
    (((s.Pods.filter (badP s)).map Pod.Name).length : Int) = wantT s := by
  unfold wantT
  rw [nodes_cnt s hs hi hp _ _ _ (by omega) (by omega), List.length_map, ← List.countP_eq_length_filter]
  have := sum_split (badP s) s.Nodes s.Pods fun p hp hb => h1 p hp (by
    unfold badP at hb
    simp only [Bool.and_eq_true, decide_eq_true_eq] at hb
    exact hb.1)
  unfold onL
  rw [this]
  omega
end Go.Proofs.Eng
