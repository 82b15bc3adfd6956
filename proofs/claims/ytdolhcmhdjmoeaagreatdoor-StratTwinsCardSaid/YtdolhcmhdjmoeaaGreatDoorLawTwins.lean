/- 'ballastlaw19.StratTwins': what it computes (under way). -/
import Derived.Test.YtdolhcmhdjmoeaaGreatDoorStrT10
import Derived.Test.YtdolhcmhdjmoeaaGreatDoorEngOk
set_option linter.unusedSimpArgs false
set_option linter.unusedVariables false
set_option maxRecDepth 100000
namespace Go.Proofs.Eng
open Go Go.Proofs

theorem anyF_some {α : Type} (g : α → Option Bool) (f : α → Bool) : ∀ (l : List α), (∀ x ∈ l, g x = some (f x)) → anyF g l = some (l.any f)
  | [], _ => rfl
  | x :: t, h => by
    simp only [anyF, h x List.mem_cons_self, Option.bind_some, List.any_cons]
    cases f x
    · simpa using anyF_some g f t fun y hy => h y (List.mem_cons_of_mem _ hy)
    · rfl
def onL (s : State) (n : Str) : List Pod := s.Pods.filter (onNode n)
theorem onF_eq (s : State) (hp : s.Pods.length ≤ 130) (n : Str) : onF s n = some (onL s n) := by
  unfold onF filtF
  rw [if_pos (by simp only [List.length_nil]; omega)]
  rfl
def twinB (s : State) (p : Pod) : Bool := decide (¬ p.Owner = []) && (onL s p.Node).any fun x => decide (x.Owner = p.Owner) && ((!x.Hold) && Op.bytesLess x.Name p.Name)
theorem F233_eq (s : State) (hp : s.Pods.length ≤ 130) (p : Pod) : F233 p s = some (twinB s p) := by
  unfold F233 twinB
  have h1 := anyF_some (fun y0 => F235 y0 p) (fun x => decide (x.Owner = p.Owner) && ((!x.Hold) && Op.bytesLess x.Name p.Name)) (onL s p.Node) fun x _ => rfl
  by_cases q : p.Owner = []
  · simp [q, F233.j6]
  · simp only [q, not_false_eq_true, decide_true, if_true, onF_eq s hp, Option.bind_some, h1, F233.j6, Bool.true_and]
def badP (s : State) (p : Pod) : Bool := decide (¬ p.Node = []) && ((!p.Hold) && twinB s p)
theorem A46_eq (s : State) (hp : s.Pods.length ≤ 130) (m : Marks) : A46 s 3 m = some ((s.Pods.filter (badP s)).map Pod.Name) := by
  unfold A46 F46
  have h1 : ∃ e, F135 s 3 m = some e ∧ ∀ y, e.2 y = F233 y s := by
    unfold F135
    exact ⟨_, rfl, fun _ => rfl⟩
  obtain ⟨e, he, hg⟩ := h1
  rw [he, Option.bind_some]
  have : ∃ r, iterL (F46.l10 s e) 4096 ((fun (o : List Str) p => (o, p)) [] 0) = some r ∧ r = (s.Pods.filter (badP s)).map Pod.Name := by
    refine iter_ok (β := List Str) s.Pods 4096 (by omega) (by omega) (fun o p => (o, p)) _ (fun o t => o ++ (t.filter (badP s)).map Pod.Name = (s.Pods.filter (badP s)).map Pod.Name) _ ?_ ?_ [] rfl
    · intro rec o ho
      simp only [F46.l10, Int.lt_irrefl, decide_false, Bool.false_eq_true, _root_.if_false]
      exact ⟨o, rfl, by simpa using ho⟩
    · intro rec p o x t h0 h1 hx hm hw ho hr
      have hlen : o.length + ((x :: t).filter (badP s)).length ≤ 130 := by
        have := congrArg List.length ho
        simp only [List.length_append, List.length_map] at this
        have h9 := List.length_filter_le (badP s) s.Pods
        omega
      simp only [F46.l10, h1, hx, decide_true, if_true, Option.bind_some, hg, F233_eq s hp, hw, F46.j21, F46.j22]
      have key : ∀ b : Bool, b = badP s x → ∃ r, (if b = true then (if fits 16 (List.length (o ++ [x.Name])) then rec (o ++ [x.Name], p + 1) else none) else rec (o, p + 1)) = some r ∧ r = (s.Pods.filter (badP s)).map Pod.Name := by
        intro b hb
        cases b with
        | true =>
          rw [List.filter_cons_of_pos hb.symm] at hlen ho
          simp only [List.length_cons] at hlen
          simp only [if_true]
          rw [if_pos (by simp only [List.length_append, List.length_cons, List.length_nil]; omega)]
          exact hr _ (by rw [← ho]; simp)
        | false =>
          rw [List.filter_cons_of_neg (by rw [← hb]; decide)] at ho
          simp only [Bool.false_eq_true, _root_.if_false]
          exact hr _ ho
      by_cases q1 : x.Node = []
      · have := key false (by simp [badP, q1])
        simpa [q1] using this
      · cases q2 : x.Hold with
        | true =>
          have := key false (by simp [badP, q1, q2])
          simpa [q1, q2] using this
        | false =>
          have := key (twinB s x) (by simp [badP, q1, q2])
          simpa [q1, q2] using this
  obtain ⟨r, hr, hq⟩ := this
  rw [← hq]
  exact hr
end Go.Proofs.Eng
