/- 'ballastlaw19.StratTwins': what it computes is true. -/
import Derived.Test.YtdolhcmhdjmoeaaGreatDoorLawTwins4
import Derived.Sort.Walk0
set_option linter.unusedSimpArgs false
set_option linter.unusedVariables false
set_option maxRecDepth 100000
namespace Go.Proofs.Eng
open Go Go.Proofs

theorem bl (x y : Str) : Op.bytesLess x y = decide (x < y) := bytesLess_eq x y
theorem leS_gt {x y : Str} (h : leS x y = false) : y < x := by
  unfold leS at h
  simp only [Bool.or_eq_false_iff, bl, decide_eq_false_iff_not] at h
  rcases List.le_total x y with h1 | h1
  · exfalso
    rcases List.le_iff_lt_or_eq.1 h1 with h2 | h2
    · exact h.1 h2
    · exact h.2 h2
  · rcases List.le_iff_lt_or_eq.1 h1 with h2 | h2
    · exact h2
    · exact absurd h2.symm h.2
theorem chk_sorted {α : Type} (chk : α → Int) (key : α → Str) : ∀ (l : List α) (o : Option α), chkRows chk key o l = 0 → l.Pairwise (fun x y => key x < key y) ∧ (∀ y, o = some y → ∀ x ∈ l, key y < key x)
  | [], o, _ => ⟨.nil, fun y _ x hx => by cases hx⟩
  | x :: t, o, h => by
    rw [chkRows_cons] at h
    by_cases h1 : chk x ≠ 0
    · rw [if_pos h1] at h; exact absurd h h1
    · rw [if_neg h1] at h
      cases o with
      | none =>
        simp only [Bool.false_eq_true, _root_.if_false] at h
        obtain ⟨h3, h4⟩ := chk_sorted chk key t (some x) h
        exact ⟨List.pairwise_cons.2 ⟨h4 x rfl, h3⟩, fun y hy => by cases hy⟩
      | some w =>
        by_cases h2 : leS (key x) (key w) = true
        · simp [h2] at h
        · simp only [h2, Bool.false_eq_true, _root_.if_false] at h
          obtain ⟨h3, h4⟩ := chk_sorted chk key t (some x) h
          have h5 := h4 x rfl
          refine ⟨List.pairwise_cons.2 ⟨h5, h3⟩, fun y hy z hz => ?_⟩
          cases hy
          have h6 := leS_gt (Bool.eq_false_iff.2 h2)
          rcases List.mem_cons.1 hz with rfl | hz
          · exact h6
          · exact List.lt_trans h6 (h5 z hz)
theorem find_one (p : Pod) (hp : ¬ p.Node = []) : ∀ N : List Node, N.Pairwise (fun x y => x.Name < y.Name) → (nodeFind N p.Node).2 = true → N.countP (fun nd => onNode nd.Name p) = 1
  | [], _, h => by simp [nodeFind] at h
  | nd :: t, hs, h => by
    rw [List.pairwise_cons] at hs
    simp only [nodeFind] at h
    rw [List.countP_cons]
    by_cases q : nd.Name = p.Node
    · have e0 : t.countP (fun nd => onNode nd.Name p) = 0 := by
        rw [List.countP_eq_zero]
        intro x hx hc
        have h1 := hs.1 x hx
        unfold onNode at hc
        simp only [Bool.and_eq_true, decide_eq_true_eq] at hc
        rw [q, hc.1] at h1
        exact List.lt_irrefl _ h1
      have e1 : onNode nd.Name p = true := by
        unfold onNode
        simp [q, hp]
      simp [e0, e1]
    · rw [if_neg q] at h
      have e1 : onNode nd.Name p = false := by
        unfold onNode
        have : ¬ p.Node = nd.Name := fun e => q e.symm
        simp [this]
      rw [find_one p hp t hs.2 h, e1]
      rfl
theorem placed_all (s : State) : ∀ l : List Pod, placed s l = true → ∀ p ∈ l, ¬ p.Node = [] → (nodeFind s.Nodes p.Node).2 = true
  | [], _, p, hp, _ => by cases hp
  | x :: t, h, p, hp, hn => by
    simp only [placed] at h
    rcases List.mem_cons.1 hp with rfl | hp
    · rw [if_neg hn] at h
      split at h
      · assumption
      · cases h
    · refine placed_all s t ?_ p hp hn
      split at h
      · exact h
      · split at h
        · exact h
        · cases h
theorem check_parts {s : State} (h : checkState s = 0) : checkNodes s.Nodes = 0 ∧ checkPods s.Pods = 0 ∧ placed s s.Pods = true := by
  unfold checkState at h
  split at h
  · rename_i h1; exact absurd h h1
  · rename_i h1
    split at h
    · rename_i h2; exact absurd h h2
    · rename_i h2
      split at h
      · rename_i h3; exact absurd h h3
      · split at h
        · rename_i h4
          exact ⟨Decidable.not_not.1 h1, Decidable.not_not.1 h2, h4⟩
        · cases h
theorem nodes_sorted {l : List Node} (h : checkNodes l = 0) : l.Pairwise fun x y => x.Name < y.Name := by
  unfold checkNodes at h
  split at h
  · cases h
  · exact (chk_sorted _ _ _ _ h).1
theorem pods_sorted {l : List Pod} (h : checkPods l = 0) : l.Pairwise fun x y => x.Name < y.Name := by
  unfold checkPods at h
  split at h
  · cases h
  · exact (chk_sorted _ _ _ _ h).1
theorem irr (x : Str) : Op.bytesLess x x = false := by rw [bl]; exact decide_eq_false (List.lt_irrefl x)
theorem pods_less {l : List Pod} (h : l.Pairwise fun x y => x.Name < y.Name) : l.Pairwise lessN := h.imp fun {x y} hxy => ⟨by rw [bl]; exact decide_eq_true hxy, by rw [bl]; exact decide_eq_false (fun h2 => List.lt_irrefl _ (List.lt_trans hxy h2)), irr _, irr _⟩
theorem few_len {α : Type} {ok : α → Bool} {l : List α} (h : few ok l = true) : l.length ≤ 20 := by
  unfold few at h
  simp only [Bool.and_eq_true, decide_eq_true_eq] at h
  exact h.1
theorem State.few_ok {s : State} (h : s.few = true) : s.ok = true := by
  unfold State.few at h
  simp only [Bool.and_eq_true, decide_eq_true_eq] at h
  obtain ⟨⟨⟨⟨h1, h2⟩, h3⟩, h4⟩, h5⟩ := h
  have hb := few_len h3
  have n1 : s.Nodes.all Node.ok = true := by
    rw [List.all_eq_true] at h4 ⊢
    intro n hn
    have := h4 n hn
    unfold Node.few at this
    simp only [Bool.and_eq_true, decide_eq_true_eq] at this
    have q1 := few_len this.1.1.2
    have q2 := few_len this.1.2
    have q3 := few_len this.2
    simp only [Node.ok, Bool.and_eq_true, decide_eq_true_eq]
    omega
  have n2 : s.Pods.all Pod.ok = true := by
    rw [List.all_eq_true] at h5 ⊢
    intro n hn
    have := h5 n hn
    unfold Pod.few at this
    simp only [Bool.and_eq_true, decide_eq_true_eq] at this
    have q1 := few_len this.1.1.1.2
    have q2 := few_len this.1.1.2
    have q3 := few_len this.1.2
    have q4 := few_len this.2
    simp only [Pod.ok, Bool.and_eq_true, decide_eq_true_eq]
    omega
  have n3 : s.Budgets.all Budget.ok = true := by
    unfold Eng.few at h3
    simp only [Bool.and_eq_true, List.all_eq_true] at h3
    rw [List.all_eq_true]
    intro b hb
    have := h3.2 b hb
    unfold Budget.short at this
    simp only [Bool.and_eq_true, decide_eq_true_eq] at this
    have q1 := few_len this.2
    simp only [Budget.ok, decide_eq_true_eq]
    omega
  simp only [State.ok, n1, n2, n3, Bool.and_eq_true, Bool.and_true, decide_eq_true_eq]
  omega
theorem known19 : F42 = some true := by kernel_rfl
theorem law (s : State) : A11 s = some true := by
  unfold A11 F11
  rw [known19]
  simp only [Option.bind_some, Bool.not_true, Bool.false_eq_true, _root_.if_false]
  unfold F26
  cases hfew : s.few with
  | false => simp [F26.j6]
  | true =>
    have hok : keep State.ok s = some s := by unfold keep; rw [if_pos (State.few_ok hfew)]
    simp only [if_true, hok, Option.bind_some, F26.j6]
    by_cases hc : checkState s = (0 : Int)
    · simp only [hc, decide_true, Bool.not_true, Bool.false_eq_true, _root_.if_false]
      have hs := hfew
      unfold State.few at hs
      simp only [Bool.and_eq_true, decide_eq_true_eq] at hs
      obtain ⟨⟨⟨⟨h1, h2⟩, h3⟩, h4⟩, h5⟩ := hs
      obtain ⟨c1, c2, c3⟩ := check_parts hc
      have hw := want_eq s (pods_less (pods_sorted c2)) (fun x _ => irr x.Name) h2 h1 (fun p hp hn => find_one p hn s.Nodes (nodes_sorted c1) (placed_all s s.Pods c3 p hp hn))
      rw [A11_eq s h2 h1, decide_eq_true hw]
    · simp [hc]
theorem ok11 (s : State) : Det Tryz.prog 11 [State.av s] (.ret (AV.bool true)) := d11 s true (law s)
end Go.Proofs.Eng
