/- 'ballastlaw18.LevelRises': what it computes is true. -/
import Derived.Test.YtdolhcmhdjmoeaaGreatDoorLawRises2
set_option linter.unusedSimpArgs false
set_option linter.unusedVariables false
set_option maxRecDepth 100000
namespace Go.Proofs.Eng
open Go Go.Proofs

theorem F201_ok (l : List Nat) (hl : l.length ≤ 20) (g : Nat → Option Bool) (hg : ∀ x, ∃ b, g x = some b) : F201 l g = some (l.any fun x => g x == some true) := by
  have : ∃ r, iterL (F280.l6 l g) 4096 ((fun (_ : Unit) p => p) () 0) = some r ∧ (0 ≤ r ↔ (l.any fun x => g x == some true) = true) := by
    refine iter_ok l 4096 (by omega) (by omega) (fun (_ : Unit) p => p) _ (fun _ t => (l.any fun x => g x == some true) = (t.any fun x => g x == some true)) _ ?_ ?_ () rfl
    · intro rec _ hI
      simp only [F280.l6, Int.lt_irrefl, decide_false, Bool.false_eq_true, _root_.if_false]
      exact ⟨-1, rfl, by rw [hI]; simp⟩
    · intro rec p _ x t h0 h1 hx hm hw hI hr
      obtain ⟨b, hb⟩ := hg x
      simp only [F280.l6, h1, hx, hb, decide_true, if_true, Option.bind_some, hw]
      cases b
      · simp only [Bool.false_eq_true, _root_.if_false]
        exact hr () (by rw [hI]; simp [hb])
      · simp only [if_true]
        exact ⟨p, rfl, by rw [hI]; simp [hb, h0]⟩
  obtain ⟨r, hr, hq⟩ := this
  have e : A280 l g = some r := hr
  unfold F201
  simp only [e, Option.bind_some, Option.some.injEq]
  rw [Bool.eq_iff_iff, decide_eq_true_eq]
  exact hq
def hiB (l : List Nat) (m : Marks) : Bool := l.any fun x => F202 x m == some true
def loB (l : List Nat) (m : Marks) : Bool := l.any fun x => F203 x m == some true
def lev (l : List Nat) (m : Marks) : Int := if hiB l m = true then 2 else if l.length = 0 ∨ loB l m = true then 1 else 0
theorem F92_ok (s : State) (n : Str) (m : Marks) (l : List Nat) (h : A200 s n = some l) (hl : l.length ≤ 20) : F92 s n m = some (lev l m) := by
  have h1 : F201 l (fun y0 => F202 y0 m) = some (hiB l m) := F201_ok l hl _ fun x => by
    obtain ⟨r, hr⟩ := F27_some x m.High
    exact ⟨_, by unfold F202; rw [hr]; rfl⟩
  have h2 : F201 l (fun y0 => F203 y0 m) = some (loB l m) := F201_ok l hl _ fun x => by
    obtain ⟨r, hr⟩ := F27_some x m.Low
    exact ⟨_, by unfold F203; rw [hr]; rfl⟩
  unfold F92 lev
  simp only [h, h1, h2, Option.bind_some, F92.j13]
  cases hiB l m with
  | true => rfl
  | false =>
    simp only [Bool.false_eq_true, _root_.if_false]
    by_cases q : l.length = 0
    · have : ((l.length : Int) = 0) := by omega
      simp [q]
    · have : ¬ ((l.length : Int) = 0) := by omega
      simp only [this, q, decide_false, Bool.false_eq_true, _root_.if_false, false_or]
      cases loB l m <;> rfl
theorem lev_le (l : List Nat) (a b c d : Nat) {u w : Int} (h1 : F27 a c = some u) (hu : ¬ 0 < u) (h2 : F27 b d = some w) (hw : ¬ 0 < w) : lev l ⟨c, d⟩ ≤ lev l ⟨a, b⟩ := by
  have H : hiB l ⟨c, d⟩ = true → hiB l ⟨a, b⟩ = true := by
    intro h
    obtain ⟨x, hx, hv⟩ := List.any_eq_true.1 h
    refine List.any_eq_true.2 ⟨x, hx, ?_⟩
    obtain ⟨v, e⟩ := F27_some x d
    have hv0 : 0 < v := by simpa [F202, e] using hv
    obtain ⟨v', e', hv'⟩ := gt_of_gt h2 hw e hv0
    simp [F202, e', hv']
  have L : loB l ⟨c, d⟩ = true → loB l ⟨a, b⟩ = true := by
    intro h
    obtain ⟨x, hx, hv⟩ := List.any_eq_true.1 h
    refine List.any_eq_true.2 ⟨x, hx, ?_⟩
    obtain ⟨v, e⟩ := F27_some x c
    have hv0 : 0 ≤ v := by simpa [F203, e] using hv
    obtain ⟨v', e', hv'⟩ := ge_of_ge h1 hu e hv0
    simp [F203, e', hv']
  unfold lev
  cases h1 : hiB l ⟨c, d⟩ with
  | true => simp [H h1]
  | false =>
    cases hiB l ⟨a, b⟩ with
    | true => simp only [Bool.false_eq_true, _root_.if_false, if_true]; split <;> decide
    | false =>
      cases h2 : loB l ⟨c, d⟩ with
      | true => simp [L h2]
      | false =>
        by_cases q : l.length = 0
        · simp [q]
        · simp only [q, Bool.false_eq_true, _root_.if_false, false_or]
          split <;> decide
theorem A28_ok (s : State) (m : Marks) (f : Node → List Nat) (hl : s.Nodes.length ≤ 34) (hf : ∀ n ∈ s.Nodes, A200 s n.Name = some (f n) ∧ (f n).length ≤ 20) : A28 s m = some (s.Nodes.map fun n => lev (f n) m) := by
  have : ∃ r, iterL (F28.l8 s m) 4096 ((fun (o : List Int) p => (o, p)) [] 0) = some r ∧ r = s.Nodes.map fun n => lev (f n) m := by
    refine iter_ok (β := List Int) s.Nodes 4096 (by omega) (by omega) (fun o p => (o, p)) _ (fun o t => (o ++ t.map fun n => lev (f n) m) = s.Nodes.map fun n => lev (f n) m) _ ?_ ?_ [] (by simp)
    · intro rec o ho
      simp only [F28.l8, Int.lt_irrefl, decide_false, Bool.false_eq_true, _root_.if_false]
      exact ⟨o, rfl, by simpa using ho⟩
    · intro rec p o x t h0 h1 hx hm hw ho hr
      obtain ⟨e, he⟩ := hf x hm
      simp only [F28.l8, h1, hx, F92_ok s x.Name m _ e he, decide_true, if_true, Option.bind_some, hw]
      have hlen := congrArg List.length ho
      simp only [List.length_append, List.length_map, List.length_cons] at hlen
      rw [if_pos (by simp only [List.length_append, List.length_cons, List.length_nil]; omega)]
      exact hr _ (by rw [← ho]; simp)
  obtain ⟨r, hr, hq⟩ := this
  have e : A28 s m = some r := hr
  rw [e, hq]
theorem fits_all {n k : Nat} (h : k * n ≤ 140737488355328 ∧ k ≤ 140737488355328) : decide (fits n k) = true := decide_eq_true h
theorem few_len {α : Type} {ok : α → Bool} {l : List α} (h : few ok l = true) : l.length ≤ 20 := by
  unfold few at h
  simp only [Bool.and_eq_true, decide_eq_true_eq] at h
  exact h.1
theorem State.few_ok {s : State} (h : s.few = true) : s.ok = true := by
  unfold State.few at h
  simp only [Bool.and_eq_true, decide_eq_true_eq] at h
  obtain ⟨⟨⟨⟨h1, h2⟩, h3⟩, h4⟩, h5⟩ := h
  have hb := few_len h3
  have n1 : s.Nodes.all Node.ok = true := by
    rw [List.all_eq_true] at h4 ⊢
    intro n hn
    have := h4 n hn
    unfold Node.few at this
    simp only [Bool.and_eq_true, decide_eq_true_eq] at this
    have q1 := few_len this.1.1.2
    have q2 := few_len this.1.2
    have q3 := few_len this.2
    simp only [Node.ok, Bool.and_eq_true, decide_eq_true_eq]
    omega
  have n2 : s.Pods.all Pod.ok = true := by
    rw [List.all_eq_true] at h5 ⊢
    intro n hn
    have := h5 n hn
    unfold Pod.few at this
    simp only [Bool.and_eq_true, decide_eq_true_eq] at this
    have q1 := few_len this.1.1.1.2
    have q2 := few_len this.1.1.2
    have q3 := few_len this.1.2
    have q4 := few_len this.2
    simp only [Pod.ok, Bool.and_eq_true, decide_eq_true_eq]
    omega
  have n3 : s.Budgets.all Budget.ok = true := by
    unfold Eng.few at h3
    simp only [Bool.and_eq_true, List.all_eq_true] at h3
    rw [List.all_eq_true]
    intro b hb
    have := h3.2 b hb
    unfold Budget.short at this
    simp only [Bool.and_eq_true, decide_eq_true_eq] at this
    have q1 := few_len this.2
    simp only [Budget.ok, decide_eq_true_eq]
    omega
  simp only [State.ok, n1, n2, n3, Bool.and_eq_true, Bool.and_true, decide_eq_true_eq]
  omega
theorem nodeFind_cap (l : List Node) (h : l.all Node.few = true) (name : Str) : (nodeFind l name).1.Cap.length ≤ 20 := by
  induction l with
  | nil => simp [nodeFind, Node.none]
  | cons p t ih =>
    simp only [List.all_cons, Bool.and_eq_true] at h
    simp only [nodeFind]
    split
    · have := h.1
      unfold Node.few at this
      simp only [Bool.and_eq_true, decide_eq_true_eq] at this
      exact few_len this.1.1.2
    · exact ih h.2
theorem known_ok : F25 = some true := by kernel_rfl
theorem law (s : State) (a b c d : Nat) : A3 s a b c d = some true := by
  unfold A3 F3
  rw [known_ok]
  simp only [Option.bind_some, Bool.not_true, Bool.false_eq_true, _root_.if_false]
  unfold F26
  cases hfew : s.few with
  | false => simp [F26.j6, F3.j13]
  | true =>
    have hok : keep State.ok s = some s := by unfold keep; rw [if_pos (State.few_ok hfew)]
    simp only [if_true, hok, Option.bind_some, F26.j6]
    cases decide (checkState s = (0 : Int)) with
    | false => simp [F3.j13]
    | true =>
      simp only [Bool.not_true, Bool.false_eq_true, _root_.if_false]
      obtain ⟨u, hu⟩ := F27_some a c
      obtain ⟨w, hw⟩ := F27_some b d
      simp only [hu, hw, Option.bind_some]
      by_cases q1 : 0 < u
      · simp [q1, F3.j13]
      · by_cases q2 : 0 < w
        · simp [q1, q2, F3.j13]
        · have hs := hfew
          unfold State.few at hs
          simp only [Bool.and_eq_true, decide_eq_true_eq] at hs
          obtain ⟨⟨⟨⟨h1, h2⟩, h3⟩, h4⟩, h5⟩ := hs
          have hf : ∀ n ∈ s.Nodes, A200 s n.Name = some ((A200 s n.Name).getD []) ∧ ((A200 s n.Name).getD []).length ≤ 20 := by
            intro n hn
            obtain ⟨r, hr, hl⟩ := A200_ok s h2 n.Name (nodeFind_cap _ h4 _)
            rw [hr]
            exact ⟨rfl, hl⟩
          have e1 := A28_ok s ⟨a, b⟩ (fun n => (A200 s n.Name).getD []) h1 hf
          have e2 := A28_ok s ⟨c, d⟩ (fun n => (A200 s n.Name).getD []) h1 hf
          simp only [q1, q2, decide_false, Bool.false_eq_true, _root_.if_false, F3.j13, e1, e2, Option.bind_some, List.length_map, not_true, Bool.or_self]
          generalize hX : (s.Nodes.map fun n => lev ((A200 s n.Name).getD []) ⟨a, b⟩) = X
          generalize hY : (s.Nodes.map fun n => lev ((A200 s n.Name).getD []) ⟨c, d⟩) = Y
          have lX : X.length = s.Nodes.length := by rw [← hX]; simp
          have : ∃ r, iterL (F3.l30 X Y) 4096 ((fun (_ : Unit) p => p) () 0) = some r ∧ r = true := by
            refine iter_ok s.Nodes 4096 (by omega) (by omega) (fun (_ : Unit) p => p) _ (fun _ _ => True) _ ?_ ?_ () trivial
            · intro rec _ _
              simp [F3.l30, lX]
            · intro rec p _ x t h0 hlt hx hm hw' _ hr
              have gx : getI X p = some (lev ((A200 s x.Name).getD []) ⟨a, b⟩) := by
                rw [← hX]
                have := getI_map hx fun n => lev ((A200 s n.Name).getD []) ⟨a, b⟩
                unfold getI
                rw [if_pos h0]
                exact this
              have gy : getI Y p = some (lev ((A200 s x.Name).getD []) ⟨c, d⟩) := by
                rw [← hY]
                have := getI_map hx fun n => lev ((A200 s n.Name).getD []) ⟨c, d⟩
                unfold getI
                rw [if_pos h0]
                exact this
              have hle := lev_le ((A200 s x.Name).getD []) a b c d hu q1 hw q2
              have hn : ¬ lev ((A200 s x.Name).getD []) ⟨a, b⟩ < lev ((A200 s x.Name).getD []) ⟨c, d⟩ := by omega
              simp only [F3.l30, lX, hlt, gx, gy, hn, hw', decide_true, decide_false, if_true, Option.bind_some, Bool.false_eq_true, _root_.if_false]
              exact hr () trivial
          obtain ⟨r, hr, rfl⟩ := this
          exact hr
theorem ok3 (s : State) (a b c d : Nat) : Det Tryz.prog 3 [State.av s, AV.fl a, AV.fl b, AV.fl c, AV.fl d] (.ret (AV.bool true)) := d3 s a b c d true (law s a b c d)
end Go.Proofs.Eng
