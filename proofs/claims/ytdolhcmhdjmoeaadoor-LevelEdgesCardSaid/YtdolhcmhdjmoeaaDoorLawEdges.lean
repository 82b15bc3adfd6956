/- 'ballastlaw18.LevelEdges': what it computes is true. -/
import Derived.Test.YtdolhcmhdjmoeaaDoorEddX4
import Derived.Test.YtdolhcmhdjmoeaaDoorEddOk
set_option linter.unusedSimpArgs false
set_option linter.unusedVariables false
set_option maxRecDepth 100000
namespace Go.Proofs.Eng
open Go Go.Proofs

theorem known_ok : F4 = some true := by kernel_rfl
/-- So much of 20. -/
def U (n : Nat) : Nat := flArith .quo (FloatKind.nearest .f64 n) (FloatKind.nearest .f64 20)
def nodeA : Node := ⟨[97], [(⟨[99, 112, 117], 20⟩ : Amount)], [], [], false⟩
def podsA (u : Nat) : List Pod := if 0 < u then [⟨[112], [], 0, [(⟨[99, 112, 117], u⟩ : Amount)], [], [], [], [], 0, [97], false⟩] else []
def stateA (u : Nat) : State := ⟨[nodeA], podsA u, []⟩
theorem use_all : ((List.range 21).all fun u => A13 (stateA u) [97] == some [U u]) = true := by kernel_rfl
theorem use_of {u : Nat} (h : u < 21) : A13 (stateA u) [97] = some [U u] := by
  have := List.all_eq_true.1 use_all u (List.mem_range.2 h)
  simpa using this
def sg (a b : Nat) : Int := if a < b then -1 else if b < a then 1 else 0
theorem cmp_all : ((List.range 22).all fun i => (List.range 22).all fun j => F9 (U i) (U j) == some (sg i j)) = true := by kernel_rfl
theorem cmp_of {i j : Nat} (h : i < 22) (g : j < 22) : F9 (U i) (U j) = some (sg i j) := by
  have := List.all_eq_true.1 (List.all_eq_true.1 cmp_all i (List.mem_range.2 h)) j (List.mem_range.2 g)
  simpa using this
theorem any_one (x : Nat) (g : Nat → Option Bool) (b : Bool) (h : g x = some b) : F14 [x] g = some b := by
  have e : A25 [x] g = some (if b = true then 0 else -1) := by
    show F25.l6 [x] g (F25.l6 [x] g (iterL (F25.l6 [x] g) 4094)) 0 = _
    have hw : w64 1 = 1 := by decide
    cases b
    · simp [F25.l6, getI, h, hw]
    · simp [F25.l6, getI, h]
  unfold F14
  rw [e]
  cases b <;> rfl
theorem best_one (x : Nat) (s : Int) : A28 [x] s = some x := by
  unfold A28 F28
  simp [getI, A28.l13, iterL, F28.l13]
theorem of_eq {u lo hi : Nat} (h : u < 21) (hl : lo < 22) (hh : hi < 22) : F7 (stateA u) [97] ⟨U lo, U hi⟩ = some (if hi < u then 2 else if lo ≤ u then 1 else 0) := by
  have h1 : F14 [U u] (fun y0 => F15 y0 ⟨U lo, U hi⟩) = some (decide (0 < sg u hi)) := any_one _ _ _ (by simp [F15, cmp_of (show u < 22 by omega) hh])
  have h2 : F14 [U u] (fun y0 => F16 y0 ⟨U lo, U hi⟩) = some (decide (0 ≤ sg u lo)) := any_one _ _ _ (by simp [F16, cmp_of (show u < 22 by omega) hl])
  unfold F7
  simp only [use_of h, h1, h2, Option.bind_some, List.length_cons, List.length_nil, F7.j13]
  have e1 : (decide (0 < sg u hi) = true) ↔ hi < u := by
    rw [decide_eq_true_eq]; unfold sg
    by_cases q : u < hi
    · rw [if_pos q]; omega
    · rw [if_neg q]
      by_cases q2 : hi < u
      · rw [if_pos q2]; omega
      · rw [if_neg q2]; omega
  have e2 : (decide (0 ≤ sg u lo) = true) ↔ lo ≤ u := by
    rw [decide_eq_true_eq]; unfold sg
    by_cases q : u < lo
    · rw [if_pos q]; omega
    · rw [if_neg q]
      by_cases q2 : lo < u
      · rw [if_pos q2]; omega
      · rw [if_neg q2]; omega
  by_cases q1 : hi < u
  · rw [if_pos (e1.2 q1), if_pos q1]
  · rw [if_neg (fun x => q1 (e1.1 x)), if_neg q1]
    simp only [show ¬ ((0 : Nat) + 1 : Nat) = (0 : Int) by decide, decide_false, Bool.false_eq_true, _root_.if_false]
    by_cases q2 : lo ≤ u
    · rw [if_pos (e2.2 q2), if_pos q2]
    · rw [if_neg (fun x => q2 (e2.1 x)), if_neg q2]
theorem worst_eq {u : Nat} (h : u < 21) : F10 (stateA u) [97] = some (U u) := by
  unfold F10 F20
  simp only [use_of h, Option.bind_some, best_one]
theorem f1 (x : Node) : fits 96 (List.length [x]) := (by decide : fits 96 1)
theorem f2 (x : Pod) : fits 184 (List.length [x]) := (by decide : fits 184 1)
theorem F8_eq (n : Nat) : F8 (n : Int) 20 = some (U n) := rfl
theorem key (a b c : Int) (u lo hi : Nat) (hu : u < 21) (hlo : lo < 22) (hhi : hi < 22) (eu : IntKind.wrap .i64 (Int.tmod a 21) = u) (el : IntKind.wrap .i64 (Int.tmod b 22) = lo) (eh : IntKind.wrap .i64 (Int.tmod c 22) = hi) : F3.j17 b c nodeA a (podsA u) = some true := by
  unfold F3.j17
  rw [if_pos (by decide), if_pos (by decide), eu, el, eh, F8_eq, F8_eq, F8_eq]
  have e1 : F7 ⟨[nodeA], podsA u, []⟩ [97] ⟨U lo, U hi⟩ = _ := of_eq hu hlo hhi
  have e2 : F10 ⟨[nodeA], podsA u, []⟩ [97] = _ := worst_eq hu
  have e3 := cmp_of (show u < 22 by omega) (show u < 22 by omega)
  generalize U lo = L at *
  generalize U hi = H at *
  generalize U u = V at *
  generalize podsA u = ps at *
  generalize nodeA = nd at *
  simp only [Option.bind_some, e1, e2, e3]
  by_cases q1 : hi < u
  · have q1' : ((hi : Int) < u) := by omega
    rw [if_pos (decide_eq_true q1'), if_pos q1]; rfl
  · have q1' : ¬ ((hi : Int) < u) := by omega
    rw [if_neg (by rw [decide_eq_true_eq]; exact q1'), if_neg q1]
    by_cases q2 : u < lo
    · have q2' : (u : Int) < lo := by omega
      have q3 : ¬ lo ≤ u := by omega
      rw [if_pos (decide_eq_true q2'), if_neg q3]; rfl
    · have q2' : ¬ ((u : Int) < lo) := by omega
      have q3 : lo ≤ u := by omega
      rw [if_neg (by rw [decide_eq_true_eq]; exact q2'), if_pos q3]
      simp [F3.j34, sg]
theorem rem_of (a : Int) (n : Nat) (hn : 0 < n) (h9 : n < 1000) (ha : 0 ≤ a ∧ a < 256) : ∃ u : Nat, u < n ∧ IntKind.wrap .i64 (Int.tmod a n) = u := by
  have h1 : 0 ≤ a % (n : Int) := Int.emod_nonneg _ (by omega)
  have h2 : a % (n : Int) < n := Int.emod_lt_of_pos _ (by omega)
  refine ⟨(a % (n : Int)).toNat, by omega, ?_⟩
  rw [Int.tmod_eq_emod_of_nonneg ha.1]
  have h3 : w64 (a % (n : Int)) = a % (n : Int) := w64_of (by omega) (by omega)
  have h4 : IntKind.wrap .i64 (a % (n : Int)) = w64 (a % (n : Int)) := rfl
  rw [h4, h3]; omega
theorem law (a b c : Int) (ha : 0 ≤ a ∧ a < 256) (hb : 0 ≤ b ∧ b < 256) (hc : 0 ≤ c ∧ c < 256) : F3 a b c = some true := by
  obtain ⟨u, hu, eu⟩ := rem_of a 21 (by decide) (by decide) ha
  obtain ⟨lo, hlo, el⟩ := rem_of b 22 (by decide) (by decide) hb
  obtain ⟨hi, hhi, eh⟩ := rem_of c 22 (by decide) (by decide) hc
  have K := key a b c u lo hi hu hlo hhi eu el eh
  have h5 : F5 [97] 20 = some nodeA := rfl
  have h6 : F6 [112] u [97] = some ⟨[112], [], 0, [(⟨[99, 112, 117], u⟩ : Amount)], [], [], [], [], 0, [97], false⟩ := rfl
  unfold F3
  rw [known_ok, h5]
  have eu' : IntKind.wrap .i64 (Int.tmod a (21 : Int)) = u := eu
  generalize hnd : nodeA = nd at *
  simp only [Option.bind_some, Bool.not_true, Bool.false_eq_true, _root_.if_false]
  rw [if_pos (by decide), if_pos (f1 _), eu']
  by_cases q : 0 < u
  · have q' : (0 : Int) < u := by omega
    have hp : podsA u = [⟨[112], [], 0, [(⟨[99, 112, 117], u⟩ : Amount)], [], [], [], [], 0, [97], false⟩] := if_pos q
    rw [if_pos (decide_eq_true q'), h6, Option.bind_some]
    rw [hp] at K
    refine Eq.trans (if_pos ?_) K
    exact f2 _
  · have q' : ¬ (0 : Int) < u := by omega
    have hp : podsA u = [] := if_neg q
    rw [if_neg (by rw [decide_eq_true_eq]; exact q'), ← hp]
    exact K
theorem ok3 (a b c : Int) (ha : 0 ≤ a ∧ a < 256) (hb : 0 ≤ b ∧ b < 256) (hc : 0 ≤ c ∧ c < 256) : Det Tryd.prog 3 [AV.ik .u8 a, AV.ik .u8 b, AV.ik .u8 c] (.ret (AV.bool true)) := c3 a b c true (law a b c ha hb hc)
end Go.Proofs.Eng
