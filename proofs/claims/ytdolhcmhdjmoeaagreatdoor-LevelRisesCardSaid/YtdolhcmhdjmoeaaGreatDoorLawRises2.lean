/- 'ballastlaw18.LevelRises': what it computes is true. -/
import Derived.Test.YtdolhcmhdjmoeaaGreatDoorLawRises
set_option linter.unusedSimpArgs false
set_option linter.unusedVariables false
namespace Go.Proofs.Eng
open Go Go.Proofs

/-! How two floating-point numbers stand to each other. -/
def sgn (a b : Int) : Int := if a < b then -1 else if b < a then 1 else 0
theorem F95_eq (a b : Int) : F95 a b = some (sgn a b) := by
  unfold F95 F207 sgn
  by_cases h : a < b
  · simp [h]
  · by_cases h2 : b < a <;> simp [h, h2]
theorem F96_eq (a : Nat) : F96 a = some (nanBits a) := by simp [F96, fEq_nan]
theorem F208_eq (a : Nat) : F208 a = some (nanBits a) := by simp [F208, fEq_nan]
theorem F94_ok (a : Nat) : ∃ c, F94 a = some c ∧ (c = 6 ↔ nanBits a = true) := by
  unfold F94
  rw [F96_eq]
  cases hn : nanBits a with
  | true => exact ⟨6, rfl, by simp⟩
  | false =>
    have h1 : F205 a 1 = some (fGt a 9218868437227405311) := rfl
    have h2 : F205 a (-1) = some (fGt (negF a) 9218868437227405311) := rfl
    have h3 : F206 a = some (decide ((IntKind.wrap .i64 (a : Int)) < (0 : Int))) := by simp [F206, bitsO, hn]
    simp only [h1, h2, h3, Option.bind_some, Bool.false_eq_true, _root_.if_false]
    cases fGt a 9218868437227405311
    · cases fGt a 0
      · cases fGt (negF a) 9218868437227405311
        · cases fLt a 0
          · cases decide ((IntKind.wrap .i64 (a : Int)) < (0 : Int))
            · exact ⟨3, rfl, by decide⟩
            · exact ⟨2, rfl, by decide⟩
          · exact ⟨1, rfl, by decide⟩
        · exact ⟨0, rfl, by decide⟩
      · exact ⟨4, rfl, by decide⟩
    · exact ⟨5, rfl, by decide⟩
theorem F97_eq {x y : Nat} {k : Nat → Int} (h1 : FloatKind.f64.format.order x y = some (compare (k x) (k y))) (nx : nanBits x = false) (ny : nanBits y = false) : F97 x y = some (sgn (k x) (k y)) := by
  unfold F97
  rw [F208_eq, F208_eq, nx, ny]
  simp only [Option.bind_some, Bool.false_eq_true, _root_.if_false, fLt, fGt, h1, sgn]
  rcases Int.lt_trichotomy (k x) (k y) with q | q | q
  · simp [cmp_lt q, q]
  · rw [q]; simp [cmp_eq]
  · have : ¬ k x < k y := by omega
    simp [cmp_gt q, q, this]
theorem F27_ok (a b c : Nat) : ∃ (cl k : Nat → Int), (∀ x, cl x = 6 ↔ nanBits x = true) ∧ ∀ x y, (x = a ∨ x = b ∨ x = c) → (y = a ∨ y = b ∨ y = c) → F27 x y = some (if cl x ≠ cl y then sgn (cl x) (cl y) else if cl x = 6 then 0 else sgn (k x) (k y)) := by
  obtain ⟨k, hk⟩ := keys a b c
  have hcl : ∀ x, F94 x = some ((F94 x).getD 0) ∧ ((F94 x).getD 0 = 6 ↔ nanBits x = true) := by
    intro x
    obtain ⟨c, hc, h6⟩ := F94_ok x
    rw [hc]
    exact ⟨rfl, h6⟩
  refine ⟨fun x => (F94 x).getD 0, k, fun x => (hcl x).2, fun x y hx hy => ?_⟩
  unfold F27
  obtain ⟨u, hu, h6x⟩ := F94_ok x
  obtain ⟨v, hv, h6y⟩ := F94_ok y
  simp only [hu, hv, Option.bind_some, F95_eq, F96_eq, F27.j9, Option.getD_some]
  by_cases q : u = v
  · subst q
    have e0 : sgn u u = 0 := by simp [sgn]
    simp only [e0, not_true, decide_false, Bool.false_eq_true, _root_.if_false, ne_eq, Option.bind_some]
    by_cases q6 : u = 6
    · simp [q6, h6x.1 q6]
    · have nx : nanBits x = false := by
        cases h : nanBits x with
        | true => exact absurd (h6x.2 h) q6
        | false => rfl
      have ny : nanBits y = false := by
        cases h : nanBits y with
        | true => exact absurd (h6y.2 h) q6
        | false => rfl
      rw [F97_eq (hk x y hx hy nx ny) nx ny]
      simp [q6, nx]
  · have e0 : ¬ sgn u v = 0 := by
      unfold sgn
      by_cases h1 : u < v
      · simp [h1]
      · have : v < u := by omega
        simp [h1, this]
    simp [e0, q]
theorem F27_some (a b : Nat) : ∃ r, F27 a b = some r := by
  obtain ⟨cl, k, -, h⟩ := F27_ok a b b
  exact ⟨_, h a b (.inl rfl) (.inr (.inl rfl))⟩
theorem ge_of_ge {v a c : Nat} {u w : Int} (h1 : F27 a c = some u) (hu : ¬ 0 < u) (h2 : F27 v c = some w) (hw : 0 ≤ w) : ∃ w', F27 v a = some w' ∧ 0 ≤ w' := by
  obtain ⟨cl, k, -, h⟩ := F27_ok a c v
  have e1 := h a c (.inl rfl) (.inr (.inl rfl))
  have e2 := h v c (.inr (.inr rfl)) (.inr (.inl rfl))
  have e3 := h v a (.inr (.inr rfl)) (.inl rfl)
  refine ⟨_, e3, ?_⟩
  have e1 := Option.some.inj (h1.symm.trans e1)
  have e2 := Option.some.inj (h2.symm.trans e2)
  subst e1 e2
  generalize cl v = p at *
  generalize cl a = q at *
  generalize cl c = r at *
  generalize k v = p' at *
  generalize k a = q' at *
  generalize k c = r' at *
  simp only [sgn] at *
  split at hu <;> split at hw <;> split <;> repeat' split at hu <;> repeat' split at hw <;> repeat' split
  all_goals omega
theorem gt_of_gt {v b d : Nat} {u w : Int} (h1 : F27 b d = some u) (hu : ¬ 0 < u) (h2 : F27 v d = some w) (hw : 0 < w) : ∃ w', F27 v b = some w' ∧ 0 < w' := by
  obtain ⟨cl, k, -, h⟩ := F27_ok b d v
  have e1 := h b d (.inl rfl) (.inr (.inl rfl))
  have e2 := h v d (.inr (.inr rfl)) (.inr (.inl rfl))
  have e3 := h v b (.inr (.inr rfl)) (.inl rfl)
  refine ⟨_, e3, ?_⟩
  have e1 := Option.some.inj (h1.symm.trans e1)
  have e2 := Option.some.inj (h2.symm.trans e2)
  subst e1 e2
  generalize cl v = p at *
  generalize cl b = q at *
  generalize cl d = r at *
  generalize k v = p' at *
  generalize k b = q' at *
  generalize k d = r' at *
  simp only [sgn] at *
  split at hu <;> split at hw <;> split <;> repeat' split at hu <;> repeat' split at hw <;> repeat' split
  all_goals omega
end Go.Proofs.Eng
