/- Words for the printed walks. -/
import Derived.Test.YtdolhcmhdjmoeaaGreatDoorEngQ
set_option linter.unusedSimpArgs false
set_option linter.unusedVariables false
namespace Go.Proofs.Eng
open Go

abbrev Str := List UInt8
abbrev AV.sl (k : Nat) (l : List AV) : AV := .slice .non k l

/-- A loop's rounds come to what L says: what holds behind a round that calls for such rounds holds. -/
def Rounds {σ R : Type} (G : (σ → Option R) → σ → Option R) (L : σ → Option R) : Prop :=
  ∀ x r, L x = some r → ∀ K : σ → Prop, (∀ rec : σ → Option R, (∀ y, rec y = some r → K y) → ∀ y, G rec y = some r → K y) → K x

/-- Each round calls for rounds that are nearer to the end. -/
theorem rounds_mk {σ R : Type} {G : (σ → Option R) → σ → Option R} {L : σ → Option R} (hL : ∃ μ : σ → Nat, ∀ x r, L x = some r → G (fun y => if μ y < μ x then L y else none) x = some r) : Rounds G L := by
  obtain ⟨μ, hμ⟩ := hL
  intro x r hx K step
  have key : ∀ n x, μ x = n → L x = some r → K x := by
    intro n
    induction n using Nat.strongRecOn with
    | ind n ih =>
      intro x hn hx
      refine step _ (fun y hy => ?_) x (hμ x r hx)
      split at hy
      · rename_i hlt
        exact ih (μ y) (by omega) y rfl hy
      · cases hy
  exact key _ x rfl hx

/-- So many rounds at the most. -/
def iterL {σ R : Type} (G : (σ → Option R) → σ → Option R) : Nat → σ → Option R
  | 0, _ => none
  | n + 1, x => G (iterL G n) x
theorem rounds_iter {σ R : Type} (G : (σ → Option R) → σ → Option R) (N : Nat) : Rounds G (iterL G N) := by
  intro x r hx K step
  induction N generalizing x with
  | zero => cases hx
  | succ n ih => exact step _ ih x hx

theorem awpL_fix {P : Program} {body : Code} {Q : Exit → ASt → Prop} {Qp : AV → ASt → Prop} {σ R : Type} {G : (σ → Option R) → σ → Option R} {L : σ → Option R} (hL : Rounds G L) (r : R) (H : σ → ASt)
    (step : ∀ rec : σ → Option R, (∀ y, rec y = some r → awpL P body Q Qp (H y)) → ∀ x, G rec x = some r → awpL P body Q Qp (H x)) (x : σ) (hx : L x = some r) : awpL P body Q Qp (H x) :=
  hL x r hx (fun y => awpL P body Q Qp (H y)) step

def getI {α : Type} (l : List α) (i : Int) : Option α := if 0 ≤ i then l[i.toNat]? else none
theorem getI_le {α : Type} {l : List α} {i : Int} {x : α} (h : getI l i = some x) : 0 ≤ i := by
  unfold getI at h
  split at h
  · assumption
  · cases h
theorem getI_map {α β : Type} {l : List α} {i : Int} {x : α} (h : getI l i = some x) (f : α → β) : (l.map f)[i.toNat]? = some (f x) := by
  unfold getI at h
  split at h
  · rw [List.getElem?_map, h]; rfl
  · cases h
theorem len_map {α β : Type} (f : α → β) (l : List α) : AV.int (l.length : Int) = .val (.int .i64 ((l.map f).length : Int)) := by rw [List.length_map]; rfl
theorem if_false {α : Type} {b : Bool} (h : b = false) {x y : α} : (if b = true then x else y) = y := by rw [h]; rfl
theorem if_true' {α : Type} {b : Bool} (h : b = true) {x y : α} : (if b = true then x else y) = x := by rw [h]; rfl
/-- A list's worth; the elements' worth is told. -/
def AV.lst {α : Type} (k : Nat) (f : α → AV) (l : List α) : AV := .slice .non k (l.map f)
abbrev w64 (n : Int) : Int := IntKind.i64.wrap n
theorem lst_map {α : Type} {l : List α} {i : Int} {x : α} (h : getI l i = some x) (f : α → AV) : (l.map f)[i.toNat]? = some (f x) := getI_map h f
theorem lst_app {α : Type} (f : α → AV) (l l' : List α) : l.map f ++ l'.map f = (l ++ l').map f := (List.map_append ..).symm
theorem lst_cut {α : Type} (f : α → AV) (l : List α) (m n : Nat) : ((l.map f).take m).drop n = ((l.take m).drop n).map f := by rw [← List.map_take, ← List.map_drop]
theorem len_le {α : Type} {n : Nat} (f : α → AV) (l : List α) (h : n ≤ l.length) : n ≤ (l.map f).length := by rwa [List.length_map]

theorem lst_cut' {α : Type} (f : α → AV) (l : List α) (n : Nat) : ((l.map f).take (l.map f).length).drop n = ((l.take l.length).drop n).map f := by rw [List.take_length, List.take_length, ← List.map_drop]
theorem len_mul {α : Type} (f : α → AV) (l : List α) (b n : Nat) (h : l.length * b ≤ n) : (l.map f).length * b ≤ n := by rwa [List.length_map]
theorem len_ge {α : Type} {n : Nat} (f : α → AV) (l : List α) (h : l.length ≤ n) : (l.map f).length ≤ n := by rwa [List.length_map]
theorem getI_some {α : Type} {l : List α} {i : Int} {x : α} (h : getI l i = some x) : l[i.toNat]? = some x := by
  unfold getI at h
  split at h
  · exact h
  · cases h
theorem guardP {α : Type} {p : Prop} [Decidable p] {x : Option α} {r : α} (h : (if p then x else none) = some r) : p ∧ x = some r := by
  split at h
  · rename_i hp; exact ⟨hp, h⟩
  · cases h
/-- So many elements of n bytes can be made. -/
abbrev fits (n m : Nat) : Prop := m * n ≤ 140737488355328 ∧ m ≤ 140737488355328
abbrev AV.ik (k : IntKind) (n : Int) : AV := .val (.int k n)

theorem Le.rfl' {st : ASt} : Le st st := fun c g w a hi hm => ⟨g, hi, hm⟩

/-- Many roads to one state. -/
theorem awp_to {P : Program} {x : Code} {Q : Exit → ASt → Prop} {Qp : AV → ASt → Prop} {st : ASt} {σ : Type} (H : σ → ASt) (K : σ → Prop) (hk : ∀ p, K p → Q .normal (H p))
    (h : ∀ N : ASt → Prop, (∀ p s, K p → Le s (H p) → N s) → awp P x (thenA N Q) Qp st) : awp P x Q Qp st := by
  have h1 := h (fun s => ∃ p, K p ∧ Le s (H p)) (fun p s h1 h2 => ⟨p, h1, h2⟩)
  intro c g w a hi hm hd
  refine wp_mono (h1 c g w a hi hm hd) ?_
  rintro e a' w' ⟨st', g', h1, h2, h3, h4⟩
  cases e with
  | normal =>
    obtain ⟨p, h5, h6⟩ := h4
    obtain ⟨g2, h7, h8⟩ := h6 c g' w' a' h1 h2
    exact ⟨_, g2, h7, h8, h3, hk p h5⟩
  | panic ch => exact ⟨st', g', h1, h2, h3, h4⟩
  | outgrown => exact h4.elim
  | exit id => exact ⟨st', g', h1, h2, h3, h4⟩
  | goto l => exact ⟨st', g', h1, h2, h3, h4⟩
  | ret => exact ⟨st', g', h1, h2, h3, h4⟩

/-- What a function comes to: it returns, or it panics. -/
inductive Res (α : Type) where
  | ret (v : α)
  | stop (e : Int)
def kpNone : Nat → Bool := fun _ => false
end Go.Proofs.Eng
