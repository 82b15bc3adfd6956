/- Loops that come to an end, and the order of floating-point numbers. -/
import Derived.Test.YtdolhcmhdjmoeaaGreatDoorEngPlain
set_option linter.unusedSimpArgs false
set_option linter.unusedVariables false
namespace Go.Proofs.Eng
open Go Go.Proofs

/-- A loop along a list, of so many rounds at the most, comes to an end. -/
theorem iter_ok {α β σ R : Type} (l : List α) (N : Nat) (hN : l.length < N) (hN2 : N ≤ 1000000) (mk : β → Int → σ) (G : (σ → Option R) → σ → Option R) (I : β → List α → Prop) (Q : R → Prop)
    (hend : ∀ rec b, I b [] → ∃ r, G rec (mk b l.length) = some r ∧ Q r)
    (hstep : ∀ rec (p : Int) b x t, 0 ≤ p → p < l.length → getI l p = some x → x ∈ l → w64 (p + 1) = p + 1 → I b (x :: t) → (∀ b', I b' t → ∃ r, rec (mk b' (p + 1)) = some r ∧ Q r) → ∃ r, G rec (mk b p) = some r ∧ Q r)
    (b : β) (h : I b l) : ∃ r, iterL G N (mk b 0) = some r ∧ Q r := by
  suffices H : ∀ (n : Nat) (p : Int) b, 0 ≤ p → p ≤ l.length → l.length < p.toNat + n → I b (l.drop p.toNat) → ∃ r, iterL G n (mk b p) = some r ∧ Q r from H N 0 b (by omega) (by omega) (by simpa using hN) (by simpa using h)
  intro n
  induction n with
  | zero => intro p b h0 h1 h2; omega
  | succ n ih =>
    intro p b h0 h1 h2 hI
    show ∃ r, G (iterL G n) (mk b p) = some r ∧ Q r
    by_cases hlt : p < l.length
    · obtain ⟨x, hx, hd⟩ := getI_drop h0 hlt
      rw [hd] at hI
      refine hstep _ p b x _ h0 hlt hx ?_ (w64_of (by omega) (by omega)) hI fun b' hb' => ih (p + 1) b' (by omega) (by omega) (by omega) hb'
      have : x ∈ l.drop p.toNat := by rw [hd]; exact List.mem_cons_self
      exact List.mem_of_mem_drop this
    · have : p = l.length := by omega
      subst this
      refine hend _ b ?_
      simpa using hI

theorem getI_ex {α : Type} {l : List α} {p : Int} (h0 : 0 ≤ p) (h1 : p < l.length) : ∃ x, getI l p = some x ∧ x ∈ l := by
  have hlt : p.toNat < l.length := by omega
  exact ⟨l[p.toNat], by simp [getI, h0, hlt], List.getElem_mem hlt⟩
theorem idxF_ok {α : Type} (g : α → Option Bool) : ∀ (l : List α) (i : Int), (∀ x ∈ l, ∃ b, g x = some b) → ∃ j, idxF g i l = some j ∧ (j < 0 ∨ (i ≤ j ∧ j < i + l.length))
  | [], i, _ => ⟨-1, rfl, .inl (by omega)⟩
  | x :: t, i, h => by
    obtain ⟨b, hb⟩ := h x List.mem_cons_self
    obtain ⟨j, hj, hr⟩ := idxF_ok g t (i + 1) fun y hy => h y (List.mem_cons_of_mem _ hy)
    simp only [idxF, hb, Option.bind_some, List.length_cons]
    cases b
    · exact ⟨j, by simpa using hj, by omega⟩
    · exact ⟨i, by simp, by omega⟩

/-- What a loop along a list carries, where each round may look at what stood before. -/
def foldP {α β : Type} (step : β → List α → α → β) : β → List α → List α → β
  | b, _, [] => b
  | b, pre, x :: t => foldP step (step b pre x) (pre ++ [x]) t
/-- Such a loop, outright. -/
theorem iter_foldP {α β σ R : Type} (l : List α) (N : Nat) (hN : l.length < N) (hN2 : N ≤ 1000000) (mk : β → Int → σ) (G : (σ → Option R) → σ → Option R) (step : β → List α → α → β) (fin : β → Option R)
    (hend : ∀ rec b, G rec (mk b l.length) = fin b)
    (hstep : ∀ rec (p : Int) b x, 0 ≤ p → p < l.length → getI l p = some x → x ∈ l → w64 (p + 1) = p + 1 → G rec (mk b p) = rec (mk (step b (l.take p.toNat) x) (p + 1)))
    (b : β) : iterL G N (mk b 0) = fin (foldP step b [] l) := by
  suffices H : ∀ (n : Nat) (p : Int) b, 0 ≤ p → p ≤ l.length → l.length < p.toNat + n → iterL G n (mk b p) = fin (foldP step b (l.take p.toNat) (l.drop p.toNat)) by
    have := H N 0 b (by omega) (by omega) (by simpa using hN)
    simpa using this
  intro n
  induction n with
  | zero => intro p b h0 h1 h2; omega
  | succ n ih =>
    intro p b h0 h1 h2
    show G (iterL G n) (mk b p) = _
    by_cases hlt : p < l.length
    · obtain ⟨x, hx, hd⟩ := getI_drop h0 hlt
      have hm : x ∈ l := by
        have : x ∈ l.drop p.toNat := by rw [hd]; exact List.mem_cons_self
        exact List.mem_of_mem_drop this
      rw [hstep _ p b x h0 hlt hx hm (w64_of (by omega) (by omega)), ih (p + 1) _ (by omega) (by omega) (by omega), hd]
      simp only [foldP]
      congr 2
      have e : (p + 1).toNat = p.toNat + 1 := by omega
      have hp : p.toNat < l.length := by omega
      rw [e, List.take_add_one]
      have hx2 : l[p.toNat]? = some x := by
        unfold getI at hx
        rwa [if_pos h0] at hx
      rw [hx2]; rfl
    · have : p = l.length := by omega
      subst this
      rw [hend]
      simp [foldP]

/-! Floating point. -/
open Ieee
def isNan (d : Datum) : Bool := d.isNaN
/-- A number's worth in units of 2 to the B, what has no end as M. -/
def dkey (B M : Int) : Datum → Int
  | .nan .. => 0
  | .infinity s => if s then -M else M
  | .number s m i => signed s m (i - B).toNat
def fin (B M : Int) : Datum → Prop
  | .number s m i => B ≤ i ∧ -M < signed s m (i - B).toNat ∧ signed s m (i - B).toNat < M
  | _ => True
theorem signed_eq (s : Bool) (m u : Nat) : signed s m u = (if s then -(m : Int) else m) * 2 ^ u := by
  unfold signed
  cases s <;> simp [Nat.shiftLeft_eq, Int.neg_mul]
theorem cmp_lt {a b : Int} (h : a < b) : compare a b = .lt := by
  show compareOfLessAndEq a b = _
  simp [compareOfLessAndEq, h]
theorem cmp_gt {a b : Int} (h : b < a) : compare a b = .gt := by
  show compareOfLessAndEq a b = _
  have h1 : ¬ a < b := by omega
  have h2 : ¬ a = b := by omega
  simp [compareOfLessAndEq, h1, h2]
theorem cmp_eq (a : Int) : compare a a = .eq := by
  show compareOfLessAndEq a a = _
  simp [compareOfLessAndEq]
theorem cmp_scale (a b : Int) (u : Nat) : compare (a * 2 ^ u) (b * 2 ^ u) = compare a b := by
  have h : (0 : Int) < 2 ^ u := Int.pow_pos (by decide)
  rcases Int.lt_trichotomy a b with q | q | q
  · have : a * 2 ^ u < b * 2 ^ u := Int.mul_lt_mul_of_pos_right q h
    rw [cmp_lt q, cmp_lt this]
  · subst q; rw [cmp_eq, cmp_eq]
  · have : b * 2 ^ u < a * 2 ^ u := Int.mul_lt_mul_of_pos_right q h
    rw [cmp_gt q, cmp_gt this]
theorem order_key (B M : Int) (hM : 0 < M) (x y : Datum) (hx : x.isNaN = false) (hy : y.isNaN = false) (fx : fin B M x) (fy : fin B M y) : x.order y = some (compare (dkey B M x) (dkey B M y)) := by
  cases x with
  | nan s f => simp [Datum.isNaN] at hx
  | infinity s =>
    cases y with
    | nan s f => simp [Datum.isNaN] at hy
    | infinity t =>
      have h1 : -M < M := by omega
      have h2 : M > -M := by omega
      cases s <;> cases t <;> simp only [Datum.order, dkey, if_true, Bool.false_eq_true, _root_.if_false, cmp_lt h1, cmp_gt h2, cmp_eq] <;> rfl
    | number t n j =>
      simp only [fin] at fy
      cases s
      · simp only [Datum.order, dkey, Bool.false_eq_true, _root_.if_false]
        rw [cmp_gt (by omega)]
      · simp only [Datum.order, dkey, if_true]
        rw [cmp_lt (by omega)]
  | number s m i =>
    cases y with
    | nan s f => simp [Datum.isNaN] at hy
    | infinity t =>
      simp only [fin] at fx
      cases t
      · simp only [Datum.order, dkey, Bool.false_eq_true, _root_.if_false]
        rw [cmp_lt (by omega)]
      · simp only [Datum.order, dkey, if_true]
        rw [cmp_gt (by omega)]
    | number t n j =>
      simp only [fin] at fx fy
      simp only [Datum.order, dkey, signed_eq]
      have e1 : (i - B).toNat = (i - min i j).toNat + (min i j - B).toNat := by omega
      have e2 : (j - B).toNat = (j - min i j).toNat + (min i j - B).toNat := by omega
      rw [e1, e2, Int.pow_add, Int.pow_add, ← Int.mul_assoc, ← Int.mul_assoc, cmp_scale]

/-- Three that are numbers stand to each other as whole numbers do. -/
theorem keys (a b c : Nat) : ∃ k : Nat → Int, ∀ x y, (x = a ∨ x = b ∨ x = c) → (y = a ∨ y = b ∨ y = c) → nanBits x = false → nanBits y = false → FloatKind.f64.format.order x y = some (compare (k x) (k y)) := by
  let e : Datum → Int := fun d => match d with | .number _ _ i => i | _ => 0
  let r : Nat → Datum := FloatKind.f64.format.read
  let B := min (e (r a)) (min (e (r b)) (e (r c)))
  let v : Datum → Int := fun d => match d with | .number s m i => signed s m (i - B).toNat | _ => 0
  let M : Int := 1 + (v (r a)).natAbs + (v (r b)).natAbs + (v (r c)).natAbs
  have hf : ∀ x, (x = a ∨ x = b ∨ x = c) → fin B M (r x) := by
    intro x hx
    have hB : B ≤ e (r x) := by rcases hx with rfl | rfl | rfl <;> simp only [B] <;> omega
    have hM : ((v (r x)).natAbs : Int) < M := by rcases hx with rfl | rfl | rfl <;> simp only [M] <;> omega
    cases hd : r x with
    | nan s f => trivial
    | infinity s => trivial
    | number s m i =>
      rw [hd] at hB hM
      simp only [fin]
      simp only [e] at hB
      simp only [v] at hM
      omega
  refine ⟨fun x => dkey B M (r x), fun x y hx hy nx ny => ?_⟩
  exact order_key B M (by simp only [M]; omega) (r x) (r y) nx ny (hf x hx) (hf y hy)
theorem fEq_nan (a : Nat) : fEq a a = !nanBits a := by
  cases h : nanBits a with
  | true => simp [fEq, order_nanL h]
  | false =>
    obtain ⟨k, hk⟩ := keys a a a
    simp [fEq, hk a a (.inl rfl) (.inl rfl) h h, cmp_eq]
end Go.Proofs.Eng
