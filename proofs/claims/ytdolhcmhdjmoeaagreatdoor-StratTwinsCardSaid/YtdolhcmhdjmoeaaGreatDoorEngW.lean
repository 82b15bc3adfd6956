/- Words for the plain side: lengths; rounds of loops that go along a list. -/
import Derived.Test.YtdolhcmhdjmoeaaGreatDoorEngV
import Derived.Laws.BitsLemmas
set_option linter.unusedSimpArgs false
set_option linter.unusedVariables false
namespace Go.Proofs.Eng
open Go

theorem vd_len {D : Foot} {w : World} {k : Nat} {els : List AV} {x : Value} (h : VD D w (.slice .non k els) x) : els.length ≤ maxLen := by
  cases h with
  | slice0 => exact Nat.zero_le _
  | slice k els b o cap f hl hm _ _ _ _ => exact Nat.le_trans hl hm
/-- A list that comes in is no longer than a slice can be. -/
theorem Det.len {P : Program} {f : FuncId} {args : List AV} {out : AOut} {α : Type} (j : Nat) {k : Nat} {e : α → AV} {l : List α} (hj : args[j]? = some (AV.lst k e l)) (h : l.length ≤ maxLen → Det P f args out) : Det P f args out := by
  intro c cargs h1 h2 h3
  obtain ⟨q, hq⟩ := List.getElem?_eq_some_iff.1 hj
  have hv := h3 j q (by omega)
  rw [hq] at hv
  have : l.length ≤ maxLen := by
    have : (l.map e).length ≤ maxLen := by
      unfold AV.lst at hv
      cases hv with
      | cl _ _ hd => exact vd_len hd
    rwa [List.length_map] at this
  exact h this c cargs h1 h2 h3

/-- Likewise a list that is a field of what comes in. -/
theorem Det.lenF {P : Program} {f : FuncId} {args : List AV} {out : AOut} {α : Type} (j i : Nat) {cs : List AV} {k : Nat} {e : α → AV} {l : List α} (hj : args[j]? = some (.agg cs)) (hi : cs[i]? = some (AV.lst k e l)) (h : l.length ≤ maxLen → Det P f args out) : Det P f args out := by
  intro c cargs h1 h2 h3
  obtain ⟨q, hq⟩ := List.getElem?_eq_some_iff.1 hj
  obtain ⟨q', hq'⟩ := List.getElem?_eq_some_iff.1 hi
  have hv := h3 j q (by omega)
  rw [hq] at hv
  obtain ⟨arr, _, hs, hh⟩ := hv.at_agg
  have hc := hh i q' (by omega)
  rw [hq'] at hc
  have : l.length ≤ maxLen := by
    have : (l.map e).length ≤ maxLen := by
      unfold AV.lst at hc
      cases hc with
      | cl _ _ hd => exact vd_len hd
    rwa [List.length_map] at this
  exact h this c cargs h1 h2 h3
theorem w64_of {n : Int} (h1 : -9223372036854775808 ≤ n) (h2 : n ≤ 9223372036854775807) : w64 n = n := by
  show IntKind.i64.wrap n = n
  rw [IntKind.wrap_i64]
  omega
theorem getI_drop {α : Type} {l : List α} {p : Int} (h0 : 0 ≤ p) (h1 : p < l.length) : ∃ x, getI l p = some x ∧ l.drop p.toNat = x :: l.drop (p + 1).toNat := by
  have hlt : p.toNat < l.length := by omega
  refine ⟨l[p.toNat], by simp [getI, h0, hlt], ?_⟩
  rw [show (p + 1).toNat = p.toNat + 1 by omega]
  exact List.drop_eq_getElem_cons hlt

/-- A loop along a list: what is left of the list says what is to come. -/
theorem rounds_list {α R : Type} (l : List α) (hl : l.length ≤ maxLen) (spec : List α → Option R) (G : (Int → Option R) → Int → Option R)
    (hend : ∀ rec, G rec l.length = spec []) (hstep : ∀ rec (p : Int) x t, 0 ≤ p → p < l.length → getI l p = some x → l.drop p.toNat = x :: t → rec (p + 1) = spec t → w64 (p + 1) = p + 1 → G rec p = spec (x :: t)) :
    Rounds G fun p => if 0 ≤ p ∧ p ≤ l.length then spec (l.drop p.toNat) else none := by
  refine rounds_mk ⟨fun p => (l.length - p).toNat, fun p r h => ?_⟩
  try simp only at h
  split at h
  · rename_i hp
    by_cases hlt : p < l.length
    · obtain ⟨x, hx, hd⟩ := getI_drop hp.1 hlt
      have hm : maxLen = 9223372036854775807 := rfl
      rw [hd] at h
      rw [← h]
      refine hstep _ p x _ hp.1 hlt hx hd ?_ (w64_of (by omega) (by omega))
      simp only
      rw [if_pos (by omega), if_pos (by omega)]
    · have : p = l.length := by omega
      subst this
      rw [hend]
      simpa using h
  · cases h

theorem rounds_none {σ R : Type} (G : (σ → Option R) → σ → Option R) : Rounds G fun _ => none := fun x r h => by cases h

/-- A loop along two lists of one length. -/
theorem rounds_two {α β R : Type} (l : List α) (l' : List β) (hl : l.length ≤ maxLen) (hle : l.length = l'.length) (spec : List α → List β → Option R) (G : (Int → Option R) → Int → Option R)
    (hend : ∀ rec, G rec l.length = spec [] []) (hstep : ∀ rec (p : Int) x y t t', 0 ≤ p → p < l.length → getI l p = some x → getI l' p = some y → rec (p + 1) = spec t t' → w64 (p + 1) = p + 1 → G rec p = spec (x :: t) (y :: t')) :
    Rounds G fun p => if 0 ≤ p ∧ p ≤ l.length then spec (l.drop p.toNat) (l'.drop p.toNat) else none := by
  refine rounds_mk ⟨fun p => (l.length - p).toNat, fun p r h => ?_⟩
  try simp only at h
  split at h
  · rename_i hp
    by_cases hlt : p < l.length
    · obtain ⟨x, hx, hd⟩ := getI_drop hp.1 hlt
      obtain ⟨y, hy, hd'⟩ := getI_drop (l := l') hp.1 (by omega)
      have hm : maxLen = 9223372036854775807 := rfl
      rw [hd, hd'] at h
      rw [← h]
      refine hstep _ p x y _ _ hp.1 hlt hx hy ?_ (w64_of (by omega) (by omega))
      simp only
      rw [if_pos (by omega), if_pos (by omega)]
    · have : p = l.length := by omega
      subst this
      rw [hend]
      have : l'.drop l.length = [] := by rw [hle]; simp
      simpa [this] using h
  · cases h

/-- A loop along a list that tells where it is. -/
theorem rounds_at {α R : Type} (l : List α) (hl : l.length ≤ maxLen) (spec : Int → List α → Option R) (G : (Int → Option R) → Int → Option R)
    (hend : ∀ rec, G rec l.length = spec l.length []) (hstep : ∀ rec (p : Int) x t, 0 ≤ p → p < l.length → getI l p = some x → rec (p + 1) = spec (p + 1) t → w64 (p + 1) = p + 1 → G rec p = spec p (x :: t)) :
    Rounds G fun p => if 0 ≤ p ∧ p ≤ l.length then spec p (l.drop p.toNat) else none := by
  refine rounds_mk ⟨fun p => (l.length - p).toNat, fun p r h => ?_⟩
  try simp only at h
  split at h
  · rename_i hp
    by_cases hlt : p < l.length
    · obtain ⟨x, hx, hd⟩ := getI_drop hp.1 hlt
      have hm : maxLen = 9223372036854775807 := rfl
      rw [hd] at h
      rw [← h]
      refine hstep _ p x _ hp.1 hlt hx ?_ (w64_of (by omega) (by omega))
      simp only
      rw [if_pos (by omega), if_pos (by omega)]
    · have : p = l.length := by omega
      subst this
      rw [hend]
      simpa using h
  · cases h

/-- A loop along a list that carries something. -/
theorem rounds_fold {α β R : Type} (l : List α) (hl : l.length ≤ maxLen) (spec : β → List α → Option R) (G : (β × Int → Option R) → β × Int → Option R)
    (hend : ∀ rec b r, spec b [] = some r → G rec (b, l.length) = some r) (hstep : ∀ rec (p : Int) b x t r, 0 ≤ p → p < l.length → getI l p = some x → (∀ b' r', spec b' t = some r' → rec (b', p + 1) = some r') → w64 (p + 1) = p + 1 → spec b (x :: t) = some r → G rec (b, p) = some r) :
    Rounds G fun q => if 0 ≤ q.2 ∧ q.2 ≤ l.length then spec q.1 (l.drop q.2.toNat) else none := by
  refine rounds_mk ⟨fun q => (l.length - q.2).toNat, fun q r h => ?_⟩
  obtain ⟨b, p⟩ := q
  try simp only at h
  split at h
  · rename_i hp
    by_cases hlt : p < l.length
    · obtain ⟨x, hx, hd⟩ := getI_drop hp.1 hlt
      have hm : maxLen = 9223372036854775807 := rfl
      rw [hd] at h
      refine hstep _ p b x _ r hp.1 hlt hx (fun b' r' h' => ?_) (w64_of (by omega) (by omega)) h
      simp only
      rw [if_pos (by omega), if_pos (by omega)]
      exact h'
    · have : p = l.length := by omega
      subst this
      exact hend _ _ _ (by simpa using h)
  · cases h
/-- A loop along a list that carries something (told last). -/
theorem rounds_foldS {α β R : Type} (l : List α) (hl : l.length ≤ maxLen) (spec : β → List α → Option R) (G : (Int × β → Option R) → Int × β → Option R)
    (hend : ∀ rec b r, spec b [] = some r → G rec (l.length, b) = some r) (hstep : ∀ rec (p : Int) b x t r, 0 ≤ p → p < l.length → getI l p = some x → (∀ b' r', spec b' t = some r' → rec (p + 1, b') = some r') → w64 (p + 1) = p + 1 → spec b (x :: t) = some r → G rec (p, b) = some r) :
    Rounds G fun q => if 0 ≤ q.1 ∧ q.1 ≤ l.length then spec q.2 (l.drop q.1.toNat) else none := by
  refine rounds_mk ⟨fun q => (l.length - q.1).toNat, fun q r h => ?_⟩
  obtain ⟨p, b⟩ := q
  try simp only at h
  split at h
  · rename_i hp
    by_cases hlt : p < l.length
    · obtain ⟨x, hx, hd⟩ := getI_drop hp.1 hlt
      have hm : maxLen = 9223372036854775807 := rfl
      rw [hd] at h
      refine hstep _ p b x _ r hp.1 hlt hx (fun b' r' h' => ?_) (w64_of (by omega) (by omega)) h
      simp only
      rw [if_pos (by omega), if_pos (by omega)]
      exact h'
    · have : p = l.length := by omega
      subst this
      exact hend _ _ _ (by simpa using h)
  · cases h
/-- A loop along a list that looks at the one before. -/
theorem rounds_prev {α R : Type} (l : List α) (hl : l.length ≤ maxLen) (spec : Option α → List α → Option R) (G : (Int → Option R) → Int → Option R)
    (hend : ∀ rec o, G rec l.length = spec o []) (hstep : ∀ rec (p : Int) x t o, p < l.length → getI l p = some x → ((decide (0 < p) = false ∧ o = none) ∨ ∃ y, decide (0 < p) = true ∧ getI l (w64 (p - 1)) = some y ∧ o = some y) → rec (p + 1) = spec (some x) t → w64 (p + 1) = p + 1 → G rec p = spec o (x :: t)) :
    Rounds G fun p => if 0 ≤ p ∧ p ≤ l.length then spec (if p = 0 then none else l[p.toNat - 1]?) (l.drop p.toNat) else none := by
  refine rounds_mk ⟨fun p => (l.length - p).toNat, fun p r h => ?_⟩
  try simp only at h
  split at h
  · rename_i hp
    by_cases hlt : p < l.length
    · obtain ⟨x, hx, hd⟩ := getI_drop hp.1 hlt
      have hm : maxLen = 9223372036854775807 := rfl
      rw [hd] at h
      rw [← h]
      refine hstep _ p x _ _ hlt hx ?_ ?_ (w64_of (by omega) (by omega))
      · by_cases h0 : p = 0
        · exact .inl ⟨by simp [h0], by simp [h0]⟩
        · refine .inr ⟨l[p.toNat - 1]'(by omega), by simp; omega, ?_, ?_⟩
          · rw [w64_of (by omega) (by omega)]
            have : (p - 1).toNat = p.toNat - 1 := by omega
            simp only [getI, show 0 ≤ p - 1 by omega, if_true, this]
            exact List.getElem?_eq_getElem _
          · rw [if_neg h0]
            exact List.getElem?_eq_getElem _
      · simp only
        rw [if_pos (by omega), if_pos (by omega), if_neg (by omega)]
        have : (p + 1).toNat - 1 = p.toNat := by omega
        rw [this, getI_some hx]
    · have : p = l.length := by omega
      subst this
      rw [hend]
      simpa using h
  · cases h

/-- A loop along a list that looks at all that came before. -/
theorem rounds_take {α R : Type} (l : List α) (hl : l.length ≤ maxLen) (spec : List α → List α → Option R) (G : (Int → Option R) → Int → Option R)
    (hend : ∀ rec d, G rec l.length = spec d []) (hstep : ∀ rec (p : Int) x t, 0 ≤ p → p < l.length → getI l p = some x → rec (p + 1) = spec (l.take p.toNat ++ [x]) t → w64 (p + 1) = p + 1 → G rec p = spec (l.take p.toNat) (x :: t)) :
    Rounds G fun p => if 0 ≤ p ∧ p ≤ l.length then spec (l.take p.toNat) (l.drop p.toNat) else none := by
  refine rounds_mk ⟨fun p => (l.length - p).toNat, fun p r h => ?_⟩
  try simp only at h
  split at h
  · rename_i hp
    by_cases hlt : p < l.length
    · obtain ⟨x, hx, hd⟩ := getI_drop hp.1 hlt
      have hm : maxLen = 9223372036854775807 := rfl
      rw [hd] at h
      rw [← h]
      refine hstep _ p x _ hp.1 hlt hx ?_ (w64_of (by omega) (by omega))
      simp only
      rw [if_pos (by omega), if_pos (by omega)]
      have e : (p + 1).toNat = p.toNat + 1 := by omega
      rw [e, List.take_add_one, getI_some hx]
      rfl
    · have : p = l.length := by omega
      subst this
      rw [hend _ (l.take (l.length : Int).toNat)]
      simpa using h
  · cases h
end Go.Proofs.Eng
