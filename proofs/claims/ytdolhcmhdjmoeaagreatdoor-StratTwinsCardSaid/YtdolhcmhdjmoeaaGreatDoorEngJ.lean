/- To say less of a state: for a loop's head. -/
import Derived.Test.YtdolhcmhdjmoeaaGreatDoorEngI
set_option linter.unusedSimpArgs false
set_option linter.unusedVariables false
namespace Go.Proofs.Eng
open Go

/-- What of a value still holds where fewer variables and rows are known. -/
def vle0 (kv kf : Nat → Bool) (nw : Nat → Option Nat) (v v' : AV) : Prop :=
  match v' with
  | .junk => True
  | .varp i _ => kv i = true ∧ v = v'
  | .slice (.own id) k els => (kf id = true ∧ v = v') ∨ (els = [] ∧ v = .nils ∧ nw id = some k)
  | .slice .non k els => v = v' ∨ (els = [] ∧ v = .nils) ∨ ∃ id, v = .slice (.own id) k els
  | .func _ caps => caps = [] ∧ v = v'
  | .agg _ | .tuple _ => False
  | _ => v = v'
def vleL (kv kf : Nat → Bool) (nw : Nat → Option Nat) : List AV → List AV → Prop
  | [], [] => True
  | v :: r, v' :: r' => vle0 kv kf nw v v' ∧ vleL kv kf nw r r'
  | _, _ => False
def vle (kv kf : Nat → Bool) (nw : Nat → Option Nat) (v v' : AV) : Prop :=
  match v' with
  | .agg cs' => match v with
    | .agg cs => vleL kv kf nw cs cs'
    | _ => False
  | .func f caps' => match v with
    | .func f' caps => f = f' ∧ vleL kv kf nw caps caps'
    | _ => False
  | v' => vle0 kv kf nw v v'
def allT (kv kf : Nat → Bool) (nw : Nat → Option Nat) (st : ASt) : List (Nat × AV) → Prop
  | [] => True
  | (t, v) :: r => vle kv kf nw (st.get t) v ∧ allT kv kf nw st r
def allVs (kv kf : Nat → Bool) (nw : Nat → Option Nat) (st : ASt) : List (Nat × (Bool × List AV)) → Prop
  | [] => True
  | (i, (z, cs)) :: r => (match look st.vars i with | some (z', cs') => z' = z ∧ (if z = true then cs' = cs else vleL kv kf nw cs' cs) | none => False) ∧ allVs kv kf nw st r
def allF (st : ASt) : List (Nat × (TypeId × Nat × Nat)) → Prop
  | [] => True
  | (id, (t, k, n)) :: r => (match look st.fronts id with | some x => x = (t, k, n) | none => n = 0 ∧ 0 < k) ∧ allF st r
def allE (kv kf : Nat → Bool) (nw : Nat → Option Nat) : List (List AV) → List (List AV) → Prop
  | [], [] => True
  | c :: r, c' :: r' => vleL kv kf nw c c' ∧ allE kv kf nw r r'
  | _, _ => False

def keepV (st' : ASt) (i : Nat) : Bool := (look st'.vars i).isSome
def keepF (st st' : ASt) (i : Nat) : Bool := (look st'.fronts i).isSome && (look st.fronts i).isSome
def newF (st st' : ASt) (i : Nat) : Option Nat := match look st.fronts i, look st'.fronts i with
  | none, some (_, k, _) => some k
  | _, _ => none

theorem allT_look {kv kf : Nat → Bool} {nw : Nat → Option Nat} {st : ASt} : ∀ {l : List (Nat × AV)}, allT kv kf nw st l → ∀ {t v}, look l t = some v → vle kv kf nw (st.get t) v
  | [], _, t, v, h => by simp [look] at h
  | (a, u) :: r, h, t, v, hl => by
    simp only [look] at hl
    split at hl
    · rename_i he
      injection hl with hl
      subst he hl
      exact h.1
    · exact allT_look h.2 hl
theorem allVs_look {kv kf : Nat → Bool} {nw : Nat → Option Nat} {st : ASt} : ∀ {l : List (Nat × (Bool × List AV))}, allVs kv kf nw st l → ∀ {i z cs}, look l i = some (z, cs) → ∃ cs', look st.vars i = some (z, cs') ∧ (if z = true then cs' = cs else vleL kv kf nw cs' cs)
  | [], _, t, z, v, h => by simp [look] at h
  | (a, (z, cs)) :: r, h, i, z', cs', hl => by
    simp only [look] at hl
    split at hl
    · rename_i he
      injection hl with hl
      injection hl with h1 h2
      subst he h1 h2
      have h3 := h.1
      split at h3
      · rename_i z' cs' h4
        exact ⟨cs', by rw [h4, h3.1], h3.2⟩
      · exact h3.elim
    · exact allVs_look h.2 hl
theorem allF_look {st : ASt} : ∀ {l : List (Nat × (TypeId × Nat × Nat))}, allF st l → ∀ {i t k n}, look l i = some (t, k, n) → look st.fronts i = some (t, k, n) ∨ (look st.fronts i = none ∧ n = 0 ∧ 0 < k)
  | [], _, i, t, k, n, h => by simp [look] at h
  | (a, (t, k, n)) :: r, h, i, t', k', n', hl => by
    simp only [look] at hl
    split at hl
    · rename_i he
      injection hl with hl
      injection hl with h1 h2
      injection h2 with h2 h3
      subst he h1 h2 h3
      have h3 := h.1
      split at h3
      · rename_i x h4
        exact .inl (by rw [h4, h3])
      · rename_i h4
        exact .inr ⟨h4, h3⟩
    · exact allF_look h.2 hl
theorem vleL_at {kv kf : Nat → Bool} {nw : Nat → Option Nat} : ∀ {cs cs' : List AV}, vleL kv kf nw cs cs' → cs.length = cs'.length ∧ ∀ j (h : j < cs.length) (h' : j < cs'.length), vle0 kv kf nw cs[j] cs'[j]
  | [], [], _ => ⟨rfl, fun j h => by simp at h⟩
  | v :: r, v' :: r', h => by
    obtain ⟨h1, h2⟩ := vleL_at h.2
    refine ⟨by simp [h1], fun j hj hj' => ?_⟩
    cases j with
    | zero => exact h.1
    | succ j => exact h2 j (by simpa using hj) (by simpa using hj')
  | [], _ :: _, h => h.elim
  | _ :: _, [], h => h.elim
theorem allE_at {kv kf : Nat → Bool} {nw : Nat → Option Nat} : ∀ {cs cs' : List (List AV)}, allE kv kf nw cs cs' → cs.length = cs'.length ∧ ∀ j (h : j < cs.length) (h' : j < cs'.length), vleL kv kf nw cs[j] cs'[j]
  | [], [], _ => ⟨rfl, fun j h => by simp at h⟩
  | v :: r, v' :: r', h => by
    obtain ⟨h1, h2⟩ := allE_at h.2
    refine ⟨by simp [h1], fun j hj hj' => ?_⟩
    cases j with
    | zero => exact h.1
    | succ j => exact h2 j (by simpa using hj) (by simpa using hj')
  | [], _ :: _, h => h.elim
  | _ :: _, [], h => h.elim

/-- To say less of a state. -/
theorem Le.mk {st st' : ASt} (hn : st'.n = st.n) (hT : allT (keepV st') (keepF st st') (newF st st') st st'.tmps) (hV : allVs (keepV st') (keepF st st') (newF st st') st st'.vars) (hF : allF st st'.fronts)
    (hE : allE (keepV st') (keepF st st') (newF st st') st.ext st'.ext) : Le st st' := by
  intro c g w a hi hm
  let g' : Gh := { g with
    vb := fun i => if keepV st' i = true then g.vb i else none
    fr := fun i => if keepF st st' i = true then g.fr i else if (newF st st' i).isSome then some ⟨.slice none 0 0, 0⟩ else none }
  have hvb : ∀ {i b}, g'.vb i = some b → g.vb i = some b ∧ keepV st' i = true := by
    intro i b h
    simp only [g'] at h
    split at h
    · rename_i hk; exact ⟨h, hk⟩
    · cases h
  have hfr : ∀ {i e}, g'.fr i = some e → (g.fr i = some e ∧ keepF st st' i = true) ∨ e = ⟨.slice none 0 0, 0⟩ := by
    intro i e h
    simp only [g'] at h
    split at h
    · rename_i hk; exact .inl ⟨h, hk⟩
    · split at h
      · injection h with h; exact .inr h.symm
      · cases h
  have v0 : ∀ {v v' x}, vle0 (keepV st') (keepF st st') (newF st st') v v' → VR g w v x → VR g' w v' x := by
    intro v v' x hle hv
    unfold vle0 at hle
    split at hle
    · exact .cl _ _ (.junk _)
    · obtain ⟨hk, rfl⟩ := hle
      obtain ⟨b, hb, rfl⟩ := hv.varp_of
      exact .varp _ _ b (by simp [g', hk, hb])
    · rename_i id k els
      rcases hle with ⟨hk, rfl⟩ | ⟨rfl, rfl, hk⟩
      · cases hv with
        | cl _ _ hd => cases hd
        | own _ _ _ _ e hd hf hl he => exact .own id k els x e hd (by simp [g', hk, hf]) hl he
      · have hx := hv.nils_of
        subst hx
        refine .own id k [] _ ⟨.slice none 0 0, 0⟩ (.slice0 _ _ _) ?_ (Nat.le_refl 0) (fun _ => rfl)
        have hkf : keepF st st' id = false := by
          unfold newF at hk
          unfold keepF
          split at hk
          · rename_i h1 h2; simp [h1]
          · cases hk
        simp [g', hkf, hk]
    · rename_i k els
      rcases hle with rfl | ⟨rfl, rfl⟩ | ⟨id, rfl⟩
      · cases hv with
        | cl _ _ hd => exact .cl _ _ hd
      · have hx := hv.nils_of
        subst hx
        exact .cl _ _ (.slice0 _ _ _)
      · cases hv with
        | cl _ _ hd => cases hd
        | own _ _ _ _ e hd => exact .cl _ _ hd
    · rename_i f caps
      obtain ⟨rfl, rfl⟩ := hle
      obtain ⟨arr, rfl, hs, h2⟩ := hv.at_func
      exact .func f [] arr hs (fun j h => by simp at h)
    · exact hle.elim
    · exact hle.elim
    · subst hle
      cases hv with
      | cl _ _ hd => exact .cl _ _ hd
      | extp i off b hb => exact .extp i off b hb
      | varp => simp_all
      | own => simp_all
      | func => simp_all
      | agg => simp_all
      | tuple => simp_all
  have v1 : ∀ {v v' x}, vle (keepV st') (keepF st st') (newF st st') v v' → VR g w v x → VR g' w v' x := by
    intro v v' x hle hv
    unfold vle at hle
    split at hle
    · split at hle
      · obtain ⟨arr, rfl, hs, h2⟩ := hv.at_agg
        obtain ⟨h3, h4⟩ := vleL_at hle
        exact .agg _ arr (h3.symm.trans hs) (fun j h h' => v0 (h4 j (by omega) h) (h2 j (by omega) h'))
      · exact hle.elim
    · split at hle
      · obtain ⟨rfl, hle⟩ := hle
        obtain ⟨arr, rfl, hs, h2⟩ := hv.at_func
        obtain ⟨h3, h4⟩ := vleL_at hle
        exact .func _ _ arr (h3.symm.trans hs) (fun j h h' => v0 (h4 j (by omega) h) (h2 j (by omega) h'))
      · exact hle.elim
    · exact v0 hle hv
  have blk : ∀ {b cs cs'}, vleL (keepV st') (keepF st st') (newF st st') cs cs' → Blk g w b cs → Blk g' w b cs' := by
    intro b cs cs' hle hb
    obtain ⟨arr, t, h1, h2, h3⟩ := hb
    obtain ⟨h4, h5⟩ := vleL_at hle
    exact ⟨arr, t, h1, h4.symm.trans h2, fun j h h' => v0 (h5 j (by omega) h) (h3 j (by omega) h')⟩
  obtain ⟨hE1, hE2⟩ := allE_at hE
  refine ⟨g', ⟨hi.since, hi.eb, hi.nodup, hi.ebl, fun i b h => hi.vbl i b (hvb h).1, ?_, ?_, ?_, ⟨hE1.symm.trans hi.ext.1, fun i h h' => ⟨blk (hE2 i (by omega) h') (hi.ext.2 i h (by omega)).1, (hi.ext.2 i h (by omega)).2⟩⟩, ?_, ?_, fun i j b h1 h2 => hi.vinj i j b (hvb h1).1 (hvb h2).1, ?_, ?_, hi.dlt⟩, ?_⟩
  · intro id e b h hb
    rcases hfr h with ⟨h, _⟩ | rfl
    · exact hi.frl id e b h hb
    · cases hb
  · intro i z cs h
    obtain ⟨cs0, h1, h2⟩ := allVs_look hV h
    obtain ⟨b, h3, h4, h5, h6⟩ := hi.var i z cs0 h1
    cases z with
    | true =>
      simp only [if_true] at h2
      subst h2
      obtain ⟨arr, t, k1, k2, k3⟩ := h4
      refine ⟨b, by simp [g', keepV, h, h3], ⟨arr, t, k1, k2, fun j h h' => .cl _ _ ?_⟩, h5, h6⟩
      have h9 := (k3 j h h').cl1_of
      rwa [(h5 rfl).2 _ (List.getElem_mem h)] at h9
    | false =>
      simp only [Bool.false_eq_true, if_false] at h2
      exact ⟨b, by simp [g', keepV, h, h3], blk h2 h4, fun hz => by simp at hz, h6⟩
  · intro i b h
    exact (hvb h).2
  · intro id t k n h
    rcases allF_look hF h with h1 | ⟨h1, rfl, h2⟩
    · obtain ⟨e, xs, h3, h4⟩ := hi.fr id t k n h1
      exact ⟨e, xs, by simp [g', keepF, h, h1, h3], h4⟩
    · exact ⟨⟨.slice none 0 0, 0⟩, [], by simp [g', keepF, newF, h, h1], rfl, h2, World.ownsRow_nil w _ t k, fun b o hb => by cases hb⟩
  · intro id e h
    simp only [g'] at h
    split at h
    · rename_i hk
      simp only [keepF, Bool.and_eq_true] at hk
      exact hk.1
    · split at h
      · rename_i hk
        unfold newF at hk
        split at hk
        · rename_i h1 h2; simp [h2]
        · simp at hk
      · cases h
  · intro i j e e' b h1 h2 h3 h4
    rcases hfr h1 with ⟨h1, _⟩ | rfl
    · rcases hfr h2 with ⟨h2, _⟩ | rfl
      · exact hi.finj i j e e' b h1 h2 h3 h4
      · cases h4
    · cases h3
  · intro i j b e h1 h2 h3
    rcases hfr h2 with ⟨h2, _⟩ | rfl
    · exact hi.vf i j b e (hvb h1).1 h2 h3
    · cases h3
  · refine ⟨hm.1.trans hn.symm, fun t => ?_⟩
    cases hl : look st'.tmps t with
    | none =>
      simp only [ASt.get, hl, Option.getD_none]
      exact .cl _ _ (.junk _)
    | some v =>
      have := v1 (allT_look hT hl) (hm.2 t)
      simpa only [ASt.get, hl, Option.getD_some] using this
end Go.Proofs.Eng
