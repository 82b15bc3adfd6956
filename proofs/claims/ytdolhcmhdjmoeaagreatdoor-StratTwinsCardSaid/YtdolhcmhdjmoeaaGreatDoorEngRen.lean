/- Another number for a row of one's own. -/
import Derived.Test.YtdolhcmhdjmoeaaGreatDoorEngR
set_option linter.unusedSimpArgs false
set_option linter.unusedVariables false
namespace Go.Proofs.Eng
open Go

def AV.ren0 (a b : Nat) : AV → AV
  | .slice (.own id) k els => .slice (.own (if id = a then b else id)) k els
  | .agg _ | .tuple _ => .junk
  | .func f caps => if caps.length = 0 then .func f [] else .junk
  | v => v
def AV.ren1 (a b : Nat) : AV → AV
  | .agg cs => .agg (cs.map (AV.ren0 a b))
  | .func f caps => .func f (caps.map (AV.ren0 a b))
  | v => v.ren0 a b
def AV.ren2 (a b : Nat) : AV → AV
  | .tuple cs => .tuple (cs.map (AV.ren1 a b))
  | v => v.ren1 a b
def ASt.ren (st : ASt) (a b : Nat) : ASt :=
  { st with
    tmps := st.tmps.map fun p => (p.1, p.2.ren2 a b)
    vars := st.vars.map fun p => (p.1, (p.2.1, if p.2.1 = true then p.2.2 else p.2.2.map (AV.ren1 a b)))
    ext := st.ext.map fun cs => cs.map (AV.ren1 a b)
    fronts := st.fronts.map fun p => (if p.1 = a then b else p.1, p.2) }

theorem look_map {α β : Type} (f : α → β) : ∀ (l : List (Nat × α)) (t : Nat), look (l.map fun p => (p.1, f p.2)) t = (look l t).map f
  | [], t => rfl
  | (i, v) :: r, t => by
    simp only [List.map_cons, look]
    split
    · rfl
    · exact look_map f r t

theorem look_ren {α : Type} (a b : Nat) (hab : a ≠ b) : ∀ (l : List (Nat × α)), look l b = none → ∀ t, look (l.map fun p => (if p.1 = a then b else p.1, p.2)) t = if t = b then look l a else if t = a then none else look l t
  | [], _, t => by simp [look]
  | (i, v) :: r, h, t => by
    simp only [look] at h
    split at h
    · cases h
    · rename_i hib
      have ih := look_ren a b hab r h t
      simp only [List.map_cons, look]
      rw [ih]
      by_cases hia : i = a
      · subst hia
        simp only [if_true]
        by_cases htb : t = b
        · subst htb; simp
        · have : ¬ b = t := fun e => htb e.symm
          simp only [if_neg this, if_neg htb]
          by_cases hti : t = i
          · simp [hti]
          · have : ¬ i = t := fun e => hti e.symm
            simp [hti, this]
      · simp only [if_neg hia]
        by_cases htb : t = b
        · subst htb
          have : ¬ i = t := hib
          simp [this]
        · by_cases hti : t = i
          · subst hti; simp [htb, hia]
          · have : ¬ i = t := fun e => hti e.symm
            simp [htb, this]

theorem Le.ren {st : ASt} (a b : Nat) (hab : a ≠ b) (hb : look st.fronts b = none) : Le st (st.ren a b) := by
  intro c g w act hi hm
  let g' : Gh := { g with fr := fun id => if id = b then g.fr a else if id = a then none else g.fr id }
  have hgb : g.fr b = none := by
    cases h : g.fr b with
    | none => rfl
    | some e => have := hi.fdom b e h; rw [hb] at this; cases this
  have v0 : ∀ {v x}, VR g w v x → VR g' w (v.ren0 a b) x := by
    intro v x hv
    cases hv with
    | cl _ _ hd =>
      cases v with
      | slice o k els =>
        cases o with
        | non => exact .cl _ _ hd
        | own id => cases hd
      | agg cs => exact .cl _ _ (.junk _)
      | tuple cs => exact .cl _ _ (.junk _)
      | func f caps =>
        simp only [AV.ren0]
        split
        · rename_i h0
          obtain rfl : caps = [] := List.eq_nil_of_length_eq_zero h0
          exact .cl _ _ hd
        · exact .cl _ _ (.junk _)
      | _ => exact .cl _ _ hd
    | varp i off b' h => exact .varp i off b' h
    | extp i off b' h => exact .extp i off b' h
    | own id k els x e h1 h2 h3 h4 =>
      refine .own _ k els x e h1 ?_ h3 h4
      simp only [g']
      by_cases hid : id = a
      · subst hid; simp [h2]
      · have : id ≠ b := fun e' => by subst e'; rw [hgb] at h2; cases h2
        simp [hid, this, h2]
    | func f caps captured hs hh =>
      simp only [AV.ren0]
      split
      · rename_i h0
        obtain rfl : caps = [] := List.eq_nil_of_length_eq_zero h0
        exact .func f [] captured hs (fun j h => by simp at h)
      · exact .cl _ _ (.junk _)
    | agg => exact .cl _ _ (.junk _)
    | tuple => exact .cl _ _ (.junk _)
  have v1 : ∀ {v x}, VR g w v x → VR g' w (v.ren1 a b) x := by
    intro v x hv
    cases v with
    | agg cs =>
      obtain ⟨arr, rfl, hs, h2⟩ := hv.at_agg
      exact .agg _ arr (by simpa using hs) fun j h h' => by
        simp only [List.getElem_map]
        exact v0 (h2 j (by simpa using h) h')
    | func f caps =>
      obtain ⟨arr, rfl, hs, h2⟩ := hv.at_func
      exact .func f _ arr (by simpa using hs) fun j h h' => by
        simp only [List.getElem_map]
        exact v0 (h2 j (by simpa using h) h')
    | _ => exact v0 hv
  have v2 : ∀ {v x}, VR g w v x → VR g' w (v.ren2 a b) x := by
    intro v x hv
    cases v with
    | tuple cs =>
      obtain ⟨arr, rfl, hs, h2⟩ := hv.at_tuple
      exact .tuple _ arr (by simpa using hs) fun j h h' => by
        simp only [List.getElem_map]
        exact v1 (h2 j (by simpa using h) h')
    | _ => exact v1 hv
  have hlook : ∀ t, look (st.ren a b).fronts t = if t = b then look st.fronts a else if t = a then none else look st.fronts t := look_ren a b hab st.fronts hb
  have hfr : ∀ {i e}, g'.fr i = some e → ∃ i0, g.fr i0 = some e ∧ (i = b ∧ i0 = a ∨ i ≠ b ∧ i ≠ a ∧ i0 = i) := by
    intro i e h
    simp only [g'] at h
    split at h
    · rename_i hib; exact ⟨a, h, .inl ⟨hib, rfl⟩⟩
    · rename_i hib
      split at h
      · cases h
      · rename_i hia; exact ⟨i, h, .inr ⟨hib, hia, rfl⟩⟩
  refine ⟨g', ⟨hi.since, hi.eb, hi.nodup, hi.ebl, hi.vbl, ?_, ?_, ?_, ?_, ?_, ?_, hi.vinj, ?_, ?_, hi.dlt⟩, ?_⟩
  · intro id e b' h hb'
    obtain ⟨i0, h0, _⟩ := hfr h
    exact hi.frl i0 e b' h0 hb'
  · intro i z cs h
    have hl : look (st.ren a b).vars i = (look st.vars i).map fun p => (p.1, if p.1 = true then p.2 else p.2.map (AV.ren1 a b)) := look_map (fun q : Bool × List AV => (q.1, if q.1 = true then q.2 else q.2.map (AV.ren1 a b))) st.vars i
    rw [hl] at h
    cases hv : look st.vars i with
    | none => rw [hv] at h; cases h
    | some p =>
      obtain ⟨z0, cs0⟩ := p
      rw [hv] at h
      simp only [Option.map_some, Option.some.injEq, Prod.mk.injEq] at h
      obtain ⟨rfl, rfl⟩ := h
      obtain ⟨b', h1, ⟨arr, t, k1, k2, k3⟩, h3, h4⟩ := hi.var i z0 cs0 hv
      cases z0 with
      | true =>
        refine ⟨b', h1, ⟨arr, t, k1, by simpa using k2, fun j h h' => .cl _ _ ?_⟩, fun _ => by simpa using h3 rfl, fun hz => by simp at hz⟩
        simp only [if_true] at h ⊢
        have h9 := (k3 j h h').cl1_of
        rwa [(h3 rfl).2 _ (List.getElem_mem h)] at h9
      | false =>
        refine ⟨b', h1, ⟨arr, t, k1, by simpa using k2, fun j h h' => ?_⟩, fun hz => by simp at hz, h4⟩
        have hj : j < cs0.length := by simpa using h
        have : VR g' w ((cs0.map (AV.ren1 a b))[j]'(by simpa using hj)) arr[j] := by
          rw [List.getElem_map]; exact v1 (k3 j hj h')
        exact this
  · intro i b' h
    have hl : look (st.ren a b).vars i = (look st.vars i).map fun p => (p.1, if p.1 = true then p.2 else p.2.map (AV.ren1 a b)) := look_map (fun q : Bool × List AV => (q.1, if q.1 = true then q.2 else q.2.map (AV.ren1 a b))) st.vars i
    rw [hl]
    have := hi.vdom i b' h
    cases hv : look st.vars i with
    | none => rw [hv] at this; cases this
    | some p => rfl
  · refine ⟨by simp only [ASt.ren, List.length_map]; exact hi.ext.1, fun i h h' => ?_⟩
    have h'' : i < st.ext.length := by simpa [ASt.ren] using h'
    obtain ⟨⟨arr, t, k1, k2, k3⟩, k4⟩ := hi.ext.2 i h h''
    refine ⟨⟨arr, t, k1, by simpa [ASt.ren] using k2, fun j q q' => ?_⟩, k4⟩
    simp only [ASt.ren, List.getElem_map] at q ⊢
    exact v1 (k3 j (by simpa using q) q')
  · intro id t k n h
    rw [hlook] at h
    split at h
    · rename_i hib
      obtain ⟨e, xs, h1, h2⟩ := hi.fr a t k n h
      exact ⟨e, xs, by simp [g', hib, h1], h2⟩
    · rename_i hib
      split at h
      · cases h
      · rename_i hia
        obtain ⟨e, xs, h1, h2⟩ := hi.fr id t k n h
        exact ⟨e, xs, by simp [g', hib, hia, h1], h2⟩
  · intro id e h
    obtain ⟨i0, h0, ⟨rfl, rfl⟩ | ⟨q1, q2, rfl⟩⟩ := hfr h
    · rw [hlook, if_pos rfl]; exact hi.fdom _ e h0
    · rw [hlook, if_neg q1, if_neg q2]; exact hi.fdom _ e h0
  · intro i j e e' b' h1 h2 h3 h4
    obtain ⟨i0, hi0, hi1⟩ := hfr h1
    obtain ⟨j0, hj0, hj1⟩ := hfr h2
    have := hi.finj i0 j0 e e' b' hi0 hj0 h3 h4
    omega
  · intro i j b' e h1 h2
    obtain ⟨j0, hj0, _⟩ := hfr h2
    exact hi.vf i j0 b' e h1 hj0
  · refine ⟨hm.1, fun t => ?_⟩
    have hl : look (st.ren a b).tmps t = (look st.tmps t).map (AV.ren2 a b) := look_map _ st.tmps t
    have := hm.2 t
    simp only [ASt.get, hl] at this ⊢
    cases hv : look st.tmps t with
    | none => exact .cl _ _ (.junk _)
    | some v => rw [hv] at this; exact v2 this

theorem Le.trans {s1 s2 s3 : ASt} (h : Le s1 s2) (h' : Le s2 s3) : Le s1 s3 := by
  intro c g w a hi hm
  obtain ⟨g1, h1, h2⟩ := h c g w a hi hm
  exact h' c g1 w a h1 h2
/-- A variable is written no more from here on. -/
theorem Le.freeze {st : ASt} (i : Nat) (cs : List AV) (hl : look st.vars i = some (false, cs)) (hc : cs.all AV.isCl1 = true) : Le st { st with vars := (i, (true, cs)) :: st.vars } := by
  intro c g w a hi hm
  obtain ⟨g', b, h1, h2, _, _⟩ := hi.freeze i false cs hl (isCl1_all hc)
  exact ⟨g', h1, (hm.mono h2).vars⟩
/-- What holds of itself alone stays. -/
theorem vleL_cl0 {kv kf : Nat → Bool} {nw : Nat → Option Nat} : ∀ {l : List AV}, List.map AV.cl0 l = l → vleL kv kf nw l l
  | [], _ => trivial
  | v :: r, h => by
    simp only [List.map_cons, List.cons.injEq] at h
    refine ⟨?_, vleL_cl0 h.2⟩
    have h1 := h.1
    cases v with
    | slice o k els =>
      cases o with
      | non => exact .inl rfl
      | own id => simp [AV.cl0] at h1
    | varp i off => simp [AV.cl0] at h1
    | agg cs => simp [AV.cl0] at h1
    | tuple cs => simp [AV.cl0] at h1
    | func f caps => simp [AV.cl0] at h1
    | junk => trivial
    | _ => exact rfl
/-- A region, and what stands behind it. -/
theorem awp_sr {P : Program} {Q : Exit → ASt → Prop} {Qp : AV → ASt → Prop} {st st' : ASt} {id : Nat} {ops : Array Oper} {y : Code} {cs : List Prop} (keep : Nat → Bool) (hs : List (Nat × AV)) (gs : List (Nat × Bool)) (ks : List Nat) (h : rreg P keep ops hs gs ks st = some (cs, st')) (hc : allP cs) (hN : awp P y Q Qp st') : awp P (.seq (.region id ops false) y) Q Qp st :=
  awp_seq fun _ hN' => awp_reg keep hs gs ks h hc (hN' _ hN)
end Go.Proofs.Eng
