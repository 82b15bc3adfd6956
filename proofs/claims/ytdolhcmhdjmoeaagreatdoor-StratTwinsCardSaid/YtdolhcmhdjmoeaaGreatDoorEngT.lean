/- A region in which a call writes variables of its caller's. -/
import Derived.Test.YtdolhcmhdjmoeaaGreatDoorEngS
set_option linter.unusedSimpArgs false
set_option linter.unusedVariables false
namespace Go.Proofs.Eng
open Go

theorem aops_wp2 {P : Program} {keep : Nat → Bool} {c : Cx} {ops : Array Oper} {Q : Exit → ASt → Prop} {K : ASt → Prop} {Kp : AV → ASt → Prop} {l2 : List Nat} (fin : ∀ (st : ASt) (g : Gh) (w : World) (a : Act), Inv c g st w → Tm g w st a → a.defers = [] → K st → wpOps P ops (QS c Q Kp) l2 a w) : ∀ (l : List Nat) (st : ASt) (g : Gh) (w : World) (a : Act), Inv c g st w → Tm g w st a → a.defers = [] →
    aops P keep ops (l.filterMap fun i => ops[i]?) st K Kp → wpOps P ops (QS c Q Kp) (l ++ l2) a w
  | [], st, g, w, a, hi, hm, hd, h => fin st g w a hi hm hd h
  | i :: r, st, g, w, a, hi, hm, hd, h => by
    rw [List.cons_append]
    unfold wpOps
    cases ho : ops[i]? with
    | none =>
      simp only [List.filterMap_cons, ho] at h
      exact aops_wp2 fin r st g w a hi hm hd h
    | some o =>
      simp only [List.filterMap_cons, ho, aops] at h
      have step : aop P keep st o.dst o.op (fun v st' => dstOk st' o.dst ∧ aops P keep ops (r.filterMap fun i => ops[i]?) (st'.putO o.dst v) K Kp) Kp → o.wp P a w (wpOps P ops (QS c Q Kp) (r ++ l2)) (QS c Q Kp) := by
        intro h
        refine aop_wp hi hm hd h ?_ ?_
        · rintro v st' g' w' y h1 h2 h3 ⟨h4, h5⟩
          exact aops_wp2 fin r _ g' w' _ (h1.putO _ _) (h2.putO h4 h3) (by rw [put_defers]; exact hd) h5
        · intro v st' g' w' y h1 h2 h3 h4
          exact ⟨st', g', h1, h2, hd, v, y, rfl, h3, h4⟩
      split at h
      · rename_i hgd
        simp only [Region.wanted, hgd, if_true]
        exact .inl (step h)
      · rename_i j want hgd
        split at h
        · rename_i d hdj
          obtain ⟨hdn, h⟩ := h
          split at h
          · rename_i b hb
            have hv := hm.2 d
            rw [hb] at hv
            obtain ⟨hpl, _⟩ := hv.plain_of
            have hy : yielded ops a.tmps j = some b := by
              unfold yielded
              have hlt : d < a.tmps.size := by rw [hm.1]; exact hdn
              have : a.tmps[d]? = some (.bool b) := by
                rw [Array.getElem?_eq_getElem hlt]
                simp [Array.getD, hlt] at hpl
                rw [hpl]
              simp [hdj, this]
            simp only [Region.wanted, hgd, hy]
            split at h
            · rename_i hbw
              subst hbw
              simp only [beq_self_eq_true, if_true]
              exact .inl (step h)
            · rename_i hbw
              have : (some b == some want) = false := by simpa using hbw
              simp only [this, Bool.false_eq_true, if_false]
              exact aops_wp2 fin r _ g w _ (hi.putO _ _) (hm.putO h.1 (undef_vr _ _)) (by rw [put_defers]; exact hd) h.2
          · rename_i hb
            have hv := hm.2 d
            rw [hb] at hv
            have hx := undef_of hv
            have hy : yielded ops a.tmps j = none := by
              unfold yielded
              have hlt : d < a.tmps.size := by rw [hm.1]; exact hdn
              have : a.tmps[d]? = some Go.undef := by
                rw [Array.getElem?_eq_getElem hlt]
                simp [Array.getD, hlt] at hx
                rw [hx]
              simp [hdj, this, Go.undef]
            simp only [Region.wanted, hgd, hy]
            have : ((none : Option Bool) == some want) = false := rfl
            simp only [this, Bool.false_eq_true, if_false]
            exact aops_wp2 fin r _ g w _ (hi.putO _ _) (hm.putO h.1 (undef_vr _ _)) (by rw [put_defers]; exact hd) h.2
          · exact h.elim
        · exact h.elim

/-- A region in which the operation m is a call that writes the variables l; ext': what it leaves in them. -/
def rregX (P : Program) (keep : Nat → Bool) (ops : Array Oper) (hs : List (Nat × AV)) (gs : List (Nat × Bool)) (ks : List Nat) (m : Nat) (l : List Nat) (ext' : List (List AV)) (v : AV) (st : ASt) : Option (List Prop × ASt) :=
  match rops P keep ops hs gs (ops.toList.take m) 0 st, ops[m]? with
  | some (c1, st1), some o => match o with
    | { op := .call { callee := .value x, args := args, argTypes := _ }, guard := none, dst := dst, .. } => match st1.ev x, lentCells st1 l with
      | .func f caps, some ext => if dstB st1 dst = true then match rops P keep ops hs gs (ops.toList.drop (m + 1)) (m + 1) ((giveBack st1 l ext').putO dst v) with
        | some (c2, st2) => some (DetX P f ((args.toList.map st1.ev ++ caps).map (lend l)) ext (.ret v) ext' :: (c1 ++ c2), st2.trim ks)
        | none => none else none
      | _, _ => none
    | _ => none
  | _, _ => none
def rpanX (P : Program) (keep : Nat → Bool) (ops : Array Oper) (hs : List (Nat × AV)) (gs : List (Nat × Bool)) (m : Nat) (l : List Nat) (ext' : List (List AV)) (v : AV) (st : ASt) : Option (List Prop × ASt) :=
  match rops P keep ops hs gs (ops.toList.take m) 0 st, ops[m]? with
  | some (c1, st1), some o => match o with
    | { op := .call { callee := .value x, args := args, argTypes := _ }, guard := none, dst := dst, .. } => match st1.ev x, lentCells st1 l with
      | .func f caps, some ext => some (DetX P f ((args.toList.map st1.ev ++ caps).map (lend l)) ext (.panic v) ext' :: c1, (giveBack st1 l ext').trim [])
      | _, _ => none
    | _ => none
  | _, _ => none

theorem range_split (ops : Array Oper) {m : Nat} (hm : m < ops.size) : List.range ops.size = List.range m ++ (m :: List.range' (m + 1) (ops.size - (m + 1))) := by
  rw [List.range_eq_range', List.range_eq_range']
  have : ops.size = m + (1 + (ops.size - (m + 1))) := by omega
  conv => lhs; rw [this]
  rw [← List.range'_append_1, ← List.range'_append_1]
  simp
theorem take_fm (ops : Array Oper) {m : Nat} (hm : m ≤ ops.size) : (List.range m).filterMap (fun i => ops[i]?) = ops.toList.take m := by
  have := range_opers ops
  have h2 : List.range ops.size = List.range m ++ List.range' m (ops.size - m) := by
    rw [List.range_eq_range', List.range_eq_range']
    conv => lhs; rw [show ops.size = m + (ops.size - m) by omega]
    rw [← List.range'_append_1]; simp
  rw [h2, List.filterMap_append] at this
  have hl : ((List.range m).filterMap (fun i => ops[i]?)).length = m := by
    have : ∀ l : List Nat, (∀ i ∈ l, i < ops.size) → (l.filterMap (fun i => ops[i]?)).length = l.length := by
      intro l
      induction l with
      | nil => intro _; rfl
      | cons a r ih =>
        intro h
        rw [List.filterMap_cons, Array.getElem?_eq_getElem (h a (by simp))]
        simp [ih fun i hi => h i (by simp [hi])]
    rw [this _ (fun i hi => by have := List.mem_range.1 hi; omega), List.length_range]
  rw [← this, List.take_left' hl]
theorem drop_fm (ops : Array Oper) {m : Nat} (hm : m ≤ ops.size) : (List.range' m (ops.size - m)).filterMap (fun i => ops[i]?) = ops.toList.drop m := by
  have := range_opers ops
  have h2 : List.range ops.size = List.range m ++ List.range' m (ops.size - m) := by
    rw [List.range_eq_range', List.range_eq_range']
    conv => lhs; rw [show ops.size = m + (ops.size - m) by omega]
    rw [← List.range'_append_1]; simp
  rw [h2, List.filterMap_append, take_fm ops hm] at this
  have h3 : ops.toList.take m ++ ops.toList.drop m = ops.toList := List.take_append_drop m _
  exact List.append_cancel_left (this.trans h3.symm)

section
variable {P : Program} {Q : Exit → ASt → Prop} {Qp : AV → ASt → Prop} {st st' : ASt} {id : Nat} {ops : Array Oper} {cs : List Prop}

theorem awp_trimP {x : Code} (ks : List Nat) (h : awp P x Q (fun v s => Qp v (s.trim ks)) st) : awp P x Q Qp st := by
  intro c g w a hi hm hd
  refine wp_mono (h c g w a hi hm hd) ?_
  rintro e a' w' ⟨st', g', h1, h2, h3, h4⟩
  cases e with
  | panic ch =>
    obtain ⟨v, x, q1, q2, q3⟩ := h4
    exact ⟨_, g', trim_inv h1 ks, trim_tm h2 ks, h3, v, x, q1, q2, q3⟩
  | outgrown => exact h4.elim
  | _ => exact ⟨st', g', h1, h2, h3, h4⟩

theorem awp_regX (keep : Nat → Bool) (hs : List (Nat × AV)) (gs : List (Nat × Bool)) (ks : List Nat) (m : Nat) (l : List Nat) (ext' : List (List AV)) (v : AV) (hnd : l.Nodup) (h : rregX P keep ops hs gs ks m l ext' v st = some (cs, st')) (hc : allP cs) (hN : Q .normal st') : awp P (.region id ops false) Q Qp st := by
  unfold rregX at h
  split at h
  · rename_i c1 st1 o hr ho
    split at h
    · rename_i x args ts dst typ pos after
      split at h
      · rename_i f caps ext hf hle
        split at h
        · rename_i hdst
          split at h
          · rename_i c2 st2 h2
            cases h
            refine awp_trim ks ?_
            intro c g w a hi hm hd
            have hms : m < ops.size := (Array.getElem?_eq_some_iff.1 ho).1
            have hc' := (allP_app _ _).1 hc.2
            refine wp_region ?_
            rw [range_split ops hms]
            refine aops_wp2 (keep := keep) (K := fun s => s = st1) ?_ _ st g w a hi hm hd (by rw [take_fm ops (by omega)]; exact rops_ok _ _ _ hr hc'.1 rfl)
            rintro s g1 w1 a1 hi1 hm1 hd1 rfl
            unfold wpOps
            simp only [ho, Region.wanted, if_true]
            refine .inl (acallX_wp hi1 hm1 hf hnd hle hc.1 (o := _) rfl ?_ ?_)
            · intro v' g2 w2 y hv hi2 hm2 hy
              cases hv
              refine aops_wp (keep := keep) _ _ g2 w2 _ (hi2.putO _ _) (hm2.putO (dstB_ok hdst) hy) (by rw [put_defers]; exact hd1) ?_
              rw [drop_fm ops (by omega)]
              exact rops_ok _ _ _ h2 hc'.2 hN
            · intro v' g2 w2 y hv
              cases hv
          · cases h
        · cases h
      · cases h
    · cases h
  · cases h

theorem awp_panX (keep : Nat → Bool) (hs : List (Nat × AV)) (gs : List (Nat × Bool)) (m : Nat) (l : List Nat) (ext' : List (List AV)) {v : AV} (hnd : l.Nodup) (h : rpanX P keep ops hs gs m l ext' v st = some (cs, st')) (hc : allP cs) (hN : Qp v st') : awp P (.region id ops false) Q Qp st := by
  unfold rpanX at h
  split at h
  · rename_i c1 st1 o hr ho
    split at h
    · rename_i x args ts dst typ pos after
      split at h
      · rename_i f caps ext hf hle
        cases h
        refine awp_trimP [] ?_
        intro c g w a hi hm hd
        have hms : m < ops.size := (Array.getElem?_eq_some_iff.1 ho).1
        refine wp_region ?_
        rw [range_split ops hms]
        refine aops_wp2 (keep := keep) (K := fun s => s = st1) ?_ _ st g w a hi hm hd (by rw [take_fm ops (by omega)]; exact rops_ok _ _ _ hr hc.2 rfl)
        rintro s g1 w1 a1 hi1 hm1 hd1 rfl
        unfold wpOps
        simp only [ho, Region.wanted, if_true]
        refine .inl (acallX_wp hi1 hm1 hf hnd hle hc.1 (o := _) rfl ?_ ?_)
        · intro v' g2 w2 y hv
          cases hv
        · intro v' g2 w2 y hv hi2 hm2 hy
          cases hv
          exact ⟨_, g2, hi2, hm2, hd1, _, y, rfl, hy, hN⟩
      · cases h
    · cases h
  · cases h
end
end Go.Proofs.Eng
