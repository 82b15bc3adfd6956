/- A region whose order Go leaves open: all orders come to what the text's order comes to. -/
import Derived.Test.YtdolhcmhdjmoeaaGreatDoorEngL
set_option linter.unusedSimpArgs false
set_option linter.unusedVariables false
namespace Go.Proofs.Eng
open Go

section
variable {P : Program} {keep : Nat → Bool} {ops : Array Oper} {cl : List (List Nat)} {st0 : ASt} {R : Recs}

def atL (ops : Array Oper) (R : Recs) (st0 : ASt) (L : Nat → Bool) : ASt := foldR ops R st0 ((List.range ops.size).filter L)

theorem range'_zero (n : Nat) : List.range' 0 n = List.range n := (List.range_eq_range').symm

theorem not_apart_look {o o' : Oper} {t : Tmp} (hd : o'.dst = some t) (hl : t ∈ o.looksAt ops) : commB ops o' o = false := by
  cases h : o'.apart ops o with
  | false => simp [commB, h]
  | true => exact absurd hl ((Oper.apart_spec h).1 t hd)
theorem not_apart_dst {o o' : Oper} {t : Tmp} (hd : o'.dst = some t) (hl : o.dst = some t) : commB ops o' o = false := by
  cases h : o'.apart ops o with
  | false => simp [commB, h]
  | true => exact absurd hl ((Oper.apart_spec h).2.1 t hd)
theorem not_class {o o' : Oper} (h : classOk (drawClass o'.op) (drawClass o.op) = false) : commB ops o' o = false := by simp [commB, h]

/-- An operation that is ready looks at what it looks at in the text's order. -/
theorem get_agree (hd : DrawF ops cl) {L : Nat → Bool} (hc : Closed ops L) {i : Nat} {o : Oper} (ho : ops[i]? = some o) (hi : L i = false) (hr : ∀ d ∈ direct o, L d = true) {t : Nat} (ht : t ∈ o.looksAt ops) :
    (atL ops R st0 L).get t = (foldR ops R st0 (List.range i)).get t := by
  have hn : i < ops.size := (Array.getElem?_eq_some_iff.1 ho).1
  unfold atL
  rw [foldR_get, foldR_get]
  refine fold_same (p := fun j => decide ((ops[j]?).bind (·.dst) = some t)) (fun a j hj => ?_) (Nat.le_of_lt hn) (fun j hj hp => ?_) _
  · simp only [decide_eq_false_iff_not] at hj
    simp only [fGet, if_neg hj]
  · simp only [decide_eq_true_eq] at hp
    have hoj : ops[j]? = some ops[j] := Array.getElem?_eq_getElem hj
    rw [hoj] at hp
    by_cases hji : j = i
    · subst hji; rw [hi]; simp
    · exact ordered hd hc ho hi hr hoj hji (not_apart_look hp ht)

theorem var_agree (hd : DrawF ops cl) {L : Nat → Bool} (hc : Closed ops L) {i : Nat} {o : Oper} (ho : ops[i]? = some o) (hi : L i = false) (hr : ∀ d ∈ direct o, L d = true) {k : Nat}
    (hk : ∀ j x, j < ops.size → ∀ o', ops[j]? = some o' → j ≠ i → (R j).2 = .v k x → commB ops o' o = false ∨ False) :
    look (atL ops R st0 L).vars k = look (foldR ops R st0 (List.range i)).vars k := by
  have hn : i < ops.size := (Array.getElem?_eq_some_iff.1 ho).1
  unfold atL
  rw [foldR_var, foldR_var]
  refine fold_same (p := fun j => match (R j).2 with | .v k' _ => decide (k' = k) | _ => false) (fun a j hj => ?_) (Nat.le_of_lt hn) (fun j hj hp => ?_) _
  · unfold fVar
    split
    · rename_i k' x hx
      simp only [hx, decide_eq_false_iff_not] at hj
      simp [hj]
    · rfl
  · have hoj : ops[j]? = some ops[j] := Array.getElem?_eq_getElem hj
    by_cases hji : j = i
    · subst hji; rw [hi]; simp
    · split at hp
      · rename_i k' x hx
        simp only [decide_eq_true_eq] at hp
        subst hp
        exact ordered hd hc ho hi hr hoj hji ((hk j x hj ops[j] hoj hji hx).resolve_right id)
      · cases hp
theorem fr_agree (hd : DrawF ops cl) {L : Nat → Bool} (hc : Closed ops L) {i : Nat} {o : Oper} (ho : ops[i]? = some o) (hi : L i = false) (hr : ∀ d ∈ direct o, L d = true) {k : Nat}
    (hk : ∀ j x, j < ops.size → ∀ o', ops[j]? = some o' → j ≠ i → (R j).2 = .f k x → commB ops o' o = false) :
    look (atL ops R st0 L).fronts k = look (foldR ops R st0 (List.range i)).fronts k := by
  have hn : i < ops.size := (Array.getElem?_eq_some_iff.1 ho).1
  unfold atL
  rw [foldR_fr, foldR_fr]
  refine fold_same (p := fun j => match (R j).2 with | .f k' _ => decide (k' = k) | _ => false) (fun a j hj => ?_) (Nat.le_of_lt hn) (fun j hj hp => ?_) _
  · unfold fFr
    split
    · rename_i k' x hx
      simp only [hx, decide_eq_false_iff_not] at hj
      simp [hj]
    · rfl
  · have hoj : ops[j]? = some ops[j] := Array.getElem?_eq_getElem hj
    by_cases hji : j = i
    · subst hji; rw [hi]; simp
    · split at hp
      · rename_i k' x hx
        simp only [decide_eq_true_eq] at hp
        subst hp
        exact ordered hd hc ho hi hr hoj hji (hk j x hj ops[j] hoj hji hx)
      · cases hp
theorem ext_agree (hd : DrawF ops cl) {L : Nat → Bool} (hc : Closed ops L) {i : Nat} {o : Oper} (ho : ops[i]? = some o) (hi : L i = false) (hr : ∀ d ∈ direct o, L d = true)
    (hk : ∀ j k x, j < ops.size → ∀ o', ops[j]? = some o' → j ≠ i → (R j).2 = .e k x → commB ops o' o = false) :
    (atL ops R st0 L).ext = (foldR ops R st0 (List.range i)).ext := by
  have hn : i < ops.size := (Array.getElem?_eq_some_iff.1 ho).1
  unfold atL
  rw [foldR_ext, foldR_ext]
  refine fold_same (p := fun j => match (R j).2 with | .e _ _ => true | _ => false) (fun a j hj => ?_) (Nat.le_of_lt hn) (fun j hj hp => ?_) _
  · unfold fExt
    split
    · rename_i k' x hx
      simp [hx] at hj
    · rfl
  · have hoj : ops[j]? = some ops[j] := Array.getElem?_eq_getElem hj
    by_cases hji : j = i
    · subst hji; rw [hi]; simp
    · split at hp
      · rename_i k' x hx
        exact ordered hd hc ho hi hr hoj hji (hk j k' x hj ops[j] hoj hji hx)
      · cases hp

/-- What an operation writes, by its class. -/
theorem mu_class {o : Oper} {mu : MU} (h : muOk o.op o.dst mu) (hne : mu ≠ .none) : 2 ≤ drawClass o.op := by
  rcases Nat.lt_or_ge (drawClass o.op) 2 with h1 | h1
  · exact absurd (h.1 (by omega)) hne
  · exact h1

theorem var_keeps (R : Recs) (k : Nat) : ∀ (l : List Nat) (a : Option (Bool × List AV)), a ≠ none → l.foldl (fVar R k) a ≠ none
  | [], a, h => h
  | i :: r, a, h => by
    refine var_keeps R k r _ ?_
    unfold fVar
    split
    · split
      · simp
      · exact h
    · exact h

/-- Of an operation: what it writes. -/
structure One0 (st : ASt) (o : Oper) (mu : MU) : Prop where
  muok : muOk o.op o.dst mu
  fresh : freshOk o.op st mu
theorem One.zero {st0 st : ASt} {o : Oper} {v : AV} {mu : MU} (h : One P keep ops st0 st o v mu) : One0 st o mu := ⟨h.muok, h.fresh⟩

set_option maxHeartbeats 1000000 in
theorem agree (hd : DrawF ops cl) (hone : ∀ j, j < ops.size → ∀ o, ops[j]? = some o → One0 (foldR ops R st0 (List.range j)) o (R j).2) {L : Nat → Bool} (hc : Closed ops L) {i : Nat} {o : Oper} (ho : ops[i]? = some o) (hi : L i = false) (hr : ∀ d ∈ direct o, L d = true)
    (hl : loadOk st0 (foldR ops R st0 (List.range i)) o.op) : Agree o.op o.dst (foldR ops R st0 (List.range i)) (atL ops R st0 L) := by
  have hcl := fun j (hj : j < ops.size) o' (ho' : ops[j]? = some o') => (hone j hj o' ho').muok
  have c3 : ∀ {o' : Oper}, drawClass o'.op = 3 → 1 ≤ drawClass o.op → commB ops o' o = false := fun h1 h2 => not_class (by
    simp only [classOk, Bool.or_eq_false_iff, beq_eq_false_iff_ne, Bool.and_eq_false_iff, decide_eq_false_iff_not]; omega)
  have c3' : ∀ {o' : Oper}, 2 ≤ drawClass o'.op → drawClass o.op = 3 → commB ops o' o = false := fun h1 h2 => not_class (by
    simp only [classOk, Bool.or_eq_false_iff, beq_eq_false_iff_ne, Bool.and_eq_false_iff, decide_eq_false_iff_not]; omega)
  have cases23 : ∀ j (hj : j < ops.size) o' (ho' : ops[j]? = some o'), (R j).2 ≠ .none → drawClass o'.op = 2 ∨ drawClass o'.op = 3 := by
    intro j hj o' ho' hne
    have h1 := mu_class (hcl j hj o' ho') hne
    have h2 := hd.cls j o' ho'
    omega
  have hext : 1 ≤ drawClass o.op → (atL ops R st0 L).ext = (foldR ops R st0 (List.range i)).ext := fun h1 => ext_agree hd hc ho hi hr fun j k x hj o' ho' _ hmu => by
    rcases cases23 j hj o' ho' (by rw [hmu]; simp) with h2 | h2
    · rcases (hcl j hj o' ho').2 h2 with h3 | ⟨d, _, ⟨x, h3⟩ | ⟨x, h3⟩⟩ <;> rw [hmu] at h3 <;> cases h3
    · exact c3 h2 h1
  refine ⟨fun x hx => ?_, fun t p hop => ?_, fun h2 d hdd => ?_, fun h3 => ?_, fun h3 d hdd => ?_⟩
  · cases x with
    | tmp t => exact get_agree hd hc ho hi hr (by
        unfold Oper.looksAt
        refine List.mem_append_left _ (List.mem_filterMap.2 ⟨.tmp t, by simpa using hx, rfl⟩))
    | _ => rfl
  · have h1 : 1 ≤ drawClass o.op := by rw [hop]; exact Nat.le_refl 1
    rw [hop] at hl
    simp only [loadOk] at hl
    generalize (foldR ops R st0 (List.range i)).ev p = pv at *
    cases pv with
    | varp k off =>
      simp only at hl
      have : look (atL ops R st0 L).vars k = look (foldR ops R st0 (List.range i)).vars k := var_agree hd hc ho hi hr fun j x hj o' ho' hji hmu => by
        rcases cases23 j hj o' ho' (by rw [hmu]; simp) with h2 | h2
        · exfalso
          have hf := (hone j hj o' ho').fresh h2 k x hmu
          rw [foldR_var] at hf
          exact var_keeps R k _ _ hl hf
        · exact .inl (c3 h2 h1)
      simp only [ASt.mem, this]
    | extp k off => simp only [ASt.mem, hext h1]
    | _ => rfl
  · constructor
    · refine var_agree hd hc ho hi hr fun j x hj o' ho' hji hmu => ?_
      rcases cases23 j hj o' ho' (by rw [hmu]; simp) with h4 | h4
      · rcases (hcl j hj o' ho').2 h4 with h5 | ⟨d', h5, ⟨x', h6⟩ | ⟨x', h6⟩⟩
        · rw [hmu] at h5; cases h5
        · rw [hmu] at h6; injection h6 with e1 _; subst e1
          exact .inl (not_apart_dst h5 hdd)
        · rw [hmu] at h6; cases h6
      · exact .inl (c3 h4 (by omega))
    · refine fr_agree hd hc ho hi hr fun j x hj o' ho' hji hmu => ?_
      rcases cases23 j hj o' ho' (by rw [hmu]; simp) with h4 | h4
      · rcases (hcl j hj o' ho').2 h4 with h5 | ⟨d', h5, ⟨x', h6⟩ | ⟨x', h6⟩⟩
        · rw [hmu] at h5; cases h5
        · rw [hmu] at h6; cases h6
        · rw [hmu] at h6; injection h6 with e1 _; subst e1
          exact not_apart_dst h5 hdd
      · exact c3 h4 (by omega)
  · refine ⟨fun k => var_agree hd hc ho hi hr fun j x hj o' ho' hji hmu => .inl (c3' (mu_class (hcl j hj o' ho') (by rw [hmu]; simp)) h3), fun k => fr_agree hd hc ho hi hr fun j x hj o' ho' hji hmu => c3' (mu_class (hcl j hj o' ho') (by rw [hmu]; simp)) h3, hext (by omega)⟩
  · exact fr_agree hd hc ho hi hr fun j x hj o' ho' hji hmu => c3' (mu_class (hcl j hj o' ho') (by rw [hmu]; simp)) h3

/-- Behind an operation that was ready the state is that of the greater set. -/
theorem snoc_state (hd : DrawF ops cl) (hone : ∀ j, j < ops.size → ∀ o, ops[j]? = some o → One0 (foldR ops R st0 (List.range j)) o (R j).2) {L : Nat → Bool} (hc : Closed ops L) {i : Nat} {o : Oper} (ho : ops[i]? = some o) (hi : L i = false) (hr : ∀ d ∈ direct o, L d = true) :
    let s := stepR ops R (atL ops R st0 L) i
    let s' := atL ops R st0 fun j => L j || j == i
    (∀ t, s'.get t = s.get t) ∧ (∀ k, look s'.vars k = look s.vars k) ∧ (∀ k, look s'.fronts k = look s.fronts k) ∧ s'.ext = s.ext ∧ s'.n = s.n := by
  have hn : i < ops.size := (Array.getElem?_eq_some_iff.1 ho).1
  have hcl := fun j (hj : j < ops.size) o' (ho' : ops[j]? = some o') => (hone j hj o' ho').muok
  have cc : ∀ {o' : Oper}, 2 ≤ drawClass o'.op → 2 ≤ drawClass o.op → drawClass o'.op ≤ 3 → drawClass o.op ≤ 3 → (drawClass o'.op = 2 ∧ drawClass o.op = 2) ∨ commB ops o' o = false := by
    intro o' h1 h2 h3 h4
    by_cases h : drawClass o'.op = 2 ∧ drawClass o.op = 2
    · exact .inl h
    · exact .inr (not_class (by simp only [classOk, Bool.or_eq_false_iff, beq_eq_false_iff_ne, Bool.and_eq_false_iff, decide_eq_false_iff_not]; omega))
  have hpre : ∀ s : ASt, (stepR ops R s i) = foldR ops R s [i] := fun s => rfl
  refine ⟨fun t => ?_, fun k => ?_, fun k => ?_, ?_, ?_⟩
  · simp only [atL, foldR_get, hpre, List.foldl_cons, List.foldl_nil]
    refine fold_snoc (p := fun j => decide ((ops[j]?).bind (·.dst) = some t)) (fun a j hj => ?_) hn hi (fun hpi j hj hji hpj => ?_) _
    · simp only [decide_eq_false_iff_not] at hj; simp only [fGet, if_neg hj]
    · simp only [decide_eq_true_eq] at hpi hpj
      have hoj : ops[j]? = some ops[j] := Array.getElem?_eq_getElem hj
      rw [hoj] at hpj; rw [ho] at hpi
      exact ordered hd hc ho hi hr hoj hji (not_apart_dst hpj hpi)
  · simp only [atL, foldR_var, hpre, List.foldl_cons, List.foldl_nil]
    refine fold_snoc (p := fun j => match (R j).2 with | .v k' _ => decide (k' = k) | _ => false) (fun a j hj => ?_) hn hi (fun hpi j hj hji hpj => ?_) _
    · unfold fVar
      split
      · rename_i k' x hx; simp only [hx, decide_eq_false_iff_not] at hj; simp [hj]
      · rfl
    · have hoj : ops[j]? = some ops[j] := Array.getElem?_eq_getElem hj
      split at hpi
      · rename_i k1 x1 hx1
        split at hpj
        · rename_i k2 x2 hx2
          simp only [decide_eq_true_eq] at hpi hpj
          subst hpi hpj
          refine ordered hd hc ho hi hr hoj hji ?_
          rcases cc (mu_class (hcl j hj _ hoj) (by rw [hx2]; simp)) (mu_class (hcl i hn o ho) (by rw [hx1]; simp)) (hd.cls _ _ hoj) (hd.cls _ _ ho) with ⟨h1, h2⟩ | h
          · rcases (hcl j hj _ hoj).2 h1 with h5 | ⟨d', h5, ⟨x', h6⟩ | ⟨x', h6⟩⟩
            · rw [hx2] at h5; cases h5
            · rcases (hcl i hn o ho).2 h2 with h7 | ⟨d2, h7, ⟨x2', h8⟩ | ⟨x2', h8⟩⟩
              · rw [hx1] at h7; cases h7
              · rw [hx2] at h6; injection h6 with e1 _
                rw [hx1] at h8; injection h8 with e2 _
                exact not_apart_dst (t := d') h5 (by rw [h7, ← e1, ← e2])
              · rw [hx1] at h8; cases h8
            · rw [hx2] at h6; cases h6
          · exact h
        · cases hpj
      · cases hpi
  · simp only [atL, foldR_fr, hpre, List.foldl_cons, List.foldl_nil]
    refine fold_snoc (p := fun j => match (R j).2 with | .f k' _ => decide (k' = k) | _ => false) (fun a j hj => ?_) hn hi (fun hpi j hj hji hpj => ?_) _
    · unfold fFr
      split
      · rename_i k' x hx; simp only [hx, decide_eq_false_iff_not] at hj; simp [hj]
      · rfl
    · have hoj : ops[j]? = some ops[j] := Array.getElem?_eq_getElem hj
      split at hpi
      · rename_i k1 x1 hx1
        split at hpj
        · rename_i k2 x2 hx2
          simp only [decide_eq_true_eq] at hpi hpj
          subst hpi hpj
          refine ordered hd hc ho hi hr hoj hji ?_
          rcases cc (mu_class (hcl j hj _ hoj) (by rw [hx2]; simp)) (mu_class (hcl i hn o ho) (by rw [hx1]; simp)) (hd.cls _ _ hoj) (hd.cls _ _ ho) with ⟨h1, h2⟩ | h
          · rcases (hcl j hj _ hoj).2 h1 with h5 | ⟨d', h5, ⟨x', h6⟩ | ⟨x', h6⟩⟩
            · rw [hx2] at h5; cases h5
            · rw [hx2] at h6; cases h6
            · rcases (hcl i hn o ho).2 h2 with h7 | ⟨d2, h7, ⟨x2', h8⟩ | ⟨x2', h8⟩⟩
              · rw [hx1] at h7; cases h7
              · rw [hx1] at h8; cases h8
              · rw [hx2] at h6; injection h6 with e1 _
                rw [hx1] at h8; injection h8 with e2 _
                exact not_apart_dst (t := d') h5 (by rw [h7, ← e1, ← e2])
          · exact h
        · cases hpj
      · cases hpi
  · simp only [atL, foldR_ext, hpre, List.foldl_cons, List.foldl_nil]
    refine fold_snoc (p := fun j => match (R j).2 with | .e _ _ => true | _ => false) (fun a j hj => ?_) hn hi (fun hpi j hj hji hpj => ?_) _
    · unfold fExt
      split
      · rename_i k' x hx; simp [hx] at hj
      · rfl
    · have hoj : ops[j]? = some ops[j] := Array.getElem?_eq_getElem hj
      split at hpi
      · rename_i k1 x1 hx1
        split at hpj
        · rename_i k2 x2 hx2
          refine ordered hd hc ho hi hr hoj hji ?_
          rcases cc (mu_class (hcl j hj _ hoj) (by rw [hx2]; simp)) (mu_class (hcl i hn o ho) (by rw [hx1]; simp)) (hd.cls _ _ hoj) (hd.cls _ _ ho) with ⟨h1, h2⟩ | h
          · rcases (hcl j hj _ hoj).2 h1 with h5 | ⟨d', h5, ⟨x', h6⟩ | ⟨x', h6⟩⟩ <;> · (first | (rw [hx2] at h5; cases h5) | (rw [hx2] at h6; cases h6))
          · exact h
        · cases hpj
      · cases hpi
  · simp only [atL, foldR_n, hpre]

theorem filt_less : ∀ (l : List Nat) (p : Nat → Bool) (i : Nat), l.Nodup → i ∈ l → p i = true → (l.filter p).length = (l.filter fun j => p j && j != i).length + 1
  | [], p, i, _, h, _ => by cases h
  | a :: r, p, i, hn, h, hp => by
    obtain ⟨h1, h2⟩ := List.nodup_cons.1 hn
    by_cases ha : a = i
    · subst ha
      have e : r.filter p = r.filter fun j => p j && j != a := by
        apply List.filter_congr
        intro j hj
        have : j ≠ a := fun e => h1 (e ▸ hj)
        simp [bne, this]
      simp [hp, ← e]
    · have hir : i ∈ r := by
        rcases List.mem_cons.1 h with h | h
        · exact absurd h.symm ha
        · exact h
      have ih := filt_less r p i h2 hir hp
      cases hpa : p a with
      | true => simp [hpa, bne, ha, ih]
      | false => simp [hpa, ih]

theorem count_less {n i : Nat} (hn : i < n) {L : Nat → Bool} (hi : L i = false) {m : Nat} (h : ((List.range n).filter fun j => !L j).length = m + 1) : ((List.range n).filter fun j => !(L j || j == i)).length = m := by
  have h1 := filt_less (List.range n) (fun j => !L j) i List.nodup_range (by simpa using hn) (by simp [hi])
  have h2 : ((List.range n).filter fun j => !(L j || j == i)) = (List.range n).filter fun j => !L j && j != i := by
    apply List.filter_congr
    intro j _
    cases L j <;> simp [bne]
  rw [h2]; omega

theorem draw_any (hd : DrawF ops cl) (hone : ∀ j, j < ops.size → ∀ o, ops[j]? = some o → One P keep ops st0 (foldR ops R st0 (List.range j)) o (R j).1 (R j).2) {c : Cx} {Q : Exit → ASt → Prop} {Qp : AV → ASt → Prop} (hQ : Q .normal (foldR ops R st0 (List.range ops.size))) :
    ∀ (fuel : Nat) (listed : Array Bool) (a : Act) (w : World) (g : Gh), listed.size = ops.size → Closed ops (fun j => listed.getD j false) → ((List.range ops.size).filter fun j => !listed.getD j false).length = fuel →
      Inv c g (atL ops R st0 fun j => listed.getD j false) w → Tm g w (atL ops R st0 fun j => listed.getD j false) a → a.defers = [] → wpAny P .any ops (QS c Q Qp) fuel listed a w := by
  have hdirect : ∀ {i : Nat} {o : Oper} {listed : Array Bool}, ops[i]? = some o → (∀ e ∈ o.after, Region.binds .any e = true → listed.getD e.on false = true) → ∀ d ∈ direct o, listed.getD d false = true := by
    intro i o listed ho h d hdd
    simp only [direct, List.mem_map, List.mem_filter] at hdd
    obtain ⟨e, ⟨he1, he2⟩, rfl⟩ := hdd
    exact h e (by simpa using he1) he2
  have getDeq : ∀ {listed : Array Bool} {i : Nat}, i < listed.size → listed.getD i true = listed.getD i false := by
    intro listed i hi
    simp [Array.getD, hi]
  have hready : ∀ {listed : Array Bool}, listed.size = ops.size → Region.ready .any ops listed = [] → ∀ i, i < ops.size → listed.getD i false = true := by
    intro listed hs hr i
    induction i using Nat.strongRecOn with
    | _ i ih =>
      intro hi
      cases hL : listed.getD i false with
      | true => rfl
      | false =>
        exfalso
        have hoi : ops[i]? = some ops[i] := Array.getElem?_eq_getElem hi
        have : i ∈ Region.ready .any ops listed := mem_ready.2 ⟨by rw [getDeq (by omega)]; exact hL, ops[i], hoi, fun e he hb => by
          have hdd : e.on ∈ direct ops[i] := List.mem_map.2 ⟨e, List.mem_filter.2 ⟨by simpa using he, hb⟩, rfl⟩
          have hlt := hd.low i ops[i] e.on hoi hdd
          exact ih e.on hlt (by omega)⟩
        rw [hr] at this
        cases this
  have hend : ∀ {listed : Array Bool} {a : Act} {w : World} {g : Gh}, (∀ i, i < ops.size → listed.getD i false = true) → Inv c g (atL ops R st0 fun j => listed.getD j false) w → Tm g w (atL ops R st0 fun j => listed.getD j false) a → a.defers = [] → QS c Q Qp .normal a w := by
    intro listed a w g hall hi hm hdf
    have he : atL ops R st0 (fun j => listed.getD j false) = foldR ops R st0 (List.range ops.size) := by
      unfold atL
      congr 1
      rw [List.filter_eq_self]
      intro j hj
      exact hall j (by simpa using hj)
    rw [he] at hi hm
    exact ⟨_, g, hi, hm, hdf, hQ⟩
  intro fuel
  induction fuel with
  | zero =>
    intro listed a w g hs hc hcnt hi hm hdf
    have hall : ∀ i, i < ops.size → listed.getD i false = true := by
      intro i hlt
      have hnil := List.eq_nil_of_length_eq_zero hcnt
      cases hL : listed.getD i false with
      | true => rfl
      | false =>
        have : i ∈ (List.range ops.size).filter fun j => !listed.getD j false := List.mem_filter.2 ⟨by simpa using hlt, by simp [hL]⟩
        rw [hnil] at this; cases this
    refine ⟨?_, hend hall hi hm hdf⟩
    rw [List.eq_nil_iff_forall_not_mem]
    intro i hir
    obtain ⟨h1, o, ho, _⟩ := mem_ready.1 hir
    have hlt : i < ops.size := (Array.getElem?_eq_some_iff.1 ho).1
    rw [getDeq (by omega), hall i hlt] at h1
    cases h1
  | succ fuel ih =>
    intro listed a w g hs hc hcnt hi hm hdf
    refine ⟨fun hr => hend (hready hs hr) hi hm hdf, fun i hir => ?_⟩
    obtain ⟨h1, o, ho, hpre⟩ := mem_ready.1 hir
    have hlt : i < ops.size := (Array.getElem?_eq_some_iff.1 ho).1
    rw [getDeq (by omega)] at h1
    have hr := hdirect ho hpre
    have h := hone i hlt o ho
    have hguard : ∀ j want d, o.guard = some (j, want) → (ops[j]?).bind (·.dst) = some d → (atL ops R st0 fun j => listed.getD j false).get d = (foldR ops R st0 (List.range i)).get d := by
      intro j want d hg hdj
      refine get_agree hd hc ho h1 hr ?_
      unfold Oper.looksAt
      refine List.mem_append_right _ ?_
      simp [hg, hdj]
    have hrun := h.run (atL ops R st0 fun j => listed.getD j false) (by
      rcases h.load with ⟨hmu, j, want, d, h2, h3, h4⟩ | hl
      · exact .inr ⟨hmu, j, want, d, h2, h3, h4⟩
      · exact .inl (agree hd (fun j hj o ho => (hone j hj o ho).zero) hc ho h1 hr hl)) (by simp only [atL, foldR_n]) hguard
    have hst := hrun (fun s => s = stepR ops R (atL ops R st0 fun j => listed.getD j false) i) (by simp [stepR, ho])
    refine aop1_wp ho hi hm hdf hst ?_
    rintro st' g' w' a' hi' hm' hdf' rfl
    obtain ⟨q1, q2, q3, q4, q5⟩ := snoc_state hd (fun j hj o ho => (hone j hj o ho).zero) hc ho h1 hr
    have hL : (fun j => (listed.setIfInBounds i true).getD j false) = fun j => listed.getD j false || j == i := by
      funext j
      by_cases hji : j = i
      · subst hji
        simp [Array.getD, hs, hlt]
      · have : (j == i) = false := beq_eq_false_iff_ne.2 hji
        rw [this, Bool.or_false, getD_set_ne false (fun e => hji e.symm)]
    refine ih (listed.setIfInBounds i true) a' w' g' (by simpa using hs) ?_ ?_ ?_ ?_ hdf'
    · rw [hL]
      intro k o' d hk hLk hdk
      simp only [Bool.or_eq_true, beq_iff_eq] at hLk ⊢
      rcases hLk with hLk | rfl
      · exact .inl (hc k o' d hk hLk hdk)
      · rw [ho] at hk; injection hk with hk; subst hk
        exact .inl (hr d hdk)
    · have := count_less hlt (L := fun j => listed.getD j false) h1 hcnt
      rw [← this]
      congr 1
      apply List.filter_congr
      intro j _
      exact congrArg not (congrFun hL j)
    · rw [hL]; exact hi'.cong q2 q3 q4
    · rw [hL]; exact hm'.cong q5 q1

/-- A region whose order is drawn comes to what its text comes to. -/
theorem awp_draw (keep : Nat → Bool) (hmix : P.follows .mixedOrders = true) (cl : List (List Nat)) {id : Nat} {ops : Array Oper} {st : ASt} {Q : Exit → ASt → Prop} {Qp : AV → ASt → Prop} (hok : drawOk ops cl = true)
    (h : aopsD P keep ops st ops.toList st (Q .normal)) : awp P (.region id ops true) Q Qp st := by
  intro c g w a hi hm hdf
  have hd := drawOk_spec hok
  obtain ⟨R, h1, h2⟩ := rec_all hd ops.size 0 st (Q .normal) (by simp) (by simpa using h)
  simp only [Nat.sub_zero, range'_zero] at h1 h2
  obtain ⟨hi1, hg1⟩ := hi.same (Same.drew w)
  have hL : (fun j => (Array.replicate ops.size false).getD j false) = fun _ => false := by
    funext j
    simp only [Array.getD]
    split <;> simp
  refine wp_region_any hmix (draw_any (R := R) (cl := cl) (st0 := st) hd (fun j hj o ho => h1 j (Nat.zero_le _) hj o ho) h2 ops.size (Array.replicate ops.size false) a w.drew g (by simp) ?_ ?_ ?_ ?_ hdf)
  · rw [hL]; intro i o d _ h; cases h
  · have h5 : ((List.range ops.size).filter fun j => !(Array.replicate ops.size false).getD j false) = List.range ops.size := by
      rw [List.filter_eq_self]
      intro j _
      have h6 : (Array.replicate ops.size false).getD j false = false := congrFun hL j
      rw [h6]; rfl
    rw [h5, List.length_range]
  · rw [hL]
    have : atL ops R st (fun _ => false) = st := by unfold atL; rw [List.filter_eq_nil_iff.2 (fun _ _ => by simp)]; rfl
    rw [this]; exact hi1
  · rw [hL]
    have : atL ops R st (fun _ => false) = st := by unfold atL; rw [List.filter_eq_nil_iff.2 (fun _ _ => by simp)]; rfl
    rw [this]; exact hm.mono hg1
end
end Go.Proofs.Eng
