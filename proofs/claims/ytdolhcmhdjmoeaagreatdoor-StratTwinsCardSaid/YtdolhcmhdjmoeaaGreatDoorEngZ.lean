/- A region whose order Go leaves open, and in which a call stops. -/
import Derived.Test.YtdolhcmhdjmoeaaGreatDoorEngW
set_option linter.unusedSimpArgs false
set_option linter.unusedVariables false
namespace Go.Proofs.Eng
open Go

theorem rec_pre {P : Program} {keep : Nat → Bool} {ops : Array Oper} {cl : List (List Nat)} (hd : DrawF ops cl) {st0 : ASt} : ∀ (m i : Nat) (st : ASt) (K : ASt → Prop), i + m ≤ ops.size → aopsD P keep ops st0 ((ops.toList.drop i).take m) st K →
    ∃ R : Recs, (∀ j, i ≤ j → j < i + m → ∀ o, ops[j]? = some o → One P keep ops st0 (foldR ops R st (List.range' i (j - i))) o (R j).1 (R j).2) ∧ (∀ j, i + m ≤ j → R j = (.junk, .none)) ∧ K (foldR ops R st (List.range' i m))
  | 0, i, st, K, hi, h => by
    exact ⟨fun _ => (.junk, .none), fun j h1 h2 => by omega, fun _ _ => rfl, by simpa [aopsD, foldR] using h⟩
  | m + 1, i, st, K, hi, h => by
    have hlt : i < ops.size := by omega
    have ho : ops[i]? = some ops[i] := Array.getElem?_eq_getElem hlt
    have hdrop : ops.toList.drop i = ops[i] :: ops.toList.drop (i + 1) := by
      rw [List.drop_eq_getElem_cons (by simpa using hlt)]; simp
    rw [hdrop, List.take_succ_cons] at h
    obtain ⟨v, mu, h1, h2⟩ := rec_one (hd.cls i ops[i] ho) h
    obtain ⟨R, h3, h5, h4⟩ := rec_pre hd m (i + 1) _ K (by omega) h2
    let R' : Recs := fun j => if j = i then (v, mu) else R j
    have hsame : ∀ (l : List Nat) (st : ASt), (∀ j ∈ l, i < j) → foldR ops R' st l = foldR ops R st l := by
      intro l
      induction l with
      | nil => intro st _; rfl
      | cons j r ih =>
        intro st hl
        have hj : j ≠ i := by have := hl j (by simp); omega
        have e : stepR ops R' st j = stepR ops R st j := by simp [stepR, R', hj]
        simp only [foldR, List.foldl_cons, e]
        exact ih _ (fun k hk => hl k (by simp [hk]))
    have hstep : stepR ops R' st i = (mu.app st).putO ops[i].dst v := by simp [stepR, R', ho]
    have hfold : ∀ k, foldR ops R' st (List.range' i (k + 1)) = foldR ops R ((mu.app st).putO ops[i].dst v) (List.range' (i + 1) k) := by
      intro k
      rw [List.range'_succ]
      simp only [foldR, List.foldl_cons]
      rw [hstep]
      exact hsame _ _ (fun j hj => by simp [List.mem_range'] at hj; omega)
    refine ⟨R', fun j hj hjn o hoj => ?_, fun j hj => ?_, by rw [hfold]; exact h4⟩
    · by_cases hji : j = i
      · subst hji
        rw [ho] at hoj; injection hoj with hoj; subst hoj
        simp only [Nat.sub_self, List.range'_zero, R', if_true]
        exact h1
      · have := h3 j (by omega) (by omega) o hoj
        have e : j - i = (j - (i + 1)) + 1 := by omega
        rw [e, hfold]
        simp only [R', if_neg hji]
        exact this
    · have hne : j ≠ i := by omega
      simp only [R', if_neg hne]
      exact h5 j (by omega)

theorem draw_pan {P : Program} {keep : Nat → Bool} {ops : Array Oper} {cl : List (List Nat)} {st0 : ASt} {R : Recs} (hd : DrawF ops cl) {m : Nat} (hm0 : m < ops.size) (hone0 : ∀ j, j < ops.size → ∀ o, ops[j]? = some o → One0 (foldR ops R st0 (List.range j)) o (R j).2)
    {skip : Nat → Bool} (hskip : ∀ j, skip j = true → j = m ∨ m ∈ cl.getD j []) (hone : ∀ j, j < ops.size → skip j = false → ∀ o, ops[j]? = some o → One P keep ops st0 (foldR ops R st0 (List.range j)) o (R j).1 (R j).2) {om : Oper} (hom : ops[m]? = some om) (hgm : om.guard = none) (hlm : ∀ st, loadOk st0 st om.op) (hcm : 1 ≤ drawClass om.op)
    {v : AV} (hpan : ∀ st', Agree om.op om.dst (foldR ops R st0 (List.range m)) st' → aop P keep st' om.dst om.op (fun _ _ => False) fun v' s => v' = v ∧ s = st')
    {c : Cx} {Q : Exit → ASt → Prop} {Qp : AV → ASt → Prop} (hQp : ∀ s : ASt, s.ext = (foldR ops R st0 (List.range m)).ext → Qp v s) :
    ∀ (fuel : Nat) (listed : Array Bool) (a : Act) (w : World) (g : Gh), listed.size = ops.size → Closed ops (fun j => listed.getD j false) → listed.getD m false = false → ((List.range ops.size).filter fun j => !listed.getD j false).length = fuel →
      Inv c g (atL ops R st0 fun j => listed.getD j false) w → Tm g w (atL ops R st0 fun j => listed.getD j false) a → a.defers = [] → wpAny P .any ops (QS c Q Qp) fuel listed a w := by
  have hdirect : ∀ {i : Nat} {o : Oper} {listed : Array Bool}, ops[i]? = some o → (∀ e ∈ o.after, Region.binds .any e = true → listed.getD e.on false = true) → ∀ d ∈ direct o, listed.getD d false = true := by
    intro i o listed ho h d hdd
    simp only [direct, List.mem_map, List.mem_filter] at hdd
    obtain ⟨e, ⟨he1, he2⟩, rfl⟩ := hdd
    exact h e (by simpa using he1) he2
  have getDeq : ∀ {listed : Array Bool} {i : Nat}, i < listed.size → listed.getD i true = listed.getD i false := by
    intro listed i hi
    simp [Array.getD, hi]
  have hready : ∀ {listed : Array Bool}, listed.size = ops.size → Region.ready .any ops listed = [] → ∀ i, i < ops.size → listed.getD i false = true := by
    intro listed hs hr i
    induction i using Nat.strongRecOn with
    | _ i ih =>
      intro hi
      cases hL : listed.getD i false with
      | true => rfl
      | false =>
        exfalso
        have hoi : ops[i]? = some ops[i] := Array.getElem?_eq_getElem hi
        have : i ∈ Region.ready .any ops listed := mem_ready.2 ⟨by rw [getDeq (by omega)]; exact hL, ops[i], hoi, fun e he hb => by
          have hdd : e.on ∈ direct ops[i] := List.mem_map.2 ⟨e, List.mem_filter.2 ⟨by simpa using he, hb⟩, rfl⟩
          have hlt := hd.low i ops[i] e.on hoi hdd
          exact ih e.on hlt (by omega)⟩
        rw [hr] at this
        cases this
  intro fuel
  induction fuel with
  | zero =>
    intro listed a w g hs hc hlm' hcnt hi hm hdf
    have hnil := List.eq_nil_of_length_eq_zero hcnt
    have : m ∈ (List.range ops.size).filter fun j => !listed.getD j false := List.mem_filter.2 ⟨by simpa using hm0, by simp [hlm']⟩
    rw [hnil] at this; cases this
  | succ fuel ih =>
    intro listed a w g hs hc hlm' hcnt hi hm hdf
    refine ⟨fun hr => (by have := hready hs hr m hm0; rw [hlm'] at this; cases this), fun i hir => ?_⟩
    obtain ⟨h1, o, ho, hpre⟩ := mem_ready.1 hir
    have hlt : i < ops.size := (Array.getElem?_eq_some_iff.1 ho).1
    rw [getDeq (by omega)] at h1
    have hr := hdirect ho hpre
    by_cases him : i = m
    rotate_left
    · have hski : skip i = false := by
        cases hh : skip i with
        | false => rfl
        | true =>
          exfalso
          rcases hskip i hh with h5 | h5
          · exact him h5
          · have := closed_cl hd hc i o ho hr m h5
            have this : listed.getD m false = true := this
            rw [hlm'] at this; cases this
      have h := hone i hlt hski o ho
      have hguard : ∀ j want d, o.guard = some (j, want) → (ops[j]?).bind (·.dst) = some d → (atL ops R st0 fun j => listed.getD j false).get d = (foldR ops R st0 (List.range i)).get d := by
        intro j want d hg hdj
        refine get_agree hd hc ho h1 hr ?_
        unfold Oper.looksAt
        refine List.mem_append_right _ ?_
        simp [hg, hdj]
      have hrun := h.run (atL ops R st0 fun j => listed.getD j false) (by
        rcases h.load with ⟨hmu, j, want, d, h2, h3, h4⟩ | hl
        · exact .inr ⟨hmu, j, want, d, h2, h3, h4⟩
        · exact .inl (agree hd hone0 hc ho h1 hr hl)) (by simp only [atL, foldR_n]) hguard
      have hst := hrun (fun s => s = stepR ops R (atL ops R st0 fun j => listed.getD j false) i) (by simp [stepR, ho])
      refine aop1_wp ho hi hm hdf hst ?_
      rintro st' g' w' a' hi' hm' hdf' rfl
      obtain ⟨q1, q2, q3, q4, q5⟩ := snoc_state hd hone0 hc ho h1 hr
      have hL : (fun j => (listed.setIfInBounds i true).getD j false) = fun j => listed.getD j false || j == i := by
        funext j
        by_cases hji : j = i
        · subst hji
          simp [Array.getD, hs, hlt]
        · have : (j == i) = false := beq_eq_false_iff_ne.2 hji
          rw [this, Bool.or_false, getD_set_ne false (fun e => hji e.symm)]
      refine ih (listed.setIfInBounds i true) a' w' g' (by simpa using hs) ?_ ?_ ?_ ?_ ?_ hdf'
      · rw [hL]
        intro k o' d hk hLk hdk
        simp only [Bool.or_eq_true, beq_iff_eq] at hLk ⊢
        rcases hLk with hLk | rfl
        · exact .inl (hc k o' d hk hLk hdk)
        · rw [ho] at hk; injection hk with hk; subst hk
          exact .inl (hr d hdk)
      · have := congrFun hL m
        rw [this, hlm', Bool.false_or]
        exact beq_eq_false_iff_ne.2 (fun e => him e.symm)
      · have := count_less hlt (L := fun j => listed.getD j false) h1 hcnt
        rw [← this]
        congr 1
        apply List.filter_congr
        intro j _
        exact congrArg not (congrFun hL j)
      · rw [hL]; exact hi'.cong q2 q3 q4
      · rw [hL]; exact hm'.cong q5 q1
    · subst him
      rw [hom] at ho; injection ho with ho; subst ho
      have hag := agree hd hone0 hc hom h1 hr (hlm _)
      have hext : (atL ops R st0 fun j => listed.getD j false).ext = (foldR ops R st0 (List.range i)).ext := by
        have hcl := fun j (hj : j < ops.size) o' (ho' : ops[j]? = some o') => (hone0 j hj o' ho').muok
        refine ext_agree hd hc hom h1 hr fun j k x hj o' ho' _ hmu => ?_
        have h2 := mu_class (hcl j hj o' ho') (by rw [hmu]; simp)
        have h3 := hd.cls j o' ho'
        rcases (show drawClass o'.op = 2 ∨ drawClass o'.op = 3 by omega) with h4 | h4
        · rcases (hcl j hj o' ho').2 h4 with h5 | ⟨d, _, ⟨x, h5⟩ | ⟨x, h5⟩⟩ <;> rw [hmu] at h5 <;> cases h5
        · exact not_class (by
            simp only [classOk, Bool.or_eq_false_iff, beq_eq_false_iff_ne, Bool.and_eq_false_iff, decide_eq_false_iff_not]; omega)
      have hp := hpan _ hag
      unfold wpOp
      simp only [hom, Region.wanted, hgm, if_true]
      left
      refine aop_wp hi hm hdf hp (fun v st' g' w' y _ _ _ h => h.elim) ?_
      rintro v' st' g' w' y h5 h6 h7 ⟨rfl, rfl⟩
      exact ⟨_, g', h5, h6, hdf, _, y, rfl, h7, hQp _ hext⟩

theorem cl_lt {ops : Array Oper} {cl : List (List Nat)} (hd : DrawF ops cl) (j : Nat) : ∀ (i : Nat) (o : Oper), ops[i]? = some o → j ∈ cl.getD i [] → j < i := by
  intro i
  induction i using Nat.strongRecOn with
  | _ i ih =>
    intro o ho h
    have hi : i < ops.size := (Array.getElem?_eq_some_iff.1 ho).1
    obtain ⟨d, h1, h2⟩ := hd.clo i o j ho h
    have h3 := hd.low i o d ho h1
    rcases h2 with rfl | h2
    · exact h3
    · have := ih d h3 ops[d] (Array.getElem?_eq_getElem (by omega)) h2
      omega
/-- As aopsD, where some are left out (their results are junk). -/
def aopsS (P : Program) (keep : Nat → Bool) (ops : Array Oper) (st0 : ASt) (skip : Nat → Bool) : Nat → List Oper → ASt → (ASt → Prop) → Prop
  | _, [], st, K => K st
  | i, o :: r, st, K => if skip i = true then aopsS P keep ops st0 skip (i + 1) r (st.putO o.dst .junk) K else aopsD P keep ops st0 [o] st fun s => aopsS P keep ops st0 skip (i + 1) r s K
theorem foldR_congr {ops : Array Oper} {R R' : Recs} : ∀ (l : List Nat) (st : ASt), (∀ j ∈ l, R j = R' j) → foldR ops R st l = foldR ops R' st l
  | [], _, _ => rfl
  | j :: r, st, h => by
    have e : stepR ops R st j = stepR ops R' st j := by simp [stepR, h j (by simp)]
    simp only [foldR, List.foldl_cons, e]
    exact foldR_congr r _ fun k hk => h k (by simp [hk])
theorem rec_preS {P : Program} {keep : Nat → Bool} {ops : Array Oper} {cl : List (List Nat)} (hd : DrawF ops cl) {st0 : ASt} {skip : Nat → Bool} : ∀ (m i : Nat) (st : ASt) (K : ASt → Prop), i + m ≤ ops.size → aopsS P keep ops st0 skip i ((ops.toList.drop i).take m) st K →
    ∃ R : Recs, (∀ j, i ≤ j → j < i + m → skip j = false → ∀ o, ops[j]? = some o → One P keep ops st0 (foldR ops R st (List.range' i (j - i))) o (R j).1 (R j).2) ∧ (∀ j, (i + m ≤ j ∨ skip j = true) → R j = (.junk, .none)) ∧ K (foldR ops R st (List.range' i m))
  | 0, i, st, K, hi, h => by
    exact ⟨fun _ => (.junk, .none), fun j h1 h2 => by omega, fun _ _ => rfl, by simpa [aopsS, foldR] using h⟩
  | m + 1, i, st, K, hi, h => by
    have hlt : i < ops.size := by omega
    have ho : ops[i]? = some ops[i] := Array.getElem?_eq_getElem hlt
    have hdrop : ops.toList.drop i = ops[i] :: ops.toList.drop (i + 1) := by
      rw [List.drop_eq_getElem_cons (by simpa using hlt)]; simp
    rw [hdrop, List.take_succ_cons] at h
    have key : ∃ v mu, (skip i = false → One P keep ops st0 st ops[i] v mu) ∧ (skip i = true → (v, mu) = (AV.junk, .none)) ∧ aopsS P keep ops st0 skip (i + 1) ((ops.toList.drop (i + 1)).take m) ((mu.app st).putO ops[i].dst v) K := by
      simp only [aopsS] at h
      split at h
      · rename_i hs
        exact ⟨.junk, .none, ⟨fun h5 => absurd (hs.symm.trans h5) (by decide), fun _ => rfl, h⟩⟩
      · rename_i hs
        obtain ⟨v, mu, h1, h2⟩ := rec_one (hd.cls i ops[i] ho) h
        exact ⟨v, mu, ⟨fun _ => h1, fun h => absurd h hs, h2⟩⟩
    obtain ⟨v, mu, h1, h1', h2⟩ := key
    obtain ⟨R, h3, h5, h4⟩ := rec_preS hd m (i + 1) _ K (by omega) h2
    let R' : Recs := fun j => if j = i then (v, mu) else R j
    have hsame : ∀ (l : List Nat) (st : ASt), (∀ j ∈ l, i < j) → foldR ops R' st l = foldR ops R st l := fun l st hl =>
      foldR_congr l st fun j hj => by
        have : j ≠ i := by have := hl j hj; omega
        simp [R', this]
    have hstep : stepR ops R' st i = (mu.app st).putO ops[i].dst v := by simp [stepR, R', ho]
    have hfold : ∀ k, foldR ops R' st (List.range' i (k + 1)) = foldR ops R ((mu.app st).putO ops[i].dst v) (List.range' (i + 1) k) := by
      intro k
      rw [List.range'_succ]
      simp only [foldR, List.foldl_cons]
      rw [hstep]
      exact hsame _ _ (fun j hj => by simp [List.mem_range'] at hj; omega)
    refine ⟨R', fun j hj hjn hsk o hoj => ?_, fun j hj => ?_, by rw [hfold]; exact h4⟩
    · by_cases hji : j = i
      · subst hji
        rw [ho] at hoj; injection hoj with hoj; subst hoj
        simp only [Nat.sub_self, List.range'_zero, R', if_true]
        exact h1 hsk
      · have := h3 j (by omega) (by omega) hsk o hoj
        have e : j - i = (j - (i + 1)) + 1 := by omega
        rw [e, hfold]
        simp only [R', if_neg hji]
        exact this
    · by_cases hji : j = i
      · subst hji
        simp only [R', if_true]
        rcases hj with hj | hj
        · omega
        · exact h1' hj
      · simp only [R', if_neg hji]
        exact h5 j (by rcases hj with hj | hj; exact .inl (by omega); exact .inr hj)
def ropsS (P : Program) (keep : Nat → Bool) (ops : Array Oper) (gs : List (Nat × Bool)) (st0 : ASt) (skip : Nat → Bool) : List Oper → Nat → ASt → Bool
  | [], _, _ => true
  | o :: r, i, st => if skip i = true then ropsS P keep ops gs st0 skip r (i + 1) (st.putO o.dst .junk) else match ropsD P keep ops [] gs st0 [o] i st with
    | some ([], st') => ropsS P keep ops gs st0 skip r (i + 1) st'
    | _ => false
theorem ropsS_ok {P : Program} {keep : Nat → Bool} {ops : Array Oper} {gs : List (Nat × Bool)} {st0 : ASt} {skip : Nat → Bool} : ∀ (l : List Oper) (i : Nat) (st : ASt), ropsS P keep ops gs st0 skip l i st = true → aopsS P keep ops st0 skip i l st fun _ => True
  | [], _, _, _ => trivial
  | o :: r, i, st, h => by
    simp only [ropsS] at h
    simp only [aopsS]
    split at h
    · rename_i hs
      rw [if_pos hs]
      exact ropsS_ok r _ _ h
    · rename_i hs
      rw [if_neg hs]
      split at h
      · rename_i st' he
        exact ropsD_ok _ _ _ he trivial (ropsS_ok r _ _ h)
      · cases h
def skipOf (ops : Array Oper) (m j : Nat) : Bool := j == m || ((waits ops).getD j []).contains m

def rpanD (P : Program) (keep : Nat → Bool) (ops : Array Oper) (hs : List (Nat × AV)) (gs : List (Nat × Bool)) (m : Nat) (v : AV) (st : ASt) : Option (List Prop × List (List AV)) :=
  match ropsD P keep ops hs gs st (ops.toList.take m) 0 st with
  | some (cs, st') => match ops[m]? with
    | some { op := .call { callee := .value x, args := args, argTypes := _ }, guard := none, .. } => match st'.ev x with
      | .func f caps => if ropsS P keep ops gs st (skipOf ops m) (ops.toList.drop m) m st' = true then some (Det P f ((args.toList.map st'.ev ++ caps).map AV.cl) (.panic v) :: cs, st'.ext) else none
      | _ => none
    | _ => none
  | none => none
def panOk (ops : Array Oper) (_ : Nat) : Bool := drawOk ops (waits ops)

/-- A region whose order is drawn, and in which the call m stops. -/
theorem awp_panD {P : Program} {Q : Exit → ASt → Prop} {Qp : AV → ASt → Prop} {st : ASt} {id : Nat} {ops : Array Oper} {cs : List Prop} {E : List (List AV)} (hmix : P.follows .mixedOrders = true) (keep : Nat → Bool) (hs : List (Nat × AV)) (gs : List (Nat × Bool)) (m : Nat) {v : AV}
    (hok : panOk ops m = true) (h : rpanD P keep ops hs gs m v st = some (cs, E)) (hc : allP cs) (hN : ∀ s : ASt, s.ext = E → Qp v s) : awp P (.region id ops true) Q Qp st := by
  have hd := drawOk_spec hok
  unfold rpanD at h
  split at h
  · rename_i c0 st1 hr
    split at h
    · rename_i om dst x args ts typ after pos hom
      split at h
      · rename_i f caps hx
        split at h
        rotate_left
        · cases h
        rename_i hsuf
        cases h
        obtain ⟨hdet, hc⟩ := hc
        have hm0 : m < ops.size := (Array.getElem?_eq_some_iff.1 hom).1
        intro c g w a hi hm hdf
        have hpre := ropsD_ok _ _ _ hr hc (K := fun s => s = st1) rfl
        obtain ⟨R1, h1, h2, h3⟩ := rec_pre hd m 0 st (fun s => s = st1) (by omega) (by simpa using hpre)
        simp only [Nat.zero_add, Nat.sub_zero, ← List.range_eq_range'] at h1 h2 h3
        have hsuf' := ropsS_ok _ _ _ hsuf
        have htk : (ops.toList.drop m).take (ops.size - m) = ops.toList.drop m := List.take_of_length_le (by simp)
        obtain ⟨R2, k1, k2, -⟩ := rec_preS hd (ops.size - m) m st1 (fun _ => True) (by omega) (by rw [htk]; exact hsuf')
        let R : Recs := fun j => if j < m then R1 j else R2 j
        have eR1 : ∀ j, j ≤ m → foldR ops R st (List.range j) = foldR ops R1 st (List.range j) := fun j hj => foldR_congr _ _ fun k hk => by
          have : k < m := by simp at hk; omega
          simp [R, this]
        have eR2 : ∀ j, m ≤ j → foldR ops R st (List.range j) = foldR ops R2 st1 (List.range' m (j - m)) := fun j hj => by
          have e : List.range j = List.range m ++ List.range' m (j - m) := by
            rw [List.range_eq_range', List.range_eq_range']
            have := List.range'_append (s := 0) (m := m) (n := j - m) (step := 1)
            simp only [Nat.zero_add, Nat.one_mul] at this
            rw [this]; congr 1; omega
          have h4 : foldR ops R st (List.range m) = st1 := by rw [eR1 m (Nat.le_refl _), h3]
          have : foldR ops R st (List.range m ++ List.range' m (j - m)) = foldR ops R (foldR ops R st (List.range m)) (List.range' m (j - m)) := by simp [foldR, List.foldl_append]
          rw [e, this, h4]
          exact foldR_congr _ _ fun k hk => by
            have : ¬ k < m := by simp [List.mem_range'] at hk; omega
            simp [R, this]
        have hone : ∀ j, j < ops.size → skipOf ops m j = false → ∀ o, ops[j]? = some o → One P keep ops st (foldR ops R st (List.range j)) o (R j).1 (R j).2 := by
          intro j hj hsk o ho
          by_cases hjm : j < m
          · rw [eR1 j (by omega)]
            have := h1 j (Nat.zero_le _) hjm o ho
            simpa [R, hjm] using this
          · rw [eR2 j (by omega)]
            have := k1 j (by omega) (by omega) hsk o ho
            simpa [R, hjm] using this
        have h3 : foldR ops R st (List.range m) = st1 := by rw [eR1 m (Nat.le_refl _), h3]
        obtain ⟨hi1, hg1⟩ := hi.same (Same.drew w)
        have hL : (fun j => (Array.replicate ops.size false).getD j false) = fun _ => false := by
          funext j
          simp only [Array.getD]
          split <;> simp
        refine wp_region_any hmix (draw_pan (R := R) (cl := waits ops) (st0 := st) (v := v) hd hm0 (skip := skipOf ops m) (fun j hj o ho => ?_) (fun j hj => ?_) hone hom rfl (fun _ => trivial) (Nat.le_refl 1) ?_ ?_ ops.size (Array.replicate ops.size false) a w.drew g (by simp) ?_ (congrFun hL m) ?_ ?_ ?_ hdf)
        · cases hsk : skipOf ops m j with
          | false => exact (hone j hj hsk o ho).zero
          | true =>
            have hjm : ¬ j < m := by
              intro hjm
              simp only [skipOf, Bool.or_eq_true, beq_iff_eq, List.contains_iff_mem] at hsk
              rcases hsk with h5 | h5
              · omega
              · have := cl_lt hd m j o ho h5; omega
            have : R j = (.junk, .none) := by simp only [R, if_neg hjm]; exact k2 j (.inr hsk)
            rw [this]
            exact ⟨⟨fun _ => rfl, fun _ => .inl rfl⟩, fun _ d x he => by cases he⟩
        · simpa [skipOf] using hj
        · intro st' hag
          rw [h3] at hag
          have e1 : st'.ev x = st1.ev x := hag.ev x (by simp [Op.operands, Call.operands])
          have ha : args.toList.map st'.ev = args.toList.map st1.ev := List.map_congr_left fun y hy => hag.ev y (by simp [Op.operands, Call.operands, Array.mem_toList_iff.1 hy])
          simp only [aop, acall, e1, hx, ha]
          exact ⟨_, hdet, by simp⟩
        · intro s hs
          rw [h3] at hs
          exact hN s hs
        · rw [hL]; intro i o d _ h; cases h
        · have h5 : ((List.range ops.size).filter fun j => !(Array.replicate ops.size false).getD j false) = List.range ops.size := by
            rw [List.filter_eq_self]
            intro j _
            have h6 : (Array.replicate ops.size false).getD j false = false := congrFun hL j
            rw [h6]; rfl
          rw [h5, List.length_range]
        · rw [hL]
          have : atL ops R st (fun _ => false) = st := by unfold atL; rw [List.filter_eq_nil_iff.2 (fun _ _ => by simp)]; rfl
          rw [this]; exact hi1
        · rw [hL]
          have : atL ops R st (fun _ => false) = st := by unfold atL; rw [List.filter_eq_nil_iff.2 (fun _ _ => by simp)]; rfl
          rw [this]; exact hm.mono hg1
      · cases h
    · cases h
  · cases h
end Go.Proofs.Eng
