/- A region whose order Go leaves open. -/
import Derived.Test.YtdolhcmhdjmoeaaGreatDoorEngK
set_option linter.unusedSimpArgs false
set_option linter.unusedVariables false
namespace Go.Proofs.Eng
open Go

/-! ### Folding what operations wrote -/
abbrev Recs := Nat → AV × MU
def stepR (ops : Array Oper) (R : Recs) (st : ASt) (i : Nat) : ASt := ((R i).2.app st).putO ((ops[i]?).bind (·.dst)) (R i).1
def foldR (ops : Array Oper) (R : Recs) (st : ASt) (l : List Nat) : ASt := l.foldl (stepR ops R) st

theorem foldl_skip {α : Type} (f : α → Nat → α) (p : Nat → Bool) (h : ∀ a i, p i = false → f a i = a) : ∀ (l : List Nat) (a : α), l.foldl f a = (l.filter p).foldl f a
  | [], a => rfl
  | i :: r, a => by
    cases hp : p i with
    | true => simp only [List.foldl_cons, List.filter_cons, hp, if_true]; exact foldl_skip f p h r _
    | false => simp only [List.foldl_cons, List.filter_cons, hp, Bool.false_eq_true, if_false]; rw [h a i hp]; exact foldl_skip f p h r a

theorem app_get (mu : MU) (st : ASt) (t : Nat) : (mu.app st).get t = st.get t := by cases mu <;> rfl
theorem app_n (mu : MU) (st : ASt) : (mu.app st).n = st.n := by cases mu <;> rfl
theorem putO_vars (st : ASt) (d : Option Tmp) (v : AV) : (st.putO d v).vars = st.vars ∧ (st.putO d v).ext = st.ext ∧ (st.putO d v).fronts = st.fronts ∧ (st.putO d v).n = st.n := by cases d <;> exact ⟨rfl, rfl, rfl, rfl⟩
theorem putO_get (st : ASt) (d : Option Tmp) (v : AV) (t : Nat) : (st.putO d v).get t = if d = some t then v else st.get t := by
  cases d with
  | none => simp [ASt.putO]
  | some d =>
    simp only [ASt.putO, ASt.put, ASt.get, look, Option.some.injEq]
    split <;> rfl

def fGet (ops : Array Oper) (R : Recs) (t : Nat) (a : AV) (i : Nat) : AV := if (ops[i]?).bind (·.dst) = some t then (R i).1 else a
def fVar (R : Recs) (k : Nat) (a : Option (Bool × List AV)) (i : Nat) : Option (Bool × List AV) := match (R i).2 with
  | .v k' x => if k' = k then some x else a
  | _ => a
def fFr (R : Recs) (k : Nat) (a : Option (TypeId × Nat × Nat)) (i : Nat) : Option (TypeId × Nat × Nat) := match (R i).2 with
  | .f k' x => if k' = k then some x else a
  | _ => a
def fExt (R : Recs) (a : List (List AV)) (i : Nat) : List (List AV) := match (R i).2 with
  | .e j cs => a.set j cs
  | _ => a

theorem foldR_get (ops : Array Oper) (R : Recs) (t : Nat) : ∀ (l : List Nat) (st : ASt), (foldR ops R st l).get t = l.foldl (fGet ops R t) (st.get t)
  | [], st => rfl
  | i :: r, st => by
    have ih := foldR_get ops R t r (stepR ops R st i)
    simp only [foldR, List.foldl_cons] at ih ⊢
    rw [ih]
    congr 1
    simp only [stepR, putO_get, app_get, fGet]
theorem foldR_n (ops : Array Oper) (R : Recs) : ∀ (l : List Nat) (st : ASt), (foldR ops R st l).n = st.n
  | [], st => rfl
  | i :: r, st => by
    have ih := foldR_n ops R r (stepR ops R st i)
    simp only [foldR, List.foldl_cons] at ih ⊢
    rw [ih]
    simp only [stepR, (putO_vars _ _ _).2.2.2, app_n]
theorem foldR_var (ops : Array Oper) (R : Recs) (k : Nat) : ∀ (l : List Nat) (st : ASt), look (foldR ops R st l).vars k = l.foldl (fVar R k) (look st.vars k)
  | [], st => rfl
  | i :: r, st => by
    have ih := foldR_var ops R k r (stepR ops R st i)
    simp only [foldR, List.foldl_cons] at ih ⊢
    rw [ih]
    congr 1
    simp only [stepR, (putO_vars _ _ _).1, fVar]
    cases (R i).2 <;> simp [MU.app, look]
theorem foldR_fr (ops : Array Oper) (R : Recs) (k : Nat) : ∀ (l : List Nat) (st : ASt), look (foldR ops R st l).fronts k = l.foldl (fFr R k) (look st.fronts k)
  | [], st => rfl
  | i :: r, st => by
    have ih := foldR_fr ops R k r (stepR ops R st i)
    simp only [foldR, List.foldl_cons] at ih ⊢
    rw [ih]
    congr 1
    simp only [stepR, (putO_vars _ _ _).2.2.1, fFr]
    cases (R i).2 <;> simp [MU.app, look]
theorem foldR_ext (ops : Array Oper) (R : Recs) : ∀ (l : List Nat) (st : ASt), (foldR ops R st l).ext = l.foldl (fExt R) st.ext
  | [], st => rfl
  | i :: r, st => by
    have ih := foldR_ext ops R r (stepR ops R st i)
    simp only [foldR, List.foldl_cons] at ih ⊢
    rw [ih]
    congr 1
    simp only [stepR, (putO_vars _ _ _).2.1, fExt]
    cases (R i).2 <;> simp [MU.app]

/-- The part of a row of numbers. -/
theorem range_part {n i : Nat} (h : i ≤ n) : (List.range n).filter (fun j => decide (j < i)) = List.range i := by
  induction n with
  | zero => have : i = 0 := by omega
            subst this; rfl
  | succ n ih =>
    rw [List.range_succ, List.filter_append]
    by_cases hi : i ≤ n
    · rw [ih hi]; simp; omega
    · have : i = n + 1 := by omega
      subst this
      rw [List.range_succ]
      congr 1
      · rw [List.filter_eq_self]; intro a ha; simp at ha ⊢; omega
      · simp

theorem fold_same {α : Type} {f : α → Nat → α} {p : Nat → Bool} (hf : ∀ a i, p i = false → f a i = a) {n i : Nat} (hi : i ≤ n) {L : Nat → Bool} (h : ∀ j, j < n → p j = true → (L j = true ↔ j < i)) (a : α) :
    ((List.range n).filter L).foldl f a = (List.range i).foldl f a := by
  rw [foldl_skip f p hf, foldl_skip f p hf (List.range i), ← range_part hi, List.filter_filter, List.filter_filter]
  congr 1
  apply List.filter_congr
  intro j hj
  have hj' : j < n := by simpa using hj
  by_cases hp : p j = true
  · have := h j hj' hp
    rw [Bool.eq_iff_iff]; simp [hp]; exact this
  · simp [hp]

theorem fold_snoc {α : Type} {f : α → Nat → α} {p : Nat → Bool} (hf : ∀ a i, p i = false → f a i = a) {n i : Nat} (hi : i < n) {L : Nat → Bool} (hL : L i = false) (h : p i = true → ∀ j, j < n → j ≠ i → p j = true → (L j = true ↔ j < i)) (a : α) :
    ((List.range n).filter fun j => L j || j == i).foldl f a = f (((List.range n).filter L).foldl f a) i := by
  cases hp : p i with
  | false =>
    rw [hf _ i hp, foldl_skip f p hf, foldl_skip f p hf ((List.range n).filter L), List.filter_filter, List.filter_filter]
    congr 1
    apply List.filter_congr
    intro j hj
    by_cases he : j = i
    · subst he; simp only [hp, Bool.and_false, Bool.false_and]
    · have h2 : (j == i) = false := beq_eq_false_iff_ne.2 he
      simp only [h2, Bool.or_false]
  | true =>
    rw [fold_same hf (Nat.succ_le_of_lt hi) (L := fun j => L j || j == i), fold_same hf (Nat.le_of_lt hi) (L := L)]
    · rw [List.range_succ, List.foldl_append]; rfl
    · intro j hj hpj
      by_cases he : j = i
      · subst he; simp [hL]
      · exact h hp j hj he hpj
    · intro j hj hpj
      by_cases he : j = i
      · subst he; simp
      · have := h hp j hj he hpj
        simp only [Bool.or_eq_true, beq_iff_eq, he, or_false]
        rw [this]; omega

/-! ### Which orders may be -/
def classOk (a b : Nat) : Bool := a == 0 || b == 0 || (decide (a ≤ 2) && decide (b ≤ 2))
def commB (ops : Array Oper) (x y : Oper) : Bool := x.apart ops y && classOk (drawClass x.op) (drawClass y.op)
def direct (o : Oper) : List Nat := (o.after.toList.filter fun e => Region.binds .any e).map (·.on)
/-- The region's order is told by a table of what each operation waits for, through others. -/
def drawOk (ops : Array Oper) (cl : List (List Nat)) : Bool :=
  (List.range ops.size).all fun i => match ops[i]? with
    | none => false
    | some o => decide (drawClass o.op ≤ 3) && (direct o).all (fun d => decide (d < i)) && ((cl.getD i []).all fun j => (direct o).any fun d => d == j || (cl.getD d []).contains j) &&
      (List.range i).all fun j => (cl.getD i []).contains j || match ops[j]? with
        | none => false
        | some o' => commB ops o' o

theorem apart_comm {ops : Array Oper} {x y : Oper} (h : x.apart ops y = true) : y.apart ops x = true := by
  obtain ⟨h1, h2, h3⟩ := Oper.apart_spec h
  unfold Oper.apart
  rw [Bool.and_eq_true]
  constructor
  · cases hy : y.dst with
    | none => rfl
    | some d =>
      simp only [Bool.and_eq_true, Bool.not_eq_true', bne_iff_ne, ne_eq]
      refine ⟨by simpa using h3 d hy, fun hx => h2 d hx hy⟩
  · cases hx : x.dst with
    | none => rfl
    | some d => simpa using h1 d hx
theorem classOk_comm {a b : Nat} (h : classOk a b = true) : classOk b a = true := by
  simp only [classOk, Bool.or_eq_true, Bool.and_eq_true, beq_iff_eq, decide_eq_true_eq] at *
  omega

structure DrawF (ops : Array Oper) (cl : List (List Nat)) : Prop where
  cls : ∀ (i : Nat) (o : Oper), ops[i]? = some o → drawClass o.op ≤ 3
  low : ∀ (i : Nat) (o : Oper) (d : Nat), ops[i]? = some o → d ∈ direct o → d < i
  clo : ∀ (i : Nat) (o : Oper) (j : Nat), ops[i]? = some o → j ∈ cl.getD i [] → ∃ d ∈ direct o, d = j ∨ j ∈ cl.getD d []
  pair : ∀ (i j : Nat) (o o' : Oper), ops[i]? = some o → ops[j]? = some o' → j < i → j ∈ cl.getD i [] ∨ commB ops o' o = true

theorem drawOk_spec {ops : Array Oper} {cl : List (List Nat)} (h : drawOk ops cl = true) : DrawF ops cl := by
  have key : ∀ (i : Nat) (o : Oper), ops[i]? = some o → drawClass o.op ≤ 3 ∧ (∀ d ∈ direct o, d < i) ∧ (∀ j ∈ cl.getD i [], ∃ d ∈ direct o, d = j ∨ j ∈ cl.getD d []) ∧ ∀ j, j < i → j ∈ cl.getD i [] ∨ ∃ o', ops[j]? = some o' ∧ commB ops o' o = true := by
    intro i o ho
    have hi : i < ops.size := (Array.getElem?_eq_some_iff.1 ho).1
    have := List.all_eq_true.1 h i (by simpa using hi)
    simp only [ho, Bool.and_eq_true, decide_eq_true_eq, List.all_eq_true, List.any_eq_true, Bool.or_eq_true, beq_iff_eq, List.contains_iff_mem, List.mem_range] at this
    obtain ⟨⟨⟨h1, h2⟩, h3⟩, h4⟩ := this
    refine ⟨h1, h2, h3, fun j hj => ?_⟩
    rcases h4 j hj with h5 | h5
    · exact .inl h5
    · cases hoj : ops[j]? with
      | none => simp [hoj] at h5
      | some o' => simp only [hoj] at h5; exact .inr ⟨o', rfl, h5⟩
  refine ⟨fun i o ho => (key i o ho).1, fun i o d ho hd => (key i o ho).2.1 d hd, fun i o j ho hj => (key i o ho).2.2.1 j hj, fun i j o o' ho ho' hj => ?_⟩
  rcases (key i o ho).2.2.2 j hj with h1 | ⟨o'', h1, h2⟩
  · exact .inl h1
  · rw [ho'] at h1; injection h1 with h1; subst h1; exact .inr h2

/-- Listed with all that it waits for. -/
def Closed (ops : Array Oper) (L : Nat → Bool) : Prop := ∀ (i : Nat) (o : Oper) (d : Nat), ops[i]? = some o → L i = true → d ∈ direct o → L d = true

theorem closed_cl {ops : Array Oper} {cl : List (List Nat)} (hd : DrawF ops cl) {L : Nat → Bool} (hc : Closed ops L) : ∀ (i : Nat) (o : Oper), ops[i]? = some o → (∀ d ∈ direct o, L d = true) → ∀ j ∈ cl.getD i [], L j = true := by
  intro i
  induction i using Nat.strongRecOn with
  | _ i ih =>
    intro o ho hall j hj
    obtain ⟨d, hd1, hd2⟩ := hd.clo i o j ho hj
    rcases hd2 with rfl | hd2
    · exact hall d hd1
    · have hlt := hd.low i o d ho hd1
      have hi : i < ops.size := (Array.getElem?_eq_some_iff.1 ho).1
      have hdo : ops[d]? = some ops[d] := Array.getElem?_eq_getElem (by omega)
      exact ih d hlt ops[d] hdo (fun d' hd' => hc d ops[d] d' hdo (hall d hd1) hd') j hd2

/-- Two that do not commute stand in the text's order. -/
theorem ordered {ops : Array Oper} {cl : List (List Nat)} (hd : DrawF ops cl) {L : Nat → Bool} (hc : Closed ops L) {i : Nat} {o : Oper} (ho : ops[i]? = some o) (hi : L i = false) (hr : ∀ d ∈ direct o, L d = true) {j : Nat} {o' : Oper} (ho' : ops[j]? = some o') (hne : j ≠ i)
    (hn : commB ops o' o = false) : L j = true ↔ j < i := by
  constructor
  · intro hj
    rcases Nat.lt_or_ge j i with h | h
    · exact h
    · have hlt : i < j := by omega
      rcases hd.pair j i o' o ho' ho hlt with h1 | h1
      · have := closed_cl hd hc j o' ho' (fun d hd' => hc j o' d ho' hj hd') i h1
        rw [hi] at this; cases this
      · simp only [commB, Bool.and_eq_true] at h1
        have : commB ops o' o = true := by simp only [commB, Bool.and_eq_true]; exact ⟨apart_comm h1.1, classOk_comm h1.2⟩
        rw [hn] at this; cases this
  · intro hlt
    rcases hd.pair i j o o' ho ho' hlt with h1 | h1
    · exact closed_cl hd hc i o ho hr j h1
    · rw [hn] at h1; cases h1

/-! ### The walk of such a region -/
/-- What is asked of a load: that it reads no variable which the region itself makes. -/
def loadOk (st0 st : ASt) : Op → Prop
  | .load _ p => match st.ev p with
    | .varp k _ => look st0.vars k ≠ none
    | _ => True
  | _ => True

def aopsD (P : Program) (keep : Nat → Bool) (ops : Array Oper) (st0 : ASt) : List Oper → ASt → (ASt → Prop) → Prop
  | [], st, K => K st
  | o :: r, st, K => match o.guard with
    | none => loadOk st0 st o.op ∧ aop P keep st o.dst o.op (fun v st' => dstOk st' o.dst ∧ aopsD P keep ops st0 r (st'.putO o.dst v) K) fun _ _ => False
    | some (j, want) => match (ops[j]?).bind (·.dst) with
      | some d => d < st.n ∧ match st.get d with
        | .val (.bool b) => if b = want then loadOk st0 st o.op ∧ aop P keep st o.dst o.op (fun v st' => dstOk st' o.dst ∧ aopsD P keep ops st0 r (st'.putO o.dst v) K) fun _ _ => False
          else dstOk st o.dst ∧ aopsD P keep ops st0 r (st.putO o.dst .undef) K
        | .tuple [] => dstOk st o.dst ∧ aopsD P keep ops st0 r (st.putO o.dst .undef) K
        | _ => False
      | none => False

/-- One operation, from whatever state that agrees with this one where it looks. -/
structure One (P : Program) (keep : Nat → Bool) (ops : Array Oper) (st0 st : ASt) (o : Oper) (v : AV) (mu : MU) : Prop where
  muok : muOk o.op o.dst mu
  fresh : freshOk o.op st mu
  load : (mu = .none ∧ ∃ j want d, o.guard = some (j, want) ∧ (ops[j]?).bind (·.dst) = some d ∧ skipB (st.get d) want = true) ∨ loadOk st0 st o.op
  run : ∀ st', Agree o.op o.dst st st' ∨ mu = .none ∧ (∃ j want d, o.guard = some (j, want) ∧ (ops[j]?).bind (·.dst) = some d ∧ skipB (st.get d) want = true) → st'.n = st.n →
    (∀ j want d, o.guard = some (j, want) → (ops[j]?).bind (·.dst) = some d → st'.get d = st.get d) → ∀ K : ASt → Prop, K ((mu.app st').putO o.dst v) → aops P keep ops [o] st' K fun _ _ => False

theorem rec_one {P : Program} {keep : Nat → Bool} {ops : Array Oper} {st0 st : ASt} {o : Oper} {r : List Oper} {K : ASt → Prop} (hc : drawClass o.op ≤ 3) (h : aopsD P keep ops st0 (o :: r) st K) :
    ∃ v mu, One P keep ops st0 st o v mu ∧ aopsD P keep ops st0 r ((mu.app st).putO o.dst v) K := by
  simp only [aopsD] at h
  split at h
  · rename_i hg
    obtain ⟨hl, h⟩ := h
    obtain ⟨v, mu, ⟨h1, h2⟩, h3, h4, h5⟩ := aop_rec h hc
    refine ⟨v, mu, ⟨h3, h4, .inr hl, fun st' hag hn hgd K' hK => ?_⟩, h2⟩
    simp only [aops, hg]
    rcases hag with hag | ⟨_, j, want, d, hgg, _⟩
    · refine h5 st' hag _ ⟨?_, hK⟩
      unfold dstOk at h1 ⊢
      cases hd : o.dst with
      | none => trivial
      | some d => simp only [hd, app_n] at h1 ⊢; rw [hn]; exact h1
    · rw [hg] at hgg; cases hgg
  · rename_i j want hg
    split at h
    · rename_i d hd
      obtain ⟨hdn, h⟩ := h
      split at h
      · rename_i b hb
        split at h
        · rename_i hbw
          obtain ⟨hl, h⟩ := h
          obtain ⟨v, mu, ⟨h1, h2⟩, h3, h4, h5⟩ := aop_rec h hc
          refine ⟨v, mu, ⟨h3, h4, .inr hl, fun st' hag hn hgd K' hK => ?_⟩, h2⟩
          have hgs := hgd j want d hg hd
          simp only [aops, hg, hd, hgs, hb, hbw, if_true, hn]
          refine ⟨hdn, ?_⟩
          rcases hag with hag | ⟨_, j', want', d', hgg, hdd, hbb⟩
          · refine h5 st' hag _ ⟨?_, hK⟩
            unfold dstOk at h1 ⊢
            cases hdo : o.dst with
            | none => trivial
            | some d => simp only [hdo, app_n] at h1 ⊢; rw [hn]; exact h1
          · rw [hg] at hgg; injection hgg with hgg; injection hgg with e1 e2; subst e1 e2
            rw [hd] at hdd; injection hdd with hdd; subst hdd
            rw [hb] at hbb; simp [skipB, hbw] at hbb
        · rename_i hbw
          refine ⟨.undef, .none, ⟨⟨fun _ => rfl, fun _ => .inl rfl⟩, (fun _ d x he => by cases he), .inl ⟨rfl, j, want, d, hg, hd, by rw [hb]; simpa [skipB] using hbw⟩, fun st' hag hn hgd K' hK => ?_⟩, h.2⟩
          · have hgs := hgd j want d hg hd
            simp only [aops, hg, hd, hgs, hb, if_neg hbw, hn]
            refine ⟨hdn, ?_, hK⟩
            have h1 := h.1
            unfold dstOk at h1 ⊢
            cases hdo : o.dst with
            | none => trivial
            | some d => simp only [hdo] at h1 ⊢; rw [hn]; exact h1
      · rename_i hb
        refine ⟨.undef, .none, ⟨⟨fun _ => rfl, fun _ => .inl rfl⟩, (fun _ d x he => by cases he), .inl ⟨rfl, j, want, d, hg, hd, by rw [hb]; rfl⟩, fun st' hag hn hgd K' hK => ?_⟩, h.2⟩
        have hgs := hgd j want d hg hd
        simp only [aops, hg, hd, hgs, hb, hn]
        refine ⟨hdn, ?_, hK⟩
        have h1 := h.1
        unfold dstOk at h1 ⊢
        cases hdo : o.dst with
        | none => trivial
        | some d => simp only [hdo] at h1 ⊢; rw [hn]; exact h1
      · exact h.elim
    · exact h.elim

/-- All operations of the text's order, each from the state that those ahead of it leave. -/
theorem rec_all {P : Program} {keep : Nat → Bool} {ops : Array Oper} {cl : List (List Nat)} (hd : DrawF ops cl) {st0 : ASt} : ∀ (m i : Nat) (st : ASt) (K : ASt → Prop), i + m = ops.size → aopsD P keep ops st0 (ops.toList.drop i) st K →
    ∃ R : Recs, (∀ j, i ≤ j → j < ops.size → ∀ o, ops[j]? = some o → One P keep ops st0 (foldR ops R st (List.range' i (j - i))) o (R j).1 (R j).2) ∧ K (foldR ops R st (List.range' i m))
  | 0, i, st, K, hi, h => by
    have : ops.toList.drop i = [] := List.drop_eq_nil_of_le (by simp; omega)
    rw [this] at h
    exact ⟨fun _ => (.junk, .none), fun j h1 h2 => by omega, h⟩
  | m + 1, i, st, K, hi, h => by
    have hlt : i < ops.size := by omega
    have ho : ops[i]? = some ops[i] := Array.getElem?_eq_getElem hlt
    have hdrop : ops.toList.drop i = ops[i] :: ops.toList.drop (i + 1) := by
      rw [List.drop_eq_getElem_cons (by simpa using hlt)]; simp
    rw [hdrop] at h
    obtain ⟨v, mu, h1, h2⟩ := rec_one (hd.cls i ops[i] ho) h
    obtain ⟨R, h3, h4⟩ := rec_all hd m (i + 1) _ K (by omega) h2
    let R' : Recs := fun j => if j = i then (v, mu) else R j
    have hsame : ∀ (l : List Nat) (st : ASt), (∀ j ∈ l, i < j) → foldR ops R' st l = foldR ops R st l := by
      intro l
      induction l with
      | nil => intro st _; rfl
      | cons j r ih =>
        intro st hl
        have hj : j ≠ i := by have := hl j (by simp); omega
        have e : stepR ops R' st j = stepR ops R st j := by simp [stepR, R', hj]
        simp only [foldR, List.foldl_cons, e]
        exact ih _ (fun k hk => hl k (by simp [hk]))
    have hstep : stepR ops R' st i = (mu.app st).putO ops[i].dst v := by simp [stepR, R', ho]
    have hfold : ∀ k, foldR ops R' st (List.range' i (k + 1)) = foldR ops R ((mu.app st).putO ops[i].dst v) (List.range' (i + 1) k) := by
      intro k
      rw [List.range'_succ]
      simp only [foldR, List.foldl_cons]
      rw [hstep]
      exact hsame _ _ (fun j hj => by simp [List.mem_range'] at hj; omega)
    refine ⟨R', fun j hj hjn o hoj => ?_, by rw [hfold]; exact h4⟩
    by_cases hji : j = i
    · subst hji
      rw [ho] at hoj; injection hoj with hoj; subst hoj
      simp only [Nat.sub_self, List.range'_zero, R', if_true]
      exact h1
    · have := h3 j (by omega) hjn o hoj
      have e : j - i = (j - (i + 1)) + 1 := by omega
      rw [e, hfold]
      simpa only [R', hji, if_false] using this

theorem Inv.cong {c : Cx} {g : Gh} {st st' : ASt} {w : World} (hi : Inv c g st w) (hv : ∀ k, look st'.vars k = look st.vars k) (hf : ∀ k, look st'.fronts k = look st.fronts k) (he : st'.ext = st.ext) : Inv c g st' w :=
  ⟨hi.since, hi.eb, hi.nodup, hi.ebl, hi.vbl, hi.frl, fun i z cs h => hi.var i z cs ((hv i).symm.trans h), fun i b h => by rw [hv]; exact hi.vdom i b h, by rw [he]; exact hi.ext, fun id t k n h => hi.fr id t k n ((hf id).symm.trans h), fun id e h => by rw [hf]; exact hi.fdom id e h, hi.vinj, hi.finj, hi.vf, hi.dlt⟩
theorem Tm.cong {g : Gh} {w : World} {st st' : ASt} {a : Act} (h : Tm g w st a) (hn : st'.n = st.n) (ht : ∀ t, st'.get t = st.get t) : Tm g w st' a := ⟨h.1.trans hn.symm, fun t => by rw [ht]; exact h.2 t⟩

/-- One operation of the walk is one of the machine's. -/
theorem aop1_wp {P : Program} {keep : Nat → Bool} {c : Cx} {ops : Array Oper} {i : Nat} {o : Oper} (ho : ops[i]? = some o) {st : ASt} {g : Gh} {w : World} {a : Act} (hi : Inv c g st w) (hm : Tm g w st a) (hd : a.defers = []) {K : ASt → Prop}
    (h : aops P keep ops [o] st K fun _ _ => False) {Q' : Exit → Act → World → Prop} {next : Act → World → Prop} (hn : ∀ st' g' w' a', Inv c g' st' w' → Tm g' w' st' a' → a'.defers = [] → K st' → next a' w') : wpOp P ops Q' i next a w := by
  unfold wpOp
  simp only [ho]
  simp only [aops] at h
  have step : aop P keep st o.dst o.op (fun v st' => dstOk st' o.dst ∧ K (st'.putO o.dst v)) (fun _ _ => False) → o.wp P a w next Q' := by
    intro h
    refine aop_wp hi hm hd h ?_ ?_
    · rintro v st' g' w' y h1 h2 h3 ⟨h4, h5⟩
      exact hn _ g' w' _ (h1.putO _ _) (h2.putO h4 h3) (by rw [put_defers]; exact hd) h5
    · intro v st' g' w' y h1 h2 h3 h4
      exact h4.elim
  split at h
  · rename_i hgd
    simp only [Region.wanted, hgd, if_true]
    exact .inl (step h)
  · rename_i j want hgd
    split at h
    · rename_i d hdj
      obtain ⟨hdn, h⟩ := h
      split at h
      · rename_i b hb
        have hv := hm.2 d
        rw [hb] at hv
        obtain ⟨hpl, _⟩ := hv.plain_of
        have hy : yielded ops a.tmps j = some b := by
          unfold yielded
          have hlt : d < a.tmps.size := by rw [hm.1]; exact hdn
          have : a.tmps[d]? = some (.bool b) := by
            rw [Array.getElem?_eq_getElem hlt]
            simp [Array.getD, hlt] at hpl
            rw [hpl]
          simp [hdj, this]
        simp only [Region.wanted, hgd, hy]
        split at h
        · rename_i hbw
          subst hbw
          simp only [beq_self_eq_true, if_true]
          exact .inl (step h)
        · rename_i hbw
          have : (some b == some want) = false := by simpa using hbw
          simp only [this, Bool.false_eq_true, if_false]
          exact hn _ g w _ (hi.putO _ _) (hm.putO h.1 (undef_vr _ _)) (by rw [put_defers]; exact hd) h.2
      · rename_i hb
        have hv := hm.2 d
        rw [hb] at hv
        have hx := undef_of hv
        have hy : yielded ops a.tmps j = none := by
          unfold yielded
          have hlt : d < a.tmps.size := by rw [hm.1]; exact hdn
          have : a.tmps[d]? = some Go.undef := by
            rw [Array.getElem?_eq_getElem hlt]
            simp [Array.getD, hlt] at hx
            rw [hx]
          simp [hdj, this, Go.undef]
        simp only [Region.wanted, hgd, hy]
        have : ((none : Option Bool) == some want) = false := rfl
        simp only [this, Bool.false_eq_true, if_false]
        exact hn _ g w _ (hi.putO _ _) (hm.putO h.1 (undef_vr _ _)) (by rw [put_defers]; exact hd) h.2
      · exact h.elim
    · exact h.elim
end Go.Proofs.Eng
