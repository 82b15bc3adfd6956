/- The walk by reckoning, last part: regions; what weaker worths may stand for. -/
import Derived.Test.YtdolhcmhdjmoeaaGreatDoorEngP
set_option linter.unusedSimpArgs false
set_option linter.unusedVariables false
namespace Go.Proofs.Eng
open Go

/-- The slots that are still wanted. -/
def keepT {α : Type} (l : List (Nat × α)) (ks : List Nat) : List (Nat × α) := ks.filterMap fun k => (look l k).map fun v => (k, v)
def dedup {α : Type} : List (Nat × α) → List Nat → List (Nat × α)
  | [], _ => []
  | (i, v) :: r, seen => if seen.contains i then dedup r seen else (i, v) :: dedup r (i :: seen)

theorem look_keepT {α : Type} (l : List (Nat × α)) : ∀ (ks : List Nat) (t : Nat), look (keepT l ks) t = if t ∈ ks then look l t else none
  | [], t => by simp [keepT, look]
  | k :: ks, t => by
    have ih := look_keepT l ks t
    unfold keepT at ih ⊢
    rw [List.filterMap_cons]
    cases hk : look l k with
    | none =>
      simp only [Option.map_none]
      rw [ih]
      by_cases e : t = k
      · subst e; simp [hk]
      · simp [e]
    | some v =>
      simp only [Option.map_some, look]
      by_cases e : k = t
      · subst e; simp [hk]
      · rw [if_neg e, ih]
        have : t ≠ k := fun h => e h.symm
        simp [this]

theorem look_dedup {α : Type} : ∀ (l : List (Nat × α)) (seen : List Nat) (t : Nat), t ∉ seen → look (dedup l seen) t = look l t
  | [], seen, t, h => by simp [dedup]
  | (i, v) :: r, seen, t, h => by
    simp only [dedup]
    split
    · rename_i hs
      rw [look_dedup r seen t h]
      have : i ≠ t := fun e => h (by subst e; simpa using hs)
      simp [look, this]
    · simp only [look]
      by_cases e : i = t
      · simp [e]
      · rw [if_neg e, if_neg e]
        refine look_dedup r _ t ?_
        simp only [List.mem_cons, not_or]
        exact ⟨fun h => e h.symm, h⟩

def ASt.trim (st : ASt) (ks : List Nat) : ASt := { st with tmps := keepT st.tmps ks, vars := dedup st.vars [], fronts := dedup st.fronts [] }

theorem trim_inv {c : Cx} {g : Gh} {st : ASt} {w : World} (hi : Inv c g st w) (ks : List Nat) : Inv c g (st.trim ks) w :=
  hi.cong (fun k => look_dedup _ _ k (by simp)) (fun k => look_dedup _ _ k (by simp)) rfl
theorem trim_tm {g : Gh} {w : World} {st : ASt} {a : Act} (h : Tm g w st a) (ks : List Nat) : Tm g w (st.trim ks) a := by
  refine ⟨h.1, fun t => ?_⟩
  have : (st.trim ks).get t = if t ∈ ks then st.get t else .junk := by
    unfold ASt.get ASt.trim
    simp only
    rw [look_keepT]
    split <;> simp
  rw [this]
  split
  · exact h.2 t
  · exact .cl _ _ (.junk _)

theorem awp_trim {P : Program} {x : Code} {Q : Exit → ASt → Prop} {Qp : AV → ASt → Prop} {st : ASt} (ks : List Nat) (h : awp P x (fun e s => match e with | .normal => Q .normal (s.trim ks) | e => Q e s) Qp st) : awp P x Q Qp st := by
  intro c g w a hi hm hd
  refine wp_mono (h c g w a hi hm hd) ?_
  rintro e a' w' ⟨st', g', h1, h2, h3, h4⟩
  cases e with
  | normal => exact ⟨_, g', trim_inv h1 ks, trim_tm h2 ks, h3, h4⟩
  | panic ch => exact ⟨st', g', h1, h2, h3, h4⟩
  | outgrown => exact h4.elim
  | exit id => exact ⟨st', g', h1, h2, h3, h4⟩
  | goto l => exact ⟨st', g', h1, h2, h3, h4⟩
  | ret => exact ⟨st', g', h1, h2, h3, h4⟩

def rreg (P : Program) (keep : Nat → Bool) (ops : Array Oper) (hs : List (Nat × AV)) (gs : List (Nat × Bool)) (ks : List Nat) (st : ASt) : Option (List Prop × ASt) :=
  match rops P keep ops hs gs ops.toList 0 st with
  | some (cs, st') => some (cs, st'.trim ks)
  | none => none

section
variable {P : Program} {Q : Exit → ASt → Prop} {Qp : AV → ASt → Prop} {st st' : ASt} {id : Nat} {ops : Array Oper} {cs : List Prop}

/-- A region. -/
theorem awp_reg (keep : Nat → Bool) (hs : List (Nat × AV)) (gs : List (Nat × Bool)) (ks : List Nat) (h : rreg P keep ops hs gs ks st = some (cs, st')) (hc : allP cs) (hN : Q .normal st') : awp P (.region id ops false) Q Qp st := by
  unfold rreg at h
  split at h
  · rename_i c s hr
    cases h
    exact awp_trim ks (awp_region keep (rops_ok _ _ _ hr hc hN))
  · cases h

def loadB (st0 st : ASt) : Op → Bool
  | .load _ p => match st.ev p with
    | .varp k _ => !isNoneB (look st0.vars k)
    | _ => true
  | _ => true
theorem loadB_ok {st0 st : ASt} {op : Op} (h : loadB st0 st op = true) : loadOk st0 st op := by
  cases op <;> simp only [loadOk] <;> try trivial
  rename_i t p
  simp only [loadB] at h
  split
  · rename_i k o hp
    rw [hp] at h
    simp only at h
    intro hn
    rw [hn] at h
    simp [isNoneB] at h
  · trivial

def ropsD (P : Program) (keep : Nat → Bool) (ops : Array Oper) (hs : List (Nat × AV)) (gs : List (Nat × Bool)) (st0 : ASt) : List Oper → Nat → ASt → Option (List Prop × ASt)
  | [], _, st => some ([], st)
  | o :: r, i, st => match o.guard with
    | none => if loadB st0 st o.op = true then match rop P keep st o.dst ((look hs i).getD .junk) o.op with
      | some (c1, v, st1) => match settle gs i v with
        | some (c2, v') => if dstB st1 o.dst = true then match ropsD P keep ops hs gs st0 r (i + 1) (st1.putO o.dst v') with
          | some (c3, st2) => some (c1 ++ (c2 ++ c3), st2)
          | none => none else none
        | none => none
      | none => none else none
    | some (j, want) => match (ops[j]?).bind (·.dst) with
      | some d => if d < st.n then match st.get d with
        | .val (.bool b) => if b = want then (if loadB st0 st o.op = true then match rop P keep st o.dst ((look hs i).getD .junk) o.op with
            | some (c1, v, st1) => match settle gs i v with
              | some (c2, v') => if dstB st1 o.dst = true then match ropsD P keep ops hs gs st0 r (i + 1) (st1.putO o.dst v') with
                | some (c3, st2) => some (c1 ++ (c2 ++ c3), st2)
                | none => none else none
              | none => none
            | none => none else none) else if dstB st o.dst = true then ropsD P keep ops hs gs st0 r (i + 1) (st.putO o.dst .undef) else none
        | .tuple [] => if dstB st o.dst = true then ropsD P keep ops hs gs st0 r (i + 1) (st.putO o.dst .undef) else none
        | _ => none else none
      | none => none

theorem ropsD_ok {keep : Nat → Bool} {hs : List (Nat × AV)} {gs : List (Nat × Bool)} {st0 : ASt} : ∀ (l : List Oper) (i : Nat) (st : ASt) {cs : List Prop} {st' : ASt}, ropsD P keep ops hs gs st0 l i st = some (cs, st') → allP cs →
    ∀ {K : ASt → Prop}, K st' → aopsD P keep ops st0 l st K
  | [], i, st, cs, st', h, hc, K, hk => by cases h; exact hk
  | o :: r, i, st, cs, st', h, hc, K, hk => by
    simp only [ropsD] at h
    simp only [aopsD]
    split at h
    · rename_i hg
      simp only [hg]
      split at h
      · rename_i hlo
        refine ⟨loadB_ok hlo, ?_⟩
        split at h
        · rename_i c1 v st1 h1
          split at h
          · rename_i c2 v' h2
            split at h
            · rename_i h3
              split at h
              · rename_i c3 st2 h4
                cases h
                rw [allP_app, allP_app] at hc
                have := settle_ok h2 hc.2.1
                subst this
                exact rop_ok h1 hc.1 ⟨dstB_ok h3, ropsD_ok r _ _ h4 hc.2.2 hk⟩
              · cases h
            · cases h
          · cases h
        · cases h
      · cases h
    · rename_i j want hg
      simp only [hg]
      split at h
      · rename_i d hd
        simp only [hd]
        split at h
        · rename_i hn
          refine ⟨hn, ?_⟩
          split at h
          · rename_i b hb
            simp only [hb]
            split at h
            · rename_i hw
              rw [if_pos hw]
              split at h
              · rename_i hlo
                refine ⟨loadB_ok hlo, ?_⟩
                split at h
                · rename_i c1 v st1 h1
                  split at h
                  · rename_i c2 v' h2
                    split at h
                    · rename_i h3
                      split at h
                      · rename_i c3 st2 h4
                        cases h
                        rw [allP_app, allP_app] at hc
                        have := settle_ok h2 hc.2.1
                        subst this
                        exact rop_ok h1 hc.1 ⟨dstB_ok h3, ropsD_ok r _ _ h4 hc.2.2 hk⟩
                      · cases h
                    · cases h
                  · cases h
                · cases h
              · cases h
            · rename_i hw
              rw [if_neg hw]
              split at h
              · rename_i h3
                exact ⟨dstB_ok h3, ropsD_ok r _ _ h hc hk⟩
              · cases h
          · rename_i hb
            simp only [hb]
            split at h
            · rename_i h3
              exact ⟨dstB_ok h3, ropsD_ok r _ _ h hc hk⟩
            · cases h
          · cases h
        · cases h
      · cases h

def rregD (P : Program) (keep : Nat → Bool) (ops : Array Oper) (hs : List (Nat × AV)) (gs : List (Nat × Bool)) (ks : List Nat) (st : ASt) : Option (List Prop × ASt) :=
  match ropsD P keep ops hs gs st ops.toList 0 st with
  | some (cs, st') => some (cs, st'.trim ks)
  | none => none

/-- What each operation of a region waits for. -/
def waits (ops : Array Oper) : List (List Nat) :=
  ops.toList.foldl (fun cl o => cl ++ [((direct o).flatMap fun d => d :: cl.getD d []).eraseDups]) []

/-- A region whose order is drawn. -/
theorem awp_regD (hmix : P.follows .mixedOrders = true) (keep : Nat → Bool) (hs : List (Nat × AV)) (gs : List (Nat × Bool)) (ks : List Nat) (hok : drawOk ops (waits ops) = true) (h : rregD P keep ops hs gs ks st = some (cs, st')) (hc : allP cs) (hN : Q .normal st') : awp P (.region id ops true) Q Qp st := by
  unfold rregD at h
  split at h
  · rename_i c s hr
    cases h
    exact awp_trim ks (awp_draw keep hmix _ hok (ropsD_ok _ _ _ hr hc hN))
  · cases h

/-- A region that ends in a call that panics: the operation m. -/
def rpan (P : Program) (keep : Nat → Bool) (ops : Array Oper) (hs : List (Nat × AV)) (gs : List (Nat × Bool)) (m : Nat) (v : AV) (st : ASt) : Option (List Prop × ASt) :=
  match rops P keep ops hs gs (ops.toList.take m) 0 st with
  | some (cs, st') => match ops.toList.drop m with
    | { op := .call { callee := .value x, args := args, argTypes := _ }, guard := none, .. } :: _ => match st'.ev x with
      | .func f caps => some (Det P f ((args.toList.map st'.ev ++ caps).map AV.cl) (.panic v) :: cs, st')
      | _ => none
    | _ => none
  | none => none

theorem aops_app {keep : Nat → Bool} {l2 : List Oper} {K : ASt → Prop} {Kp : AV → ASt → Prop} {hs : List (Nat × AV)} {gs : List (Nat × Bool)} : ∀ (l1 : List Oper) (i : Nat) (st : ASt) {cs : List Prop} {st' : ASt}, rops P keep ops hs gs l1 i st = some (cs, st') → allP cs →
    aops P keep ops l2 st' K Kp → aops P keep ops (l1 ++ l2) st K Kp
  | [], i, st, cs, st', h, hc, hk => by cases h; exact hk
  | o :: r, i, st, cs, st', h, hc, hk => by
    simp only [rops] at h
    simp only [aops, List.cons_append]
    split at h
    · rename_i hg
      simp only [hg]
      split at h
      · rename_i c1 v st1 h1
        split at h
        · rename_i c2 v' h2
          split at h
          · rename_i h3
            split at h
            · rename_i c3 st2 h4
              cases h
              rw [allP_app, allP_app] at hc
              have := settle_ok h2 hc.2.1
              subst this
              exact rop_ok h1 hc.1 ⟨dstB_ok h3, aops_app r _ _ h4 hc.2.2 hk⟩
            · cases h
          · cases h
        · cases h
      · cases h
    · rename_i j want hg
      simp only [hg]
      split at h
      · rename_i d hd
        simp only [hd]
        split at h
        · rename_i hn
          refine ⟨hn, ?_⟩
          split at h
          · rename_i b hb
            simp only [hb]
            split at h
            · rename_i hw
              rw [if_pos hw]
              split at h
              · rename_i c1 v st1 h1
                split at h
                · rename_i c2 v' h2
                  split at h
                  · rename_i h3
                    split at h
                    · rename_i c3 st2 h4
                      cases h
                      rw [allP_app, allP_app] at hc
                      have := settle_ok h2 hc.2.1
                      subst this
                      exact rop_ok h1 hc.1 ⟨dstB_ok h3, aops_app r _ _ h4 hc.2.2 hk⟩
                    · cases h
                  · cases h
                · cases h
              · cases h
            · rename_i hw
              rw [if_neg hw]
              split at h
              · rename_i h3
                exact ⟨dstB_ok h3, aops_app r _ _ h hc hk⟩
              · cases h
          · rename_i hb
            simp only [hb]
            split at h
            · rename_i h3
              exact ⟨dstB_ok h3, aops_app r _ _ h hc hk⟩
            · cases h
          · cases h
        · cases h
      · cases h

theorem awp_pan (keep : Nat → Bool) (hs : List (Nat × AV)) (gs : List (Nat × Bool)) (m : Nat) {v : AV} (h : rpan P keep ops hs gs m v st = some (cs, st')) (hc : allP cs) (hN : Qp v st') : awp P (.region id ops false) Q Qp st := by
  unfold rpan at h
  split at h
  · rename_i c s hr
    split at h
    · rename_i dst x args ts typ after pos rest hdrop
      split at h
      · rename_i f caps hx
        cases h
        refine awp_region keep ?_
        rw [← List.take_append_drop m ops.toList]
        refine aops_app _ _ _ hr hc.2 ?_
        rw [hdrop]
        simp only [aops, aop, acall, hx]
        exact ⟨_, hc.1, hN⟩
      · cases h
    · cases h
  · cases h
end

/-! ### Weaker worths -/
inductive Lw : AV → AV → Prop
  | refl (v : AV) : Lw v v
  | nils (k : Nat) : Lw .nils (.slice .non k [])
  | agg (a b : List AV) : a.length = b.length → (∀ j (h : j < a.length) (h' : j < b.length), Lw a[j] b[j]) → Lw (.agg a) (.agg b)
  | tuple (a b : List AV) : a.length = b.length → (∀ j (h : j < a.length) (h' : j < b.length), Lw a[j] b[j]) → Lw (.tuple a) (.tuple b)
  | slice (k : Nat) (a b : List AV) : a.length = b.length → (∀ i (h : i < a.length) (h' : i < b.length), (a[i]).cells.length = (b[i]).cells.length ∧ (b[i]).cells.all AV.cellOk = true) →
      (∀ i (h : i < a.length) (h' : i < b.length) j (q : j < (a[i]).cells.length) (q' : j < (b[i]).cells.length), Lw (a[i]).cells[j] (b[i]).cells[j]) → Lw (.slice .non k a) (.slice .non k b)
def LwL : List AV → List AV → Prop
  | [], [] => True
  | v :: a, v' :: b => Lw v v' ∧ LwL a b
  | _, _ => False
theorem LwL_rfl : ∀ (a : List AV), LwL a a
  | [] => trivial
  | v :: a => ⟨.refl v, LwL_rfl a⟩
theorem LwL_at : ∀ {a b : List AV}, LwL a b → a.length = b.length ∧ ∀ j (h : j < a.length) (h' : j < b.length), Lw a[j] b[j]
  | [], [], _ => ⟨rfl, fun j h => by simp at h⟩
  | v :: a, v' :: b, h => by
    obtain ⟨g1, g2⟩ := LwL_at h.2
    refine ⟨by simp [g1], fun j h1 h2 => ?_⟩
    cases j with
    | zero => exact h.1
    | succ j => exact g2 j (by simpa using h1) (by simpa using h2)
  | [], _ :: _, h => h.elim
  | _ :: _, [], h => h.elim
def LwLC : List AV → List AV → Prop
  | [], [] => True
  | v :: a, v' :: b => (LwL v.cells v'.cells ∧ v'.cells.all AV.cellOk = true) ∧ LwLC a b
  | _, _ => False
theorem LwLC_at : ∀ {a b : List AV}, LwLC a b → a.length = b.length ∧ ∀ i (h : i < a.length) (h' : i < b.length), LwL (a[i]).cells (b[i]).cells ∧ (b[i]).cells.all AV.cellOk = true
  | [], [], _ => ⟨rfl, fun j h => by simp at h⟩
  | v :: a, v' :: b, h => by
    obtain ⟨g1, g2⟩ := LwLC_at h.2
    refine ⟨by simp [g1], fun j h1 h2 => ?_⟩
    cases j with
    | zero => exact h.1
    | succ j => exact g2 j (by simpa using h1) (by simpa using h2)
  | [], _ :: _, h => h.elim
  | _ :: _, [], h => h.elim
theorem Lw.sliceL {k : Nat} {a b : List AV} (h : LwLC a b) : Lw (.slice .non k a) (.slice .non k b) :=
  .slice k a b (LwLC_at h).1 (fun i q q' => ⟨(LwL_at ((LwLC_at h).2 i q q').1).1, ((LwLC_at h).2 i q q').2⟩) fun i q q' => (LwL_at ((LwLC_at h).2 i q q').1).2
theorem Lw.aggL {a b : List AV} (h : LwL a b) : Lw (.agg a) (.agg b) := .agg a b (LwL_at h).1 (LwL_at h).2
theorem Lw.tupleL {a b : List AV} (h : LwL a b) : Lw (.tuple a) (.tuple b) := .tuple a b (LwL_at h).1 (LwL_at h).2

theorem Lw.vd {D : Foot} {w : World} {v v' : AV} (h : Lw v v') : ∀ {x : Value}, VD D w v x → VD D w v' x := by
  induction h with
  | refl v => exact id
  | nils k => intro x hv; cases hv; exact .slice0 _ _ _
  | agg a b hl _ ih =>
    intro x hv
    cases hv with
    | agg _ arr hs hh => exact .agg _ _ (hl.symm.trans hs) fun j h3 h4 => ih j (by omega) h3 (hh j (by omega) h4)
  | tuple a b hl _ ih =>
    intro x hv
    cases hv with
    | tuple _ arr hs hh => exact .tuple _ _ (hl.symm.trans hs) fun j h3 h4 => ih j (by omega) h3 (hh j (by omega) h4)
  | slice k a b hl hp _ ih =>
    intro x hv
    cases hv with
    | slice0 _ ad cap =>
      obtain rfl : b = [] := List.eq_nil_of_length_eq_zero hl.symm
      exact .slice0 _ _ _
    | slice _ _ bb o cap f h1 h2 h3 h4 h5 h6 =>
      rw [hl]
      exact .slice k b bb o cap f (by omega) h2 (fun i h => ⟨(hp i (by omega) h).1.symm.trans (h3 i (by omega)).1, (hp i (by omega) h).2⟩) (fun i j hi hj => h4 i j (by omega) hj) (fun i j hi hj => h5 i j (by omega) hj)
        (fun i h j hj => ih i (by omega) h j (by rw [(hp i (by omega) h).1]; exact hj) hj (h6 i (by omega) j (by rw [(hp i (by omega) h).1]; exact hj)))
theorem Lw.vr {g : Gh} {w : World} {v v' : AV} (h : Lw v v') : ∀ {x : Value}, VR g w v x → VR g w v' x := by
  induction h with
  | refl v => exact id
  | nils k => intro x hv; cases hv with | cl _ _ hd => exact .cl _ _ ((Lw.nils k).vd hd)
  | agg a b hl hp ih =>
    intro x hv
    cases hv with
    | cl _ _ hd => exact .cl _ _ ((Lw.agg a b hl hp).vd hd)
    | agg _ arr hs hh => exact .agg _ _ (hl.symm.trans hs) fun j h3 h4 => ih j (by omega) h3 (hh j (by omega) h4)
  | tuple a b hl hp ih =>
    intro x hv
    cases hv with
    | cl _ _ hd => exact .cl _ _ ((Lw.tuple a b hl hp).vd hd)
    | tuple _ arr hs hh => exact .tuple _ _ (hl.symm.trans hs) fun j h3 h4 => ih j (by omega) h3 (hh j (by omega) h4)
  | slice k a b hl hp hq ih => intro x hv; cases hv with | cl _ _ hd => exact .cl _ _ ((Lw.slice k a b hl hp hq).vd hd)

def leO : AOut → AOut → Prop
  | .ret v, .ret v' => Lw v v'
  | .panic v, .panic v' => Lw v v'
  | _, _ => False
theorem Outs.le {D : Foot} {w : World} {o o' : AOut} {e : Ending} (h : leO o o') (ho : Outs D w o e) : Outs D w o' e := by
  cases o with
  | ret v =>
    cases o' with
    | panic _ => exact h.elim
    | ret v' =>
      cases e with
      | returned x => exact h.vd ho
      | _ => exact ho.elim
  | panic v =>
    cases o' with
    | ret _ => exact h.elim
    | panic v' =>
      cases e with
      | panicked chain =>
        obtain ⟨x, h1, h2⟩ := ho
        exact ⟨x, h1, h.vd h2⟩
      | _ => exact ho.elim

/-- What comes out may be told more loosely. -/
theorem Det.of_le {P : Program} {f : FuncId} {args : List AV} {out : AOut} (h : ACalls P f args [] fun o _ => leO o out) : Det P f args out := by
  intro c cargs h1 h2 h3
  refine Calls.mono' (h c cargs h1 h2 h3) ?_
  rintro e w' ⟨o, ext', D', h4, h5, h6⟩
  exact ⟨out, ext', D', rfl, h5, h6.le h4⟩
/-- What goes in may be more than what is asked. -/
theorem Det.args {P : Program} {f : FuncId} {args args' : List AV} {out : AOut} (h : Det P f args' out) (hl : LwL args args') : Det P f args out := by
  intro c cargs h1 h2 h3
  obtain ⟨g1, g2⟩ := LwL_at hl
  exact h c cargs h1 (g1.symm.trans h2) fun j h4 h5 => (g2 j (by omega) h4).vr (h3 j (by omega) h5)
end Go.Proofs.Eng
