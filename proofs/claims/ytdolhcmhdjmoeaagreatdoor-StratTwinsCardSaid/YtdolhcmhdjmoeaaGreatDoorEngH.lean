/- Calls; any operation; a list of operations. -/
import Derived.Test.YtdolhcmhdjmoeaaGreatDoorEngG
set_option linter.unusedSimpArgs false
set_option linter.unusedVariables false
namespace Go.Proofs.Eng
open Go

inductive AOut where
  | ret (v : AV)
  | panic (v : AV)

def Outs (D : Foot) (w : World) : AOut → Ending → Prop
  | .ret v, .returned x => VD D w v x
  | .panic v, .panicked chain => ∃ x, chain = [{ v := x, recovered := false }] ∧ VD D w v x
  | _, _ => False

/-- A call of function f, whatever stands in for it. -/
def CallsTo (P : Program) (f : FuncId) (args : Array Value) (w : World) (R : Ending → World → Prop) : Prop :=
  match (callFunc f args).run P w with
  | .ok (.enter f' args') w' => Calls P f' args' w' R
  | .ok (.value v) w' => R (.returned v) w'
  | _ => False

def BlkD (D : Foot) (w : World) (b : Nat) (cs : List AV) : Prop :=
  ∃ arr t, w.heap[b]? = some (.cells arr t (0, 0)) ∧ cs.length = arr.size ∧ ∀ j (h : j < cs.length) (h' : j < arr.size), VD D w cs[j] arr[j]

structure Entry (c : Cx) (ext : List (List AV)) : Prop where
  nodup : c.eb.Nodup
  ebl : ∀ b, b ∈ c.eb → b < c.w0.heap.size
  len : ext.length = c.eb.length
  blk : ∀ i (h : i < c.eb.length) (h' : i < ext.length), BlkD c.D0 c.w0 c.eb[i] ext[i] ∧ ∀ o, ¬ c.D0 c.eb[i] o
  dlt : ∀ b o, c.D0 b o → b < c.w0.heap.size

def Cx.g0 (c : Cx) : Gh := ⟨c.D0, fun _ => none, c.eb, fun _ => none⟩

structure Left (c : Cx) (D : Foot) (w : World) (ext : List (List AV)) : Prop where
  since : Since c D w
  dlt : ∀ b o, D b o → b < w.heap.size
  len : ext.length = c.eb.length
  blk : ∀ i (h : i < c.eb.length) (h' : i < ext.length), BlkD D w c.eb[i] ext[i] ∧ ∀ o, ¬ D c.eb[i] o

/-- What a call of f comes to, the captured variables' cells before and behind it. -/
def ACalls (P : Program) (f : FuncId) (args : List AV) (ext : List (List AV)) (Q : AOut → List (List AV) → Prop) : Prop :=
  ∀ (c : Cx) (cargs : Array Value), Entry c ext → args.length = cargs.size → (∀ j (h : j < args.length) (h' : j < cargs.size), VR c.g0 c.w0 args[j] cargs[j]) →
    CallsTo P f cargs c.w0 fun e w' => ∃ out ext' D', Q out ext' ∧ Left c D' w' ext' ∧ Outs D' w' out e

/-- f, called so, comes to this, and touches nothing. -/
def Det (P : Program) (f : FuncId) (args : List AV) (out : AOut) : Prop := ACalls P f args [] fun o _ => o = out
def DetX (P : Program) (f : FuncId) (args : List AV) (ext : List (List AV)) (out : AOut) (ext' : List (List AV)) : Prop := ACalls P f args ext fun o e => o = out ∧ e = ext'

theorem Calls.mono' {P : Program} {f : FuncId} {args : Array Value} {w : World} {R R' : Ending → World → Prop} (h : CallsTo P f args w R) (hr : ∀ e w', R e w' → R' e w') : CallsTo P f args w R' := by
  unfold CallsTo at h ⊢
  split at h
  · exact h.mono hr
  · exact hr _ _ h
  · exact h.elim

/-- Behind a call that touches nothing all stands as it did. -/
theorem Inv.called {c : Cx} {g : Gh} {st : ASt} {w w' : World} {D' : Foot} (hi : Inv c g st w) (hl : Left ⟨w, g.D, []⟩ D' w' []) : Inv c { g with D := D' } st w' ∧ GExt g w { g with D := D' } w' := by
  have hs := hl.since
  have hg : GExt g w { g with D := D' } w' := .of_D hs.dx
  have hb : ∀ b, b < w.heap.size → w'.heap[b]? = w.heap[b]? := fun b h => hs.frame b h (by simp)
  have hnew : ∀ b o, D' b o → b < w.heap.size → g.D b o := fun b o h hb => (hs.new b o h).elim id (fun h' => absurd hb (Nat.not_lt.2 h'))
  have blk : ∀ {b : Nat} {cs : List AV}, Blk g w b cs → Blk { g with D := D' } w' b cs := by
    intro b cs h
    refine h.mono hg (hb b ?_)
    obtain ⟨arr, t, h1, _⟩ := h
    exact (Array.getElem?_eq_some_iff.1 h1).1
  refine ⟨⟨hi.since.step hs.dx hs.size (fun b h _ => hb b (Nat.lt_of_lt_of_le h hi.since.size)) hs.os hs.tape hs.output (fun b o h => (hs.new b o h).elim .inl (fun h' => .inr (Nat.le_trans hi.since.size h'))), hi.eb, hi.nodup, hi.ebl, hi.vbl, hi.frl, ?_, hi.vdom, ?_, ?_, hi.fdom, hi.vinj, hi.finj, hi.vf, hl.dlt⟩, hg⟩
  · intro i z cs h
    obtain ⟨b, h1, h2, h3, h4⟩ := hi.var i z cs h
    exact ⟨b, h1, blk h2, fun hz => ⟨fun o ho => (hs.dx b o ((h3 hz).1 o ho)).1, (h3 hz).2⟩, fun hz o ho => h4 hz o (hnew b o ho (vb_lt hi h1))⟩
  · refine ⟨hi.ext.1, fun i h h' => ⟨blk (hi.ext.2 i h h').1, fun o ho => (hi.ext.2 i h h').2 o (hnew _ o ho ?_)⟩⟩
    exact Nat.lt_of_lt_of_le (hi.ebl _ (List.getElem_mem h)) hi.since.size
  · intro id t k n h
    obtain ⟨e, xs, h1, h2, h3, h4, h5⟩ := hi.fr id t k n h
    refine ⟨e, xs, h1, h2, h3, ?_, fun b o hb' ho => h5 b o hb' (hnew b o ho (fr_lt hi h1 hb'))⟩
    exact h4.kept (row := none) ⟨hs.os, hs.tape, hs.output, hs.size, fun k hk _ => hb k hk⟩ (by cases e.v.ownBlock <;> simp)

def isEff : Op → Bool
  | .alloc _ | .box _ _ | .store _ _ _ | .buildSlice _ _ _ | .makeFunc _ _ _ => true
  | .call c => match c.callee with | .builtin .append => true | _ => false
  | _ => false

/-- A call through a value: what it comes to. -/
def acall (P : Program) (st : ASt) (x : Operand) (args : List Operand) (K : AV → ASt → Prop) (Kp : AV → ASt → Prop) : Prop :=
  match st.ev x with
  | .func f caps => ∃ out, Det P f ((args.map st.ev ++ caps).map AV.cl) out ∧ match out with
    | .ret v => K v st
    | .panic v => Kp v st
  | _ => False

def aop (P : Program) (keep : Nat → Bool) (st : ASt) (dst : Option Tmp) (op : Op) (K : AV → ASt → Prop) (Kp : AV → ASt → Prop) : Prop :=
  match op with
  | .call { callee := .value x, args := args, argTypes := _ } => acall P st x args.toList K Kp
  | op => if isEff op = true then aeff P keep st dst op K else aval P st op fun v => K v st

/-- What a skipped operation leaves. -/
def AV.undef : AV := .tuple []
theorem undef_vr (g : Gh) (w : World) : VR g w AV.undef Go.undef := .tuple [] #[] rfl fun j h => by simp at h
theorem undef_of {g : Gh} {w : World} {x : Value} (h : VR g w (.tuple []) x) : x = Go.undef := by
  have key : ∀ arr : Array Value, ([] : List AV).length = arr.size → Value.tuple arr = Go.undef := by
    intro arr h
    have : arr = #[] := Array.eq_empty_of_size_eq_zero (by simpa using h.symm)
    subst this; rfl
  cases h with
  | cl _ _ hd => cases hd with | tuple _ arr hs _ => exact key arr hs
  | tuple _ arr hs _ => exact key arr hs
def skipB : AV → Bool → Bool
  | .val (.bool b), w => b != w
  | .tuple [], _ => true
  | _, _ => false
def ASt.putO (st : ASt) (dst : Option Tmp) (v : AV) : ASt := match dst with | some d => st.put d v | none => st
def dstOk (st : ASt) (dst : Option Tmp) : Prop := match dst with | some d => d < st.n | none => True

/-- Operations in a row. -/
def aops (P : Program) (keep : Nat → Bool) (ops : Array Oper) : List Oper → ASt → (ASt → Prop) → (AV → ASt → Prop) → Prop
  | [], st, K, _ => K st
  | o :: r, st, K, Kp => match o.guard with
    | none => aop P keep st o.dst o.op (fun v st' => dstOk st' o.dst ∧ aops P keep ops r (st'.putO o.dst v) K Kp) Kp
    | some (j, want) => match (ops[j]?).bind (·.dst) with
      | some d => d < st.n ∧ match st.get d with
        | .val (.bool b) => if b = want then aop P keep st o.dst o.op (fun v st' => dstOk st' o.dst ∧ aops P keep ops r (st'.putO o.dst v) K Kp) Kp
          else dstOk st o.dst ∧ aops P keep ops r (st.putO o.dst .undef) K Kp
        | .tuple [] => dstOk st o.dst ∧ aops P keep ops r (st.putO o.dst .undef) K Kp
        | _ => False
      | none => False

theorem Tm.putO {g : Gh} {w : World} {st : ASt} {a : Act} (h : Tm g w st a) {dst : Option Tmp} {v : AV} {x : Value} (hd : dstOk st dst) (hv : VR g w v x) : Tm g w (st.putO dst v) (a.put dst x) := by
  cases dst with
  | none => exact h
  | some d => exact h.put hd hv
theorem Inv.putO {c : Cx} {g : Gh} {st : ASt} {w : World} (hi : Inv c g st w) (dst : Option Tmp) (v : AV) : Inv c g (st.putO dst v) w := by
  cases dst <;> exact ⟨hi.since, hi.eb, hi.nodup, hi.ebl, hi.vbl, hi.frl, hi.var, hi.vdom, hi.ext, hi.fr, hi.fdom, hi.vinj, hi.finj, hi.vf, hi.dlt⟩

theorem Tm.of_eq {g : Gh} {w : World} {st st' : ASt} {a : Act} (h : Tm g w st a) (hn : st'.n = st.n) (ht : st'.tmps = st.tmps) : Tm g w st' a := by
  refine ⟨h.1.trans hn.symm, fun t => ?_⟩
  have := h.2 t
  unfold ASt.get at this ⊢
  rw [ht]; exact this

/-- The exits of the machine, and what they are worth. -/
def QS (c : Cx) (Q : Exit → ASt → Prop) (Qp : AV → ASt → Prop) : Exit → Act → World → Prop := fun e a w =>
  ∃ st g, Inv c g st w ∧ Tm g w st a ∧ a.defers = [] ∧ match e with
    | .panic chain => ∃ v x, chain = [{ v := x, recovered := false }] ∧ VR g w v x ∧ Qp v st
    | .outgrown => False
    | e => Q e st

theorem put_defers (a : Act) (d : Option Tmp) (v : Value) : (a.put d v).defers = a.defers := by cases d <;> rfl

theorem acall_wp {P : Program} {c : Cx} {g : Gh} {st : ASt} {w : World} {a : Act} (hi : Inv c g st w) (hm : Tm g w st a) {x : Operand} {args : Array Operand} {ts : Array TypeId} {typ : TypeId} {K Kp : AV → ASt → Prop} (h : acall P st x args.toList K Kp)
    {o : Oper} (ho : o.op = .call { callee := .value x, args := args, argTypes := ts }) {next : Act → World → Prop} {Q' : Exit → Act → World → Prop}
    (hn : ∀ v g' w' y, Inv c g' st w' → Tm g' w' st a → VR g' w' v y → K v st → next (a.put o.dst y) w') (hp : ∀ v g' w' y, Inv c g' st w' → Tm g' w' st a → VR g' w' v y → Kp v st → Q' (.panic [{ v := y, recovered := false }]) a w') :
    o.wp P a w next Q' := by
  unfold acall at h
  split at h
  · rename_i f caps hf
    obtain ⟨out, hdet, h⟩ := h
    have hx := ev_vr hm x
    rw [hf] at hx
    obtain ⟨arr, he, hs, hv⟩ := hx.at_func
    have hent : Entry ⟨w, g.D, []⟩ [] := ⟨List.nodup_nil, fun b hb => by simp at hb, rfl, fun i h => by simp at h, hi.dlt⟩
    have hcall := hdet ⟨w, g.D, []⟩ ((args.map a.eval) ++ arr) hent (by simp [hs]) (fun j h1 h2 => by
      refine .cl _ _ ?_
      simp only [List.getElem_map]
      simp only [List.length_map, List.length_append, Array.length_toList] at h1
      by_cases hj : j < args.size
      · have e1 : (args.toList.map st.ev ++ caps)[j]'(by simp; omega) = st.ev args[j] := by
          rw [List.getElem_append_left (by simpa using hj)]; simp
        have e2 : (args.map a.eval ++ arr)[j] = a.eval args[j] := by
          rw [Array.getElem_append_left (by simpa using hj)]; simp
        rw [e1, e2]
        exact (ev_vr hm _).cl_of
      · have e1 : (args.toList.map st.ev ++ caps)[j]'(by simp; omega) = caps[j - args.size]'(by omega) := by
          rw [List.getElem_append_right (by simp; omega)]; simp
        have e2 : (args.map a.eval ++ arr)[j] = arr[j - args.size]'(by omega) := by
          rw [Array.getElem_append_right (by simp; omega)]; simp
        rw [e1, e2]
        exact (hv _ _ _).cl_of)
    have hrun : (execOp a.eval o).run P w = (callFunc f ((args.map a.eval) ++ arr)).run P w := by
      unfold execOp
      simp only [ho, resolve, he, Deferred.ofValue, Sem.run_bind, Sem.run_pure, Result.andThen_ok, invoke]
      simp
    unfold Oper.wp
    rw [hrun]
    unfold CallsTo at hcall
    have fin : ∀ e w', (∃ out' ext' D', out' = out ∧ Left ⟨w, g.D, []⟩ D' w' ext' ∧ Outs D' w' out' e) →
        (match e with | .returned v => next (a.put o.dst v) w' | .panicked chain => Q' (.panic chain) a w' | .outgrown => LetsOut Q') := by
      rintro e w' ⟨out', ext', D', rfl, hl, ho⟩
      have hext : ext' = [] := List.eq_nil_of_length_eq_zero hl.len
      subst hext
      obtain ⟨h1, h2⟩ := hi.called hl
      cases out' with
      | ret v =>
        cases e with
        | returned y => exact hn v _ w' y h1 (hm.mono h2) (.cl _ _ ho) h
        | _ => exact ho.elim
      | panic v =>
        cases e with
        | panicked chain =>
          obtain ⟨y, rfl, hy⟩ := ho
          exact hp v _ w' y h1 (hm.mono h2) (.cl _ _ hy) h
        | _ => exact ho.elim
    split at hcall
    · rename_i f' args' w' hr
      simp only [hr, Oper.upon]
      refine hcall.mono fun e w'' h => ?_
      have := fin e w'' h
      cases e <;> exact this
    · rename_i v w' hr
      simp only [hr, Oper.upon]
      exact fin (.returned v) w' hcall
    · exact hcall.elim
  · exact h.elim

theorem aop_wp {P : Program} {keep : Nat → Bool} {c : Cx} {g : Gh} {st : ASt} {w : World} {a : Act} (hi : Inv c g st w) (hm : Tm g w st a) (hd : a.defers = []) {o : Oper} {K Kp : AV → ASt → Prop} (h : aop P keep st o.dst o.op K Kp)
    {next : Act → World → Prop} {Q' : Exit → Act → World → Prop} (hn : ∀ v st' g' w' y, Inv c g' st' w' → Tm g' w' st' a → VR g' w' v y → K v st' → next (a.put o.dst y) w')
    (hp : ∀ v st' g' w' y, Inv c g' st' w' → Tm g' w' st' a → VR g' w' v y → Kp v st' → Q' (.panic [{ v := y, recovered := false }]) a w') : o.wp P a w next Q' := by
  unfold aop at h
  split at h
  · rename_i op x args ts heq
    exact acall_wp (typ := o.type) hi hm h heq (fun v g' w' y => hn v st g' w' y) (fun v g' w' y => hp v st g' w' y)
  · split at h
    · obtain ⟨v, st', x, w', g', hr, h1, h2, h3, h4, h5, h6⟩ := aeff_run hi hm h
      unfold Oper.wp
      rcases hr with hr | ⟨hr, rfl⟩
      · rw [hr]
        exact hn v st' g' w' x h1 ((hm.mono h2).of_eq h5 h6) h3 h4
      · rw [hr]
        exact hn v st' g' w' undef h1 ((hm.mono h2).of_eq h5 h6) h3 h4
    · obtain ⟨v, x, w', hr, hs, hv, h4⟩ := aval_run hi hm h
      obtain ⟨h1, h2⟩ := hi.same hs
      unfold Oper.wp
      rw [hr]
      exact hn v st g w' x h1 (hm.mono h2) (hv.mono h2) h4

theorem aops_wp {P : Program} {keep : Nat → Bool} {c : Cx} {ops : Array Oper} {Q : Exit → ASt → Prop} {Kp : AV → ASt → Prop} : ∀ (l : List Nat) (st : ASt) (g : Gh) (w : World) (a : Act), Inv c g st w → Tm g w st a → a.defers = [] →
    aops P keep ops (l.filterMap fun i => ops[i]?) st (Q .normal) Kp → wpOps P ops (QS c Q Kp) l a w
  | [], st, g, w, a, hi, hm, hd, h => ⟨st, g, hi, hm, hd, h⟩
  | i :: r, st, g, w, a, hi, hm, hd, h => by
    unfold wpOps
    cases ho : ops[i]? with
    | none =>
      simp only [List.filterMap_cons, ho] at h
      exact aops_wp r st g w a hi hm hd h
    | some o =>
      simp only [List.filterMap_cons, ho, aops] at h
      have step : aop P keep st o.dst o.op (fun v st' => dstOk st' o.dst ∧ aops P keep ops (r.filterMap fun i => ops[i]?) (st'.putO o.dst v) (Q .normal) Kp) Kp → o.wp P a w (wpOps P ops (QS c Q Kp) r) (QS c Q Kp) := by
        intro h
        refine aop_wp hi hm hd h ?_ ?_
        · rintro v st' g' w' y h1 h2 h3 ⟨h4, h5⟩
          exact aops_wp r _ g' w' _ (h1.putO _ _) (h2.putO h4 h3) (by rw [put_defers]; exact hd) h5
        · intro v st' g' w' y h1 h2 h3 h4
          exact ⟨st', g', h1, h2, hd, v, y, rfl, h3, h4⟩
      split at h
      · rename_i hgd
        simp only [Region.wanted, hgd, if_true]
        exact .inl (step h)
      · rename_i j want hgd
        split at h
        · rename_i d hdj
          obtain ⟨hdn, h⟩ := h
          split at h
          · rename_i b hb
            have hv := hm.2 d
            rw [hb] at hv
            obtain ⟨hpl, _⟩ := hv.plain_of
            have hy : yielded ops a.tmps j = some b := by
              unfold yielded
              have hlt : d < a.tmps.size := by rw [hm.1]; exact hdn
              have : a.tmps[d]? = some (.bool b) := by
                rw [Array.getElem?_eq_getElem hlt]
                simp [Array.getD, hlt] at hpl
                rw [hpl]
              simp [hdj, this]
            simp only [Region.wanted, hgd, hy]
            split at h
            · rename_i hbw
              subst hbw
              simp only [beq_self_eq_true, if_true]
              exact .inl (step h)
            · rename_i hbw
              have : (some b == some want) = false := by simpa using hbw
              simp only [this, Bool.false_eq_true, if_false]
              exact aops_wp r _ g w _ (hi.putO _ _) (hm.putO h.1 (undef_vr _ _)) (by rw [put_defers]; exact hd) h.2
          · rename_i hb
            have hv := hm.2 d
            rw [hb] at hv
            have hx := undef_of hv
            have hy : yielded ops a.tmps j = none := by
              unfold yielded
              have hlt : d < a.tmps.size := by rw [hm.1]; exact hdn
              have : a.tmps[d]? = some Go.undef := by
                rw [Array.getElem?_eq_getElem hlt]
                simp [Array.getD, hlt] at hx
                rw [hx]
              simp [hdj, this, Go.undef]
            simp only [Region.wanted, hgd, hy]
            have : ((none : Option Bool) == some want) = false := rfl
            simp only [this, Bool.false_eq_true, if_false]
            exact aops_wp r _ g w _ (hi.putO _ _) (hm.putO h.1 (undef_vr _ _)) (by rw [put_defers]; exact hd) h.2
          · exact h.elim
        · exact h.elim
end Go.Proofs.Eng
