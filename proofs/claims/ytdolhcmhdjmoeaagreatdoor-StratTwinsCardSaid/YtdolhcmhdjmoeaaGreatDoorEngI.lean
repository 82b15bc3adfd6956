/- Code; functions. -/
import Derived.Test.YtdolhcmhdjmoeaaGreatDoorEngH
set_option linter.unusedSimpArgs false
set_option linter.unusedVariables false
namespace Go.Proofs.Eng
open Go

/-- What a piece of code comes to from a state of the walk on. -/
def awp (P : Program) (code : Code) (Q : Exit → ASt → Prop) (Qp : AV → ASt → Prop) (st : ASt) : Prop :=
  ∀ (c : Cx) (g : Gh) (w : World) (a : Act), Inv c g st w → Tm g w st a → a.defers = [] → code.wp P (QS c Q Qp) a w

section
variable {P : Program} {Q : Exit → ASt → Prop} {Qp : AV → ASt → Prop} {st : ASt}

theorem QS_of {c : Cx} {g : Gh} {w : World} {a : Act} (hi : Inv c g st w) (hm : Tm g w st a) (hd : a.defers = []) {e : Exit} (he : ∀ ch, e ≠ .panic ch) (ho : e ≠ .outgrown) (h : Q e st) : QS c Q Qp e a w := by
  refine ⟨st, g, hi, hm, hd, ?_⟩
  cases e with
  | panic ch => exact absurd rfl (he ch)
  | outgrown => exact absurd rfl ho
  | _ => exact h

theorem awp_skip (h : Q .normal st) : awp P .skip Q Qp st := fun c g w a hi hm hd => wp_skip (QS_of hi hm hd (by simp) (by simp) h)
theorem awp_ret (h : Q .ret st) : awp P .ret Q Qp st := fun c g w a hi hm hd => wp_ret (QS_of hi hm hd (by simp) (by simp) h)
theorem awp_exit {id : Nat} (h : Q (.exit id) st) : awp P (.exit id) Q Qp st := fun c g w a hi hm hd => wp_exit (QS_of hi hm hd (by simp) (by simp) h)

/-- The next piece, hidden. -/
def thenA (N : ASt → Prop) (Q : Exit → ASt → Prop) : Exit → ASt → Prop
  | .normal, st => N st
  | e, st => Q e st

theorem awp_seq {x y : Code} (h : ∀ N : ASt → Prop, (∀ st, awp P y Q Qp st → N st) → awp P x (thenA N Q) Qp st) : awp P (.seq x y) Q Qp st := by
  intro c g w a hi hm hd
  refine wp_seq (wp_mono (h (awp P y Q Qp) (fun _ h => h) c g w a hi hm hd) ?_)
  rintro e a' w' ⟨st', g', h1, h2, h3, h4⟩
  cases e with
  | normal => exact h4 c g' w' a' h1 h2 h3
  | panic ch => exact ⟨st', g', h1, h2, h3, h4⟩
  | outgrown => exact h4.elim
  | exit id => exact ⟨st', g', h1, h2, h3, h4⟩
  | goto l => exact ⟨st', g', h1, h2, h3, h4⟩
  | ret => exact ⟨st', g', h1, h2, h3, h4⟩

theorem awp_cond {x : Operand} {t : Bool} {a b : Code} (hx : st.ev x = .val (.bool t)) (ht : t = true → awp P a Q Qp st) (hf : t = false → awp P b Q Qp st) : awp P (.cond x a b) Q Qp st := by
  intro c g w act hi hm hd
  have hv := ev_vr hm x
  rw [hx] at hv
  obtain ⟨hpl, _⟩ := hv.plain_of
  exact wp_cond_split hpl (fun h => ht h c g w act hi hm hd) (fun h => hf h c g w act hi hm hd)

def blockA (id : Nat) (Q : Exit → ASt → Prop) : Exit → ASt → Prop
  | .exit id', st => if id' = id then Q .normal st else Q (.exit id') st
  | e, st => Q e st

theorem awp_block {id : Nat} {x : Code} (h : awp P x (blockA id Q) Qp st) : awp P (.block id x) Q Qp st := by
  intro c g w a hi hm hd
  refine wp_block (wp_mono (h c g w a hi hm hd) ?_)
  rintro e a' w' ⟨st', g', h1, h2, h3, h4⟩
  cases e with
  | exit id' =>
    simp only [Exit.inBlock, blockA] at h4 ⊢
    split
    · rename_i he
      simp only [he, if_true] at h4
      exact ⟨st', g', h1, h2, h3, h4⟩
    · rename_i he
      simp only [he, if_false] at h4
      exact ⟨st', g', h1, h2, h3, h4⟩
  | normal => exact ⟨st', g', h1, h2, h3, h4⟩
  | panic ch => exact ⟨st', g', h1, h2, h3, h4⟩
  | outgrown => exact h4.elim
  | goto l => exact ⟨st', g', h1, h2, h3, h4⟩
  | ret => exact ⟨st', g', h1, h2, h3, h4⟩

theorem range_opers (ops : Array Oper) : (List.range ops.size).filterMap (fun i => ops[i]?) = ops.toList := by
  have : ∀ l : List Oper, (List.range l.length).filterMap (fun i => l[i]?) = l := by
    intro l
    induction l with
    | nil => rfl
    | cons o r ih =>
      rw [List.length_cons, List.range_succ_eq_map, List.filterMap_cons]
      simp only [List.getElem?_cons_zero, List.filterMap_map]
      congr 1
  have h := this ops.toList
  simpa using h

theorem awp_region (keep : Nat → Bool) {id : Nat} {ops : Array Oper} (h : aops P keep ops ops.toList st (Q .normal) Qp) : awp P (.region id ops false) Q Qp st := by
  intro c g w a hi hm hd
  refine wp_region (aops_wp (keep := keep) _ st g w a hi hm hd ?_)
  rw [range_opers]; exact h

/-- A loop at its round's head. -/
def awpL (P : Program) (x : Code) (Q : Exit → ASt → Prop) (Qp : AV → ASt → Prop) (st : ASt) : Prop :=
  ∀ (c : Cx) (g : Gh) (w : World) (a : Act), Inv c g st w → Tm g w st a → a.defers = [] → ∀ (b : Frame) (k : List Item) (cs : List Frame),
    ∃ e a' w', QS c Q Qp e a' w' ∧ Arrives P (lone (b.at a (.code x :: .inLoop x :: k)) cs w) b k cs e a' w'

theorem awp_loop {x : Code} (h : awpL P x Q Qp st) : awp P (.loop x) Q Qp st := by
  intro c g w a hi hm hd b k cs
  obtain ⟨e, a', w', hq, harr⟩ := h c g w a hi hm hd b k cs
  exact ⟨e, a', w', hq, .of_steps (.one step_loop) harr⟩

/-- A round, and what is to do behind it. -/
theorem awpL_round {x : Code} (h : awp P x (thenA (awpL P x Q Qp) Q) Qp st) : awpL P x Q Qp st := by
  intro c g w a hi hm hd b k cs
  obtain ⟨e, a₁, w₁, ⟨st', g', h1, h2, h3, h4⟩, harr⟩ := h c g w a hi hm hd b (.inLoop x :: k) cs
  cases e with
  | normal =>
    obtain ⟨e₂, a₂, w₂, hq₂, harr₂⟩ := h4 c g' w₁ a₁ h1 h2 h3 b k cs
    exact ⟨e₂, a₂, w₂, hq₂, .of_steps (Steps.trans harr (.one step_inLoop)) harr₂⟩
  | exit id => exact ⟨_, a₁, w₁, ⟨st', g', h1, h2, h3, h4⟩, .pass (x := .inLoop x) rfl (fun _ _ => .inl (by simp)) harr⟩
  | goto l => exact ⟨_, a₁, w₁, ⟨st', g', h1, h2, h3, h4⟩, .pass (x := .inLoop x) rfl (fun _ _ => .inl (by simp)) harr⟩
  | ret => exact ⟨_, a₁, w₁, ⟨st', g', h1, h2, h3, h4⟩, .pass (x := .inLoop x) rfl (fun _ _ => .inl (by simp)) harr⟩
  | panic ch => exact ⟨_, a₁, w₁, ⟨st', g', h1, h2, h3, h4⟩, .pass (x := .inLoop x) rfl (fun _ _ => .inl (by simp)) harr⟩
  | outgrown => exact h4.elim

/-- What holds of one state holds of another. -/
def Le (st st' : ASt) : Prop := ∀ (c : Cx) (g : Gh) (w : World) (a : Act), Inv c g st w → Tm g w st a → ∃ g', Inv c g' st' w ∧ Tm g' w st' a
theorem awp_le {x : Code} {st' : ASt} (hl : Le st st') (h : awp P x Q Qp st') : awp P x Q Qp st := by
  intro c g w a hi hm hd
  obtain ⟨g', h1, h2⟩ := hl c g w a hi hm
  exact h c g' w a h1 h2 hd
theorem awpL_le {x : Code} {st' : ASt} (hl : Le st st') (h : awpL P x Q Qp st') : awpL P x Q Qp st := by
  intro c g w a hi hm hd
  obtain ⟨g', h1, h2⟩ := hl c g w a hi hm
  exact h c g' w a h1 h2 hd

theorem awp_mono {x : Code} {Q' : Exit → ASt → Prop} {Qp' : AV → ASt → Prop} (h : awp P x Q Qp st) (hq : ∀ e st, Q e st → Q' e st) (hp : ∀ v st, Qp v st → Qp' v st) : awp P x Q' Qp' st := by
  intro c g w a hi hm hd
  refine wp_mono (h c g w a hi hm hd) ?_
  rintro e a' w' ⟨st', g', h1, h2, h3, h4⟩
  refine ⟨st', g', h1, h2, h3, ?_⟩
  cases e with
  | panic ch =>
    obtain ⟨v, x, h5, h6, h7⟩ := h4
    exact ⟨v, x, h5, h6, hp _ _ h7⟩
  | outgrown => exact h4.elim
  | _ => exact hq _ _ h4
end

/-! ### Functions -/
def resOne (P : Program) (st : ASt) : ResultVar → Option AV
  | .tmp t => some (st.get t)
  | .cell p t => match st.mem (st.get p) with
    | some cs => if 0 < (ty P t).size ∧ (ty P t).size ≤ cs.length then some (AV.ofCells (ty P t).k.agg (ty P t).size cs) else none
    | none => none
def resAll (P : Program) (st : ASt) : List ResultVar → Option (List AV)
  | [] => some []
  | r :: rs => match resOne P st r, resAll P st rs with
    | some v, some vs => some (v :: vs)
    | _, _ => none
def resV : List AV → AV
  | [v] => v
  | vs => .tuple vs

def closeE (ext : List (List AV)) : List (List AV) := ext.map fun cs => cs.map AV.cl1

/-- What is asked where a body ends. -/
def endQ (P : Program) (rs : List ResultVar) (Q : AOut → List (List AV) → Prop) : Exit → ASt → Prop
  | .normal, st | .ret, st => ∃ vs, resAll P st rs = some vs ∧ Q (.ret (resV vs).cl) (closeE st.ext)
  | _, _ => False
def endP (Q : AOut → List (List AV) → Prop) : AV → ASt → Prop := fun v st => Q (.panic v.cl) (closeE st.ext)

def resSem (tmps : Array Value) : ResultVar → Sem Value
  | .tmp t => pure (tmps.getD t undef)
  | .cell p t => do loadVar t (← asAddr (tmps.getD p undef))
theorem results_eq (fn : Func) (tmps : Array Value) : results fn tmps = (do
    let vs ← fn.results.mapM (resSem tmps)
    pure (if h : vs.size = 1 then vs[0] else .tuple vs)) := rfl

theorem resAll_run {P : Program} {c : Cx} {g : Gh} {st : ASt} {w : World} {a : Act} (hi : Inv c g st w) (hm : Tm g w st a) : ∀ (rs : List ResultVar) (vs : List AV), resAll P st rs = some vs →
    ∃ xs, (rs.mapM (resSem a.tmps)).run P w = .ok xs w ∧ vs.length = xs.length ∧ ∀ j (h : j < vs.length) (h' : j < xs.length), VR g w vs[j] xs[j]
  | [], vs, h => by
    simp only [resAll, Option.some.injEq] at h
    subst h
    exact ⟨[], rfl, rfl, fun j h => by simp at h⟩
  | r :: rs, vs, h => by
    simp only [resAll] at h
    split at h
    · rename_i v vs' h1 h2
      simp only [Option.some.injEq] at h
      subst h
      obtain ⟨xs, hr, hl, hv⟩ := resAll_run hi hm rs vs' h2
      have hone : ∃ x, (resSem a.tmps r).run P w = .ok x w ∧ VR g w v x := by
        cases r with
        | tmp t =>
          simp only [resOne, Option.some.injEq] at h1
          subst h1
          exact ⟨_, rfl, hm.2 t⟩
        | cell p t =>
          simp only [resOne] at h1
          split at h1
          · rename_i cs hcs
            split at h1
            · rename_i hsz
              simp only [Option.some.injEq] at h1
              subst h1
              obtain ⟨b, o, hx, hc⟩ := mem_vr hi (hm.2 p) hcs
              obtain ⟨x, hr, hv⟩ := load_run (P := P) (t := t) hsz.1 hsz.2 hc
              exact ⟨x, by simp only [resSem, hx, asAddr, Sem.run_bind, Sem.run_pure, Result.andThen_ok, hr], hv⟩
            · cases h1
          · cases h1
      obtain ⟨x, hx, hxv⟩ := hone
      refine ⟨x :: xs, ?_, by simp [hl], fun j h h' => ?_⟩
      · rw [List.mapM_cons]
        simp only [Sem.run_bind]
        rw [hx]
        simp only [Result.andThen_ok, hr, Sem.run_pure]
      · cases j with
        | zero => simpa using hxv
        | succ j => simpa using hv j (by simpa using h) (by simpa using h')
    · cases h

theorem results_run {P : Program} {c : Cx} {g : Gh} {st : ASt} {w : World} {a : Act} {fn : Func} (hi : Inv c g st w) (hm : Tm g w st a) {vs : List AV} (h : resAll P st fn.results.toList = some vs) :
    ∃ x, (results fn a.tmps).run P w = .ok x w ∧ VD g.D w (resV vs).cl x := by
  obtain ⟨xs, hr, hl, hv⟩ := resAll_run (P := P) hi hm _ vs h
  have hrun : (results fn a.tmps).run P w = .ok (if h : xs.toArray.size = 1 then xs.toArray[0] else .tuple xs.toArray) w := by
    rw [results_eq, Array.mapM_eq_mapM_toList]
    simp only [Sem.run_bind, Sem.run_map, hr, Result.andThen_ok, Sem.run_pure]
  refine ⟨_, hrun, ?_⟩
  by_cases h1 : xs.length = 1
  · obtain ⟨x, rfl⟩ := List.length_eq_one_iff.1 h1
    obtain ⟨v, rfl⟩ := List.length_eq_one_iff.1 (hl.trans h1)
    exact (hv 0 (by simp) (by simp)).cl_of
  · have hne : vs.length ≠ 1 := by omega
    have e1 : resV vs = .tuple vs := by
      unfold resV
      split
      · simp at hne
      · rfl
    have e2 : (if h : xs.toArray.size = 1 then xs.toArray[0] else Value.tuple xs.toArray) = .tuple xs.toArray := by
      rw [dif_neg (by simpa using h1)]
    rw [e1, e2]
    exact (VR.tuple vs xs.toArray (by simpa using hl) (fun j h h' => by simpa using hv j h (by simpa using h'))).cl_of

def argT (args : List AV) : List (Nat × AV) := (List.range args.length).zip args

theorem look_args : ∀ (args : List AV) (i t : Nat), look ((List.range' i args.length).zip args) t = if i ≤ t then args[t - i]? else none
  | [], i, t => by simp [look]
  | v :: r, i, t => by
    rw [List.length_cons, List.range'_succ, List.zip_cons_cons, look, look_args r (i + 1) t]
    by_cases h : i = t
    · subst h; simp
    · simp only [h, if_false]
      by_cases h2 : i ≤ t
      · rw [if_pos (by omega), if_pos h2, show t - i = (t - (i + 1)) + 1 by omega]; simp
      · rw [if_neg (by omega), if_neg h2]

theorem Inv.entry {c : Cx} {ext : List (List AV)} (h : Entry c ext) (n : Nat) (tmps : List (Nat × AV)) : Inv c c.g0 ⟨n, tmps, [], ext, []⟩ c.w0 := by
  refine ⟨⟨.refl _ _, Nat.le_refl _, fun _ _ _ => rfl, rfl, rfl, rfl, fun _ _ h => .inl h⟩, rfl, h.nodup, h.ebl, (fun i b h => by cases h), (fun i e b h => by cases h), (fun i z cs h => by simp [look] at h), (fun i b h => by cases h), ⟨h.len, fun i h1 h2 => ⟨?_, (h.blk i h1 h2).2⟩⟩,
    (fun id t k n h => by simp [look] at h), (fun i e h => by cases h), (fun i j b h => by cases h), (fun i j e e' b h => by cases h), (fun i j b e h => by cases h), h.dlt⟩
  obtain ⟨arr, t, g1, g2, g3⟩ := (h.blk i h1 h2).1
  exact ⟨arr, t, g1, g2, fun j h h' => .cl _ _ (g3 j h h')⟩

theorem Inv.left {c : Cx} {g : Gh} {st : ASt} {w : World} (hi : Inv c g st w) : Left c g.D w (closeE st.ext) := by
  refine ⟨hi.since, hi.dlt, by simp [closeE, hi.ext.1], fun i h h' => ?_⟩
  have h'' : i < st.ext.length := by simpa [closeE] using h'
  obtain ⟨⟨arr, t, g1, g2, g3⟩, g4⟩ := hi.ext.2 i h h''
  refine ⟨⟨arr, t, g1, by simpa [closeE] using g2, fun j h h' => ?_⟩, g4⟩
  simp only [closeE, List.getElem_map] at h ⊢
  exact (g3 j (by simpa using h) h').cl1_of

theorem calls_of_body {P : Program} {f : FuncId} {fn : Func} {code : Code} (hf : P.funcs[f]? = some fn) (hb : fn.body = some code) (hname : (fn.name == "runtime.NumGoroutine") = false) {rs : List ResultVar} (hrs : fn.results.toList = rs) {n : Nat} (hnt : fn.ntmps = n)
    {args : List AV} {ext : List (List AV)} {Q : AOut → List (List AV) → Prop} (hlen : args.length ≤ n) (h : awp P code (endQ P rs Q) (endP Q) ⟨n, argT args, [], ext, []⟩) : ACalls P f args ext Q := by
  intro c cargs hent hal hargs
  have henter : (callFunc f cargs).run P c.w0 = .ok (.enter f cargs) c.w0 := by
    have hne : ¬ fn.name = "runtime.NumGoroutine" := by simpa using hname
    simp [callFunc, hf, hb, hne]
  unfold CallsTo
  rw [henter]
  have hm : Tm c.g0 c.w0 ⟨n, argT args, [], ext, []⟩ { tmps := cargs ++ Array.replicate (fn.ntmps - cargs.size) undef, defers := [] } := by
    refine ⟨by simp [hnt]; omega, fun t => ?_⟩
    have hl : look (argT args) t = args[t]? := by
      have := look_args args 0 t
      rw [← List.range_eq_range'] at this
      simpa [argT] using this
    simp only [ASt.get, hl]
    by_cases ht : t < args.length
    · rw [List.getElem?_eq_getElem ht, Option.getD_some]
      have : (cargs ++ Array.replicate (fn.ntmps - cargs.size) undef).getD t undef = cargs[t]'(by omega) := by
        simp [Array.getD, Array.getElem_append_left (show t < cargs.size by omega)]; omega
      rw [this]
      exact hargs t ht (by omega)
    · rw [List.getElem?_eq_none (by omega), Option.getD_none]
      exact .cl _ _ (.junk _)
  have hwp := h c c.g0 c.w0 _ (Inv.entry hent n (argT args)) hm rfl
  refine calls_of_wp hf hb (wp_mono hwp ?_)
  rintro e a' w' ⟨st, g, h1, h2, h3, h4⟩
  have fin : (∃ vs, resAll P st rs = some vs ∧ Q (.ret (resV vs).cl) (closeE st.ext)) → a'.defers = [] ∧ ∃ v, (results fn a'.tmps).run P w' = .ok v w' ∧ ∃ out ext' D', Q out ext' ∧ Left c D' w' ext' ∧ Outs D' w' out (.returned v) := by
    rintro ⟨vs, hvs, hq⟩
    rw [← hrs] at hvs
    obtain ⟨x, hr, hv⟩ := results_run (P := P) h1 h2 hvs
    exact ⟨h3, x, hr, _, _, _, hq, h1.left, hv⟩
  cases e with
  | normal => exact fin h4
  | ret => exact fin h4
  | panic chain =>
    obtain ⟨v, x, rfl, hv, hq⟩ := h4
    exact ⟨h3, _, _, _, hq, h1.left, x, rfl, hv.cl_of⟩
  | outgrown => exact h4.elim
  | exit id => exact h4.elim
  | goto l => exact h4.elim

theorem ACalls.mono {P : Program} {f : FuncId} {args : List AV} {ext : List (List AV)} {Q Q' : AOut → List (List AV) → Prop} (h : ACalls P f args ext Q) (hq : ∀ o e, Q o e → Q' o e) : ACalls P f args ext Q' :=
  fun c cargs h1 h2 h3 => Calls.mono' (h c cargs h1 h2 h3) fun e w' ⟨o, x, D, q, r⟩ => ⟨o, x, D, hq _ _ q, r⟩
end Go.Proofs.Eng
