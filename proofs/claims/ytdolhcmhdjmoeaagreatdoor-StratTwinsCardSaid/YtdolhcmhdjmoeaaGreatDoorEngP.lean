/- The walk by reckoning, third part: operations in a row; regions. -/
import Derived.Test.YtdolhcmhdjmoeaaGreatDoorEngO
set_option linter.unusedSimpArgs false
set_option linter.unusedVariables false
namespace Go.Proofs.Eng
open Go

def rcapt (keep : Nat → Bool) (st : ASt) : List Operand → Option (List AV × ASt)
  | [] => some ([], st)
  | x :: r => match st.ev x with
    | .varp i off => if keep i = true then (match rcapt keep st r with
        | some (l, st') => some (.varp i off :: l, st')
        | none => none)
      else match look st.vars i with
        | some (_, cs) => if cs.all AV.isCl1 = true then (match rcapt keep { st with vars := (i, (true, cs)) :: st.vars } r with
            | some (l, st') => some (.inp (cs.drop off) :: l, st')
            | none => none) else none
        | none => none
    | v => match rcapt keep st r with
      | some (l, st') => some (v :: l, st')
      | none => none

theorem rcapt_ok {keep : Nat → Bool} : ∀ (l : List Operand) (st : ASt) {vs : List AV} {st' : ASt}, rcapt keep st l = some (vs, st') → ∀ {K : List AV → ASt → Prop}, K vs st' → capt keep st l K
  | [], st, vs, st', h, K, hk => by cases h; exact hk
  | x :: r, st, vs, st', h, K, hk => by
    simp only [rcapt] at h
    simp only [capt]
    split at h
    · rename_i i off hx
      simp only [hx]
      split at h
      · rename_i hke
        rw [if_pos hke]
        split at h
        · rename_i l st1 hr
          cases h
          exact rcapt_ok r st hr hk
        · cases h
      · rename_i hke
        rw [if_neg hke]
        split at h
        · rename_i z cs hl
          simp only [hl]
          split at h
          · rename_i hall
            split at h
            · rename_i l st1 hr
              cases h
              exact ⟨hall, rcapt_ok r _ hr hk⟩
            · cases h
          · cases h
        · cases h
    · rename_i v hne
      split at h
      · rename_i l st1 hr
        cases h
        split
        · rename_i i off hx
          exact absurd hx (hne i off)
        · exact rcapt_ok r st hr hk
      · cases h

def isNoneB {α : Type} : Option α → Bool
  | none => true
  | some _ => false
theorem isNoneB_eq {α : Type} {o : Option α} (h : isNoneB o = true) : o = none := by cases o <;> simp_all [isNoneB]

/-- An operation that makes or writes memory. -/
def reff (P : Program) (keep : Nat → Bool) (st : ASt) (dst : Option Tmp) (hv : AV) : Op → Option (List Prop × AV × ASt)
  | .alloc t => match dst with
    | some d => if isNoneB (look st.vars d) = true ∧ 0 < (ty P t).zero.length then some ([], .varp d 0, { st with vars := (d, (false, (ty P t).zero)) :: st.vars }) else none
    | none => none
  | .box _ x => match dst with
    | some d => if isNoneB (look st.vars d) = true ∧ (st.ev x).isJunk = false then some ([], .varp d 0, { st with vars := (d, (false, (st.ev x).cells)) :: st.vars }) else none
    | none => none
  | .store t p x => match st.ev p with
    | .varp i off => match look st.vars i with
      | some (false, cs) => if (st.ev x).isJunk = false ∧ (st.ev x).cells.all AV.cellOk = true ∧ (0 < (ty P t).size ∧ (st.ev x).cells.length = (ty P t).size) ∧ off + (ty P t).size ≤ cs.length then
          some ([], .junk, { st with vars := (i, (false, cs.take off ++ (st.ev x).cells ++ cs.drop (off + (ty P t).size))) :: st.vars }) else none
      | _ => none
    | .extp i off => match st.ext[i]? with
      | some cs => if (st.ev x).isJunk = false ∧ (st.ev x).cells.all AV.cellOk = true ∧ (0 < (ty P t).size ∧ (st.ev x).cells.length = (ty P t).size) ∧ off + (ty P t).size ≤ cs.length then
          some ([], .junk, { st with ext := st.ext.set i (cs.take off ++ (st.ev x).cells ++ cs.drop (off + (ty P t).size)) }) else none
      | none => none
    | _ => none
  | .buildSlice t n parts => match dst, (ty P t).k with
    | some d, .slice e => if isNoneB (look st.fronts d) = true ∧ (0 < (ty P e).size ∧ (ty P e).zero.length = (ty P e).size) ∧ parts.toList.map (·.1) = List.range n ∧ n * (ty P e).size ≤ 16777216 ∧
        (parts.toList.all fun p => decide ((st.ev p.2).cl2.cells.length = (ty P e).size) && (st.ev p.2).cl2.cells.all AV.cellOk) = true then
        some ([], .slice (.own d) (ty P e).size (parts.toList.map fun p => (st.ev p.2).cl2), { st with fronts := (d, (e, (ty P e).size, n)) :: st.fronts }) else none
    | _, _ => none
  | .makeFunc (.func f) first captured => if first.toList.length = 0 then match rcapt keep st captured.toList with
      | some (l, st') => some ([], .func f l, st')
      | none => none else none
  | .call c => match dst, c.callee, c.args.toList, c.argTypes.toList with
    | some d, .builtin .append, [s, x], [t, t'] => match (ty P t).k with
      | .slice e => if t' = t ∧ 0 < (ty P e).size ∧ (ty P e).zero.length = (ty P e).size then match st.ev s, st.ev x, hv with
        | .slice (.own id) k els, .slice _ k' ys, .slice _ _ zs => match look st.fronts id with
          | some (e', k'', n) => if k = (ty P e).size ∧ k' = (ty P e).size ∧ e' = e ∧ k'' = (ty P e).size then
              some ([n = els.length, zs.length * (ty P e).bytes ≤ 140737488355328, zs.length ≤ 140737488355328, els ++ ys = zs],
                .slice (.own id) k zs, { st with fronts := (id, (e, k'', zs.length)) :: st.fronts }) else none
          | none => none
        | .slice (.own id) k els, .nils, _ => match look st.fronts id with
          | some (e', k'', n) => if k = (ty P e).size ∧ e' = e ∧ k'' = (ty P e).size then some ([n = els.length], .slice (.own id) k els, st) else none
          | none => none
        | .nils, .slice _ k' ys, _ => if isNoneB (look st.fronts d) = true ∧ k' = (ty P e).size then
            some ([ys.length * (ty P e).bytes ≤ 140737488355328, ys.length ≤ 140737488355328], .slice (.own d) k' ys, { st with fronts := (d, (e, (ty P e).size, ys.length)) :: st.fronts }) else none
        | .nils, .nils, _ => some ([], .nils, st)
        | _, _, _ => none else none
      | _ => none
    | _, _, _, _ => none
  | _ => none

theorem reff_ok {P : Program} {keep : Nat → Bool} {st st' : ASt} {dst : Option Tmp} {hv : AV} {op : Op} {cs : List Prop} {v : AV} (h : reff P keep st dst hv op = some (cs, v, st')) (hc : allP cs) {K : AV → ASt → Prop} (hk : K v st') : aeff P keep st dst op K := by
  cases op with
  | alloc t =>
    simp only [reff] at h
    cases dst with
    | none => simp at h
    | some d =>
      simp only at h
      split at h
      · rename_i hh
        cases h
        exact ⟨⟨isNoneB_eq hh.1, hh.2⟩, hk⟩
      · cases h
  | box t x =>
    simp only [reff] at h
    cases dst with
    | none => simp at h
    | some d =>
      simp only at h
      split at h
      · rename_i hh
        cases h
        exact ⟨⟨isNoneB_eq hh.1, hh.2⟩, hk⟩
      · cases h
  | store t p x =>
    simp only [reff] at h
    simp only [aeff]
    split at h
    · rename_i i off hp
      simp only [hp]
      split at h
      · rename_i cs' hcs
        simp only [hcs]
        split at h
        · rename_i hh
          cases h
          exact ⟨hh, hk⟩
        · cases h
      · cases h
    · rename_i i off hp
      simp only [hp]
      split at h
      · rename_i cs' hcs
        simp only [hcs]
        split at h
        · rename_i hh
          cases h
          exact ⟨hh, hk⟩
        · cases h
      · cases h
    · cases h
  | buildSlice t n parts =>
    simp only [reff] at h
    simp only [aeff]
    split at h
    · rename_i d e he
      simp only [he]
      split at h
      · rename_i hh
        cases h
        exact ⟨⟨isNoneB_eq hh.1, hh.2⟩, hk⟩
      · cases h
    · cases h
  | makeFunc fn first captured =>
    cases fn with
    | func f =>
      simp only [reff] at h
      simp only [aeff]
      split at h
      · rename_i hl
        split at h
        · rename_i l st1 hr
          cases h
          exact ⟨List.eq_nil_of_length_eq_zero hl, rcapt_ok _ _ hr hk⟩
        · cases h
      · cases h
    | _ => simp [reff] at h
  | call c =>
    simp only [reff] at h
    simp only [aeff]
    split at h
    · rename_i d s x t t' h1 h2 h3
      simp only [h1, h2, h3]
      split at h
      · rename_i e he
        simp only [he]
        split at h
        · rename_i hh
          refine ⟨hh, ?_⟩
          split at h
          · rename_i id k els o k' ys o2 k2 zs g1 g2
            simp only [g1, g2]
            split at h
            · rename_i e' k'' n hf
              split at h
              · rename_i hz
                obtain ⟨z1, z2, rfl, rfl⟩ := hz
                cases h
                obtain ⟨c1, c2, c3, rfl, _⟩ := hc
                rw [List.length_append] at c2 c3
                subst c1
                refine ⟨⟨⟨z1, z2⟩, hf, c2, c3⟩, ?_⟩
                rw [List.length_append] at hk
                exact hk
              · cases h
            · cases h
          · rename_i id k els g1 g2
            simp only [g1, g2]
            split at h
            · rename_i e' k'' n hf
              split at h
              · rename_i hz
                obtain ⟨z1, rfl, rfl⟩ := hz
                cases h
                obtain ⟨c1, _⟩ := hc
                subst c1
                exact ⟨⟨z1, hf⟩, hk⟩
              · cases h
            · cases h
          · rename_i o k' ys g1 g2
            simp only [g1, g2]
            split at h
            · rename_i hz
              cases h
              exact ⟨⟨isNoneB_eq hz.1, hz.2, hc.1, hc.2.1⟩, hk⟩
            · cases h
          · rename_i g1 g2
            simp only [g1, g2]
            cases h; exact hk
          · cases h
        · cases h
      · cases h
    · cases h
  | _ => simp [reff] at h

/-- Any operation. -/
def rop (P : Program) (keep : Nat → Bool) (st : ASt) (dst : Option Tmp) (hv : AV) (op : Op) : Option (List Prop × AV × ASt) :=
  match op with
  | .call { callee := .value x, args := args, argTypes := _ } => match st.ev x with
    | .func f caps => some ([Det P f ((args.toList.map st.ev ++ caps).map AV.cl) (.ret hv)], hv, st)
    | _ => none
  | op => if isEff op = true then reff P keep st dst hv op else match rval P st hv op with
    | some (cs, v) => some (cs, v, st)
    | none => none

theorem rop_ok {P : Program} {keep : Nat → Bool} {st st' : ASt} {dst : Option Tmp} {hv : AV} {op : Op} {cs : List Prop} {v : AV} (h : rop P keep st dst hv op = some (cs, v, st')) (hc : allP cs) {K Kp : AV → ASt → Prop} (hk : K v st') : aop P keep st dst op K Kp := by
  unfold rop at h
  unfold aop
  split at h
  · rename_i x args ts
    simp only
    unfold acall
    split at h
    · rename_i f caps hf
      cases h
      simp only [hf]
      exact ⟨_, hc.1, hk⟩
    · cases h
  · rename_i op' hne
    split
    · rename_i x args ts
      exact absurd rfl (hne x args ts)
    · split at h
      · rename_i he
        rw [if_pos he]
        exact reff_ok h hc hk
      · rename_i he
        rw [if_neg he]
        split at h
        · rename_i cs' v' hr
          cases h
          exact rval_ok hr hc hk
        · cases h

/-- A test that the reader has settled. -/
def settle (gs : List (Nat × Bool)) (i : Nat) (v : AV) : Option (List Prop × AV) :=
  match look gs i with
  | none => some ([], v)
  | some b' => match v with
    | .val (.bool b) => some ([b = b'], .val (.bool b'))
    | _ => none

theorem settle_ok {gs : List (Nat × Bool)} {i : Nat} {v v' : AV} {cs : List Prop} (h : settle gs i v = some (cs, v')) (hc : allP cs) : v = v' := by
  unfold settle at h
  split at h
  · cases h; rfl
  · split at h
    · cases h
      rw [hc.1]
    · cases h

def dstB (st : ASt) (dst : Option Tmp) : Bool := match dst with | some d => decide (d < st.n) | none => true
theorem dstB_ok {st : ASt} {dst : Option Tmp} (h : dstB st dst = true) : dstOk st dst := by
  cases dst with
  | none => trivial
  | some d => simpa [dstB, dstOk] using h

/-- Operations in a row: the facts that they lean on, and the state behind them. -/
def rops (P : Program) (keep : Nat → Bool) (ops : Array Oper) (hs : List (Nat × AV)) (gs : List (Nat × Bool)) : List Oper → Nat → ASt → Option (List Prop × ASt)
  | [], _, st => some ([], st)
  | o :: r, i, st => match o.guard with
    | none => match rop P keep st o.dst ((look hs i).getD .junk) o.op with
      | some (c1, v, st1) => match settle gs i v with
        | some (c2, v') => if dstB st1 o.dst = true then match rops P keep ops hs gs r (i + 1) (st1.putO o.dst v') with
          | some (c3, st2) => some (c1 ++ (c2 ++ c3), st2)
          | none => none else none
        | none => none
      | none => none
    | some (j, want) => match (ops[j]?).bind (·.dst) with
      | some d => if d < st.n then match st.get d with
        | .val (.bool b) => if b = want then (match rop P keep st o.dst ((look hs i).getD .junk) o.op with
            | some (c1, v, st1) => match settle gs i v with
              | some (c2, v') => if dstB st1 o.dst = true then match rops P keep ops hs gs r (i + 1) (st1.putO o.dst v') with
                | some (c3, st2) => some (c1 ++ (c2 ++ c3), st2)
                | none => none else none
              | none => none
            | none => none) else if dstB st o.dst = true then rops P keep ops hs gs r (i + 1) (st.putO o.dst .undef) else none
        | .tuple [] => if dstB st o.dst = true then rops P keep ops hs gs r (i + 1) (st.putO o.dst .undef) else none
        | _ => none else none
      | none => none

theorem rops_ok {P : Program} {keep : Nat → Bool} {ops : Array Oper} {hs : List (Nat × AV)} {gs : List (Nat × Bool)} : ∀ (l : List Oper) (i : Nat) (st : ASt) {cs : List Prop} {st' : ASt}, rops P keep ops hs gs l i st = some (cs, st') → allP cs →
    ∀ {K : ASt → Prop} {Kp : AV → ASt → Prop}, K st' → aops P keep ops l st K Kp
  | [], i, st, cs, st', h, hc, K, Kp, hk => by cases h; exact hk
  | o :: r, i, st, cs, st', h, hc, K, Kp, hk => by
    simp only [rops] at h
    simp only [aops]
    split at h
    · rename_i hg
      simp only [hg]
      split at h
      · rename_i c1 v st1 h1
        split at h
        · rename_i c2 v' h2
          split at h
          · rename_i h3
            split at h
            · rename_i c3 st2 h4
              cases h
              rw [allP_app, allP_app] at hc
              have := settle_ok h2 hc.2.1
              subst this
              exact rop_ok h1 hc.1 ⟨dstB_ok h3, rops_ok r _ _ h4 hc.2.2 hk⟩
            · cases h
          · cases h
        · cases h
      · cases h
    · rename_i j want hg
      simp only [hg]
      split at h
      · rename_i d hd
        simp only [hd]
        split at h
        · rename_i hn
          refine ⟨hn, ?_⟩
          split at h
          · rename_i b hb
            simp only [hb]
            split at h
            · rename_i hw
              rw [if_pos hw]
              split at h
              · rename_i c1 v st1 h1
                split at h
                · rename_i c2 v' h2
                  split at h
                  · rename_i h3
                    split at h
                    · rename_i c3 st2 h4
                      cases h
                      rw [allP_app, allP_app] at hc
                      have := settle_ok h2 hc.2.1
                      subst this
                      exact rop_ok h1 hc.1 ⟨dstB_ok h3, rops_ok r _ _ h4 hc.2.2 hk⟩
                    · cases h
                  · cases h
                · cases h
              · cases h
            · rename_i hw
              rw [if_neg hw]
              split at h
              · rename_i h3
                exact ⟨dstB_ok h3, rops_ok r _ _ h hc hk⟩
              · cases h
          · rename_i hb
            simp only [hb]
            split at h
            · rename_i h3
              exact ⟨dstB_ok h3, rops_ok r _ _ h hc hk⟩
            · cases h
          · cases h
        · cases h
      · cases h
end Go.Proofs.Eng
