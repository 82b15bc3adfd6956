/- A call that writes variables of its caller's. -/
import Derived.Test.YtdolhcmhdjmoeaaGreatDoorEngR
set_option linter.unusedSimpArgs false
set_option linter.unusedVariables false
namespace Go.Proofs.Eng
open Go

def pos : List Nat → Nat → Option Nat
  | [], _ => none
  | a :: r, i => if a = i then some 0 else (pos r i).map (· + 1)
theorem pos_get : ∀ {l : List Nat} {i j : Nat}, pos l i = some j → l[j]? = some i
  | [], i, j, h => by cases h
  | a :: r, i, j, h => by
    simp only [pos] at h
    split at h
    · rename_i ha; cases h; simp [ha]
    · cases hp : pos r i with
      | none => simp [hp] at h
      | some k => simp [hp] at h; subst h; simpa using pos_get hp
theorem pos_some : ∀ {l : List Nat} {i : Nat}, i ∈ l → ∃ j, pos l i = some j
  | [], i, h => by cases h
  | a :: r, i, h => by
    simp only [pos]
    split
    · exact ⟨0, rfl⟩
    · rename_i ha
      obtain ⟨j, hj⟩ := pos_some (l := r) (i := i) (by
        rcases List.mem_cons.1 h with h | h
        · exact absurd h.symm ha
        · exact h)
      exact ⟨j + 1, by simp [hj]⟩

def lend0 (l : List Nat) : AV → AV
  | .varp i off => match pos l i with
    | some j => .extp j off
    | none => .junk
  | v => v.cl0
/-- A worth as the callee sees it that may write the variables l. -/
def lend (l : List Nat) : AV → AV
  | .varp i off => lend0 l (.varp i off)
  | .func f caps => .func f (caps.map (lend0 l))
  | v => v.cl

theorem lend0_vr {g : Gh} {w : World} {l eb : List Nat} (hl : ∀ (j i : Nat), l[j]? = some i → g.vb i = eb[j]?) {v : AV} {x : Value} (h : VR g w v x) : VR ⟨g.D, fun _ => none, eb, fun _ => none⟩ w (lend0 l v) x := by
  unfold lend0
  split
  · rename_i i off
    split
    · rename_i j hj
      obtain ⟨b, hb, rfl⟩ := h.varp_of
      exact .extp j off b (by rw [← hl j i (pos_get hj)]; exact hb)
    · exact .cl _ _ (.junk _)
  · exact .cl _ _ h.cl0_of

theorem lend_vr {g : Gh} {w : World} {l eb : List Nat} (hl : ∀ (j i : Nat), l[j]? = some i → g.vb i = eb[j]?) {v : AV} {x : Value} (h : VR g w v x) : VR ⟨g.D, fun _ => none, eb, fun _ => none⟩ w (lend l v) x := by
  unfold lend
  split
  · exact lend0_vr hl h
  · rename_i f caps
    obtain ⟨arr, rfl, hs, hv⟩ := h.at_func
    refine .func f _ arr (by simpa using hs) fun j h1 h2 => ?_
    simp only [List.getElem_map]
    exact lend0_vr hl (hv j (by simpa using h1) h2)
  · exact .cl _ _ h.cl_of

/-- The cells of the variables that are lent. -/
def lentCells (st : ASt) : List Nat → Option (List (List AV))
  | [] => some []
  | i :: r => match look st.vars i, lentCells st r with
    | some (false, cs), some e => some (cs.map AV.cl1 :: e)
    | _, _ => none

def giveBack (st : ASt) (l : List Nat) (ext : List (List AV)) : ASt := { st with vars := (l.zip ext).map (fun p => (p.1, (false, p.2))) ++ st.vars }

theorem lentCells_at {st : ASt} : ∀ {l : List Nat} {ext : List (List AV)}, lentCells st l = some ext → ext.length = l.length ∧ ∀ j (h : j < l.length) (h' : j < ext.length), ∃ cs, look st.vars l[j] = some (false, cs) ∧ ext[j] = cs.map AV.cl1
  | [], ext, h => by cases h; exact ⟨rfl, fun j h => by simp at h⟩
  | i :: r, ext, h => by
    simp only [lentCells] at h
    split at h
    · rename_i cs e h1 h2
      cases h
      obtain ⟨g1, g2⟩ := lentCells_at h2
      refine ⟨by simp [g1], fun j h h' => ?_⟩
      cases j with
      | zero => exact ⟨cs, h1, rfl⟩
      | succ j => exact g2 j (by simpa using h) (by simpa using h')
    · cases h

theorem look_back (vars : List (Nat × (Bool × List AV))) : ∀ (l : List Nat) (ext : List (List AV)) (i : Nat), ext.length = l.length → look ((l.zip ext).map (fun p => (p.1, (false, p.2))) ++ vars) i = match pos l i with
    | some j => (ext[j]?).map fun cs => (false, cs)
    | none => look vars i
  | [], [], i, h => rfl
  | a :: l, e :: ext, i, h => by
    simp only [List.zip_cons_cons, List.map_cons, List.cons_append, look, pos]
    split
    · simp
    · rw [look_back vars l ext i (by simpa using h)]
      cases pos l i <;> simp
  | [], _ :: _, i, h => by simp at h
  | _ :: _, [], i, h => by simp at h

/-- Where the lent variables lie. -/
theorem lent_blocks {c : Cx} {g : Gh} {st : ASt} {w : World} (hi : Inv c g st w) : ∀ {l : List Nat} {ext : List (List AV)}, lentCells st l = some ext → ∃ eb : List Nat, eb.length = l.length ∧ ∀ (j i : Nat), l[j]? = some i → g.vb i = eb[j]?
  | [], ext, h => ⟨[], rfl, fun j i h => by simp at h⟩
  | i :: r, ext, h => by
    simp only [lentCells] at h
    split at h
    · rename_i cs e h1 h2
      obtain ⟨eb, g1, g2⟩ := lent_blocks hi h2
      obtain ⟨b, hb, _⟩ := hi.var i _ _ h1
      refine ⟨b :: eb, by simp [g1], fun j k hk => ?_⟩
      cases j with
      | zero => simp at hk; subst hk; simpa using hb
      | succ j => simpa using g2 j k (by simpa using hk)
    · cases h

theorem Inv.lentCall {c : Cx} {g : Gh} {st : ASt} {w w' : World} {D' : Foot} {l eb : List Nat} {ext ext' : List (List AV)} (hi : Inv c g st w) (hnd : l.Nodup) (hle : lentCells st l = some ext) (hel : eb.length = l.length) (heb : ∀ (j i : Nat), l[j]? = some i → g.vb i = eb[j]?)
    (hl : Left ⟨w, g.D, eb⟩ D' w' ext') : Inv c { g with D := D' } (giveBack st l ext') w' ∧ GExt g w { g with D := D' } w' := by
  have hs := hl.since
  have hg : GExt g w { g with D := D' } w' := .of_D hs.dx
  have hvb : ∀ b, b ∈ eb → ∃ i, i ∈ l ∧ g.vb i = some b := by
    intro b hb
    obtain ⟨j, hj, rfl⟩ := List.getElem_of_mem hb
    refine ⟨l[j]'(by omega), List.getElem_mem _, ?_⟩
    rw [heb j _ (List.getElem?_eq_getElem (by omega)), List.getElem?_eq_getElem hj]
  have hb : ∀ b, b < w.heap.size → b ∉ eb → w'.heap[b]? = w.heap[b]? := fun b h h2 => hs.frame b h h2
  have hnew : ∀ b o, D' b o → b < w.heap.size → g.D b o := fun b o h hb => (hs.new b o h).elim id (fun h' => absurd hb (Nat.not_lt.2 h'))
  have hlen : ext'.length = l.length := by have := hl.len; simp only at this; omega
  have old : ∀ b, b < c.w0.heap.size → b ∉ eb := by
    intro b h hb
    obtain ⟨i, _, hi'⟩ := hvb b hb
    have := hi.vbl i b hi'
    omega
  refine ⟨⟨hi.since.step hs.dx hs.size (fun b h _ => hb b (Nat.lt_of_lt_of_le h hi.since.size) (old b h)) hs.os hs.tape hs.output (fun b o h => (hs.new b o h).elim .inl (fun h' => .inr (Nat.le_trans hi.since.size h'))), hi.eb, hi.nodup, hi.ebl, hi.vbl, hi.frl, ?_, ?_, ?_, ?_, hi.fdom, hi.vinj, hi.finj, hi.vf, hl.dlt⟩, hg⟩
  · intro i z cs h
    simp only [giveBack] at h
    rw [look_back _ _ _ _ hlen] at h
    split at h
    · rename_i j hj
      have hjl := pos_get hj
      obtain ⟨hj1, hj2⟩ := List.getElem?_eq_some_iff.1 hjl
      have hje : j < ext'.length := by omega
      rw [List.getElem?_eq_getElem hje] at h
      simp only [Option.map_some, Option.some.injEq, Prod.mk.injEq] at h
      obtain ⟨rfl, rfl⟩ := h
      have hjb : j < eb.length := by omega
      obtain ⟨⟨arr, t, g1, g2, g3⟩, g4⟩ := hl.blk j hjb hje
      refine ⟨eb[j], by rw [heb j i hjl, List.getElem?_eq_getElem hjb], ⟨arr, t, g1, g2, fun q h h' => .cl _ _ (g3 q h h')⟩, fun hz => by simp at hz, fun _ => g4⟩
    · rename_i hp
      obtain ⟨b, h1, h2, h3, h4⟩ := hi.var i z cs h
      have hne : b ∉ eb := by
        intro hbe
        obtain ⟨k, hk, hkb⟩ := hvb b hbe
        have := hi.vinj _ _ _ h1 hkb
        subst this
        obtain ⟨j, hj⟩ := pos_some hk
        rw [hj] at hp; cases hp
      exact ⟨b, h1, h2.mono hg (hb b (vb_lt hi h1) hne), fun hz => ⟨fun o ho => (hs.dx b o ((h3 hz).1 o ho)).1, (h3 hz).2⟩, fun hz o ho => h4 hz o (hnew b o ho (vb_lt hi h1))⟩
  · intro i b h
    have := hi.vdom i b h
    simp only [giveBack]
    rw [look_back _ _ _ _ hlen]
    split
    · rename_i j hj
      obtain ⟨hj1, _⟩ := List.getElem?_eq_some_iff.1 (pos_get hj)
      rw [List.getElem?_eq_getElem (by omega)]; rfl
    · exact this
  · refine ⟨hi.ext.1, fun i h h' => ?_⟩
    have hlt := hi.ebl _ (List.getElem_mem h)
    have hlt2 := Nat.lt_of_lt_of_le hlt hi.since.size
    exact ⟨(hi.ext.2 i h h').1.mono hg (hb _ hlt2 (old _ hlt)), fun o ho => (hi.ext.2 i h h').2 o (hnew _ o ho hlt2)⟩
  · intro id t k n h
    obtain ⟨e, xs, h1, h2, h3, h4, h5⟩ := hi.fr id t k n h
    refine ⟨e, xs, h1, h2, h3, ?_, fun b o hb' ho => h5 b o hb' (hnew b o ho (fr_lt hi h1 hb'))⟩
    refine ⟨h4.1, ?_⟩
    rcases h4.2 with hn | ⟨g', cap, cur, hv, hb', hgg, rest⟩
    · exact .inl hn
    · refine .inr ⟨g', cap, cur, hv, hb', ?_, rest⟩
      rw [hb g' (Array.getElem?_eq_some_iff.1 hgg).1 ?_]
      · exact hgg
      · intro hbe
        obtain ⟨k, _, hkb⟩ := hvb g' hbe
        exact hi.vf k id g' e hkb h1 (by rw [hv]; rfl)

theorem lent_entry {c : Cx} {g : Gh} {st : ASt} {w : World} {l eb : List Nat} {ext : List (List AV)} (hi : Inv c g st w) (hnd : l.Nodup) (hle : lentCells st l = some ext) (hel : eb.length = l.length) (heb : ∀ (j i : Nat), l[j]? = some i → g.vb i = eb[j]?) : Entry ⟨w, g.D, eb⟩ ext := by
  obtain ⟨h1, h2⟩ := lentCells_at hle
  have at_ : ∀ j (h : j < eb.length), ∃ cs, look st.vars (l[j]'(by omega)) = some (false, cs) ∧ g.vb (l[j]'(by omega)) = some eb[j] ∧ ext[j]'(by omega) = cs.map AV.cl1 := by
    intro j h
    obtain ⟨cs, g1, g2⟩ := h2 j (by omega) (by omega)
    exact ⟨cs, g1, by rw [heb j _ (List.getElem?_eq_getElem (by omega)), List.getElem?_eq_getElem h], g2⟩
  refine ⟨?_, ?_, by simp only; omega, ?_, hi.dlt⟩
  · rw [List.nodup_iff_pairwise_ne, List.pairwise_iff_getElem]
    intro i j hi' hj hij he
    simp only at hi' hj he
    obtain ⟨_, _, q1, _⟩ := at_ i hi'
    obtain ⟨_, _, q2, _⟩ := at_ j hj
    have := hi.vinj _ _ _ q1 (he ▸ q2)
    have := (List.nodup_iff_pairwise_ne.1 hnd)
    rw [List.pairwise_iff_getElem] at this
    exact this i j (by omega) (by omega) hij (by assumption)
  · intro b hb
    obtain ⟨j, hj, rfl⟩ := List.getElem_of_mem hb
    obtain ⟨_, _, q, _⟩ := at_ j hj
    exact vb_lt hi q
  · intro j hj hj'
    simp only at hj hj'
    obtain ⟨cs, q1, q2, q3⟩ := at_ j hj
    obtain ⟨b, h3, ⟨arr, t, h4, h5, h6⟩, _, h7⟩ := hi.var _ _ _ q1
    have hb : b = eb[j] := by rw [q2] at h3; exact (Option.some.inj h3).symm
    subst hb
    refine ⟨⟨arr, t, h4, by rw [q3]; simpa using h5, fun k hk hk' => ?_⟩, h7 rfl⟩
    have := (h6 k (by rw [q3] at hk; simpa using hk) hk').cl1_of
    simp only [q3, List.getElem_map]
    exact this

theorem acallX_wp {P : Program} {c : Cx} {g : Gh} {st : ASt} {w : World} {a : Act} (hi : Inv c g st w) (hm : Tm g w st a) {x : Operand} {args : Array Operand} {ts : Array TypeId} {l : List Nat} {ext ext' : List (List AV)} {f : FuncId} {caps : List AV} {out : AOut}
    (hf : st.ev x = .func f caps) (hnd : l.Nodup) (hle : lentCells st l = some ext) (hdet : DetX P f ((args.toList.map st.ev ++ caps).map (lend l)) ext out ext')
    {o : Oper} (ho : o.op = .call { callee := .value x, args := args, argTypes := ts }) {next : Act → World → Prop} {Q' : Exit → Act → World → Prop}
    (hn : ∀ v g' w' y, out = .ret v → Inv c g' (giveBack st l ext') w' → Tm g' w' (giveBack st l ext') a → VR g' w' v y → next (a.put o.dst y) w')
    (hp : ∀ v g' w' y, out = .panic v → Inv c g' (giveBack st l ext') w' → Tm g' w' (giveBack st l ext') a → VR g' w' v y → Q' (.panic [{ v := y, recovered := false }]) a w') :
    o.wp P a w next Q' := by
  obtain ⟨eb, hel, heb⟩ := lent_blocks hi hle
  have hx := ev_vr hm x
  rw [hf] at hx
  obtain ⟨arr, he, hs, hv⟩ := hx.at_func
  have hcall := hdet ⟨w, g.D, eb⟩ ((args.map a.eval) ++ arr) (lent_entry hi hnd hle hel heb) (by simp [hs]) (fun j h1 h2 => by
    simp only [List.getElem_map]
    refine lend_vr heb ?_
    simp only [List.length_map, List.length_append, Array.length_toList] at h1
    by_cases hj : j < args.size
    · have e1 : (args.toList.map st.ev ++ caps)[j]'(by simp; omega) = st.ev args[j] := by
        rw [List.getElem_append_left (by simpa using hj)]; simp
      have e2 : (args.map a.eval ++ arr)[j] = a.eval args[j] := by
        rw [Array.getElem_append_left (by simpa using hj)]; simp
      rw [e1, e2]
      exact ev_vr hm _
    · have e1 : (args.toList.map st.ev ++ caps)[j]'(by simp; omega) = caps[j - args.size]'(by omega) := by
        rw [List.getElem_append_right (by simp; omega)]; simp
      have e2 : (args.map a.eval ++ arr)[j] = arr[j - args.size]'(by omega) := by
        rw [Array.getElem_append_right (by simp; omega)]; simp
      rw [e1, e2]
      exact hv _ _ _)
  have hrun : (execOp a.eval o).run P w = (callFunc f ((args.map a.eval) ++ arr)).run P w := by
    unfold execOp
    simp only [ho, resolve, he, Deferred.ofValue, Sem.run_bind, Sem.run_pure, Result.andThen_ok, invoke]
    simp
  unfold Oper.wp
  rw [hrun]
  unfold CallsTo at hcall
  have fin : ∀ e w', (∃ out' ext2 D', (out' = out ∧ ext2 = ext') ∧ Left ⟨w, g.D, eb⟩ D' w' ext2 ∧ Outs D' w' out' e) →
      (match e with | .returned v => next (a.put o.dst v) w' | .panicked chain => Q' (.panic chain) a w' | .outgrown => LetsOut Q') := by
    rintro e w' ⟨out', ext2, D', ⟨rfl, rfl⟩, hl, ho'⟩
    obtain ⟨h1, h2⟩ := hi.lentCall hnd hle hel heb hl
    have hm' : Tm { g with D := D' } w' (giveBack st l ext2) a := (hm.mono h2).of_eq rfl rfl
    cases out' with
    | ret v =>
      cases e with
      | returned y => exact hn v _ w' y rfl h1 hm' (.cl _ _ ho')
      | _ => exact ho'.elim
    | panic v =>
      cases e with
      | panicked chain =>
        obtain ⟨y, rfl, hy⟩ := ho'
        exact hp v _ w' y rfl h1 hm' (.cl _ _ hy)
      | _ => exact ho'.elim
  split at hcall
  · rename_i f' args' w' hr
    simp only [hr, Oper.upon]
    refine hcall.mono fun e w'' h => ?_
    have := fin e w'' h
    cases e <;> exact this
  · rename_i v w' hr
    simp only [hr, Oper.upon]
    exact fin (.returned v) w' hcall
  · exact hcall.elim
end Go.Proofs.Eng
