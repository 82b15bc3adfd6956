/- What an operation that makes or writes memory comes to, and that all else stays as it was. -/
import Derived.Test.YtdolhcmhdjmoeaaGreatDoorEngD
import Derived.Maps.AppendAt
set_option linter.unusedSimpArgs false
set_option linter.unusedVariables false
namespace Go.Proofs.Eng
open Go

/-! ### The invariant over a step of memory -/
theorem cell_heap {w w' : World} {b : Nat} (h : w'.heap[b]? = w.heap[b]?) (o : Nat) : w'.cell? ⟨b, o, none⟩ = w.cell? ⟨b, o, none⟩ := by simp [World.cell?, h]

theorem Since.step {c : Cx} {D D' : Foot} {w w' : World} (h : Since c D w) (hd : DExt D w D' w') (hs : w.heap.size ≤ w'.heap.size) (hf : ∀ b, b < c.w0.heap.size → b ∉ c.eb → w'.heap[b]? = w.heap[b]?)
    (ho : w'.os = w.os) (ht : w'.tape = w.tape) (hu : w'.output = w.output) (hn : ∀ b o, D' b o → D b o ∨ c.w0.heap.size ≤ b) : Since c D' w' :=
  ⟨h.dx.trans hd, Nat.le_trans h.size hs, fun b hb he => (hf b hb he).trans (h.frame b hb he), ho.trans h.os, ht.trans h.tape, hu.trans h.output, fun b o hb => (hn b o hb).elim (h.new b o) .inr⟩

theorem Blk.mono {g g' : Gh} {w w' : World} {b : Nat} {cs : List AV} (h : Blk g w b cs) (hg : GExt g w g' w') (hb : w'.heap[b]? = w.heap[b]?) : Blk g' w' b cs := by
  obtain ⟨arr, t, h1, h2, h3⟩ := h
  exact ⟨arr, t, hb.trans h1, h2, fun j h h' => (h3 j h h').mono hg⟩

theorem ASt.ext_eq {st st' : ASt} (h : st' = st) : st' = st := h

theorem Tm.mono {g g' : Gh} {w w' : World} {st : ASt} {a : Act} (h : Tm g w st a) (hg : GExt g w g' w') : Tm g' w' st a := ⟨h.1, fun t => (h.2 t).mono hg⟩
theorem Tm.vars {g : Gh} {w : World} {st : ASt} {a : Act} (h : Tm g w st a) {V : List (Nat × (Bool × List AV))} {E : List (List AV)} {F : List (Nat × (TypeId × Nat × Nat))} :
    Tm g w { st with vars := V, ext := E, fronts := F } a := h
theorem Tm.put {g : Gh} {w : World} {st : ASt} {a : Act} (h : Tm g w st a) {d : Nat} {v : AV} {x : Value} (hd : d < st.n) (hv : VR g w v x) : Tm g w (st.put d v) (a.put (some d) x) := by
  refine ⟨by simp [Act.put, ASt.put, h.1], fun t => ?_⟩
  simp only [ASt.put, ASt.get, look, Act.put]
  by_cases ht : d = t
  · subst ht
    have : d < a.tmps.size := by rw [h.1]; exact hd
    simp [Array.getD, this, hv]
  · have := h.2 t
    simp only [ASt.get] at this
    simp only [ht, if_false]
    have he : (a.tmps.setIfInBounds d x).getD t undef = a.tmps.getD t undef := by
      simp only [Array.getD_eq_getD_getElem?, Array.getElem?_setIfInBounds_ne ht]
    rw [he]; exact this

theorem Inv.gext_of {c : Cx} {g g' : Gh} {st : ASt} {w w' : World} (hi : Inv c g st w) (hD : ∀ b o, g.D b o → g'.D b o) (hc : ∀ b o, g.D b o → w'.heap[b]? = w.heap[b]?)
    (hv : ∀ i b, g.vb i = some b → g'.vb i = some b) (he : g'.eb = g.eb) (hf : ∀ id e, g.fr id = some e → ∃ e', g'.fr id = some e' ∧ (e' = e ∨ e.len < e'.len)) : GExt g w g' w' :=
  ⟨fun b o h => ⟨hD b o h, cell_heap (hc b o h) o⟩, hv, he, hf⟩

theorem Inv.same {c : Cx} {g : Gh} {st : ASt} {w w' : World} (hi : Inv c g st w) (hs : Same w w') : Inv c g st w' ∧ GExt g w g w' := by
  have hg : GExt g w g w' := hi.gext_of (fun _ _ h => h) (fun _ _ _ => by rw [hs.heap]) (fun _ _ h => h) rfl (fun _ e h => ⟨e, h, .inl rfl⟩)
  have hb : ∀ b : Nat, w'.heap[b]? = w.heap[b]? := fun b => by rw [hs.heap]
  refine ⟨⟨hi.since.step hg.D (by rw [hs.heap]; exact Nat.le_refl _) (fun b _ _ => hb b) hs.os hs.tape hs.output (fun _ _ h => .inl h), hi.eb, hi.nodup, hi.ebl, hi.vbl, hi.frl, ?_, hi.vdom, ?_, ?_, hi.fdom, hi.vinj, hi.finj, hi.vf, ?_⟩, hg⟩
  · intro i z cs h
    obtain ⟨b, h1, h2, h3⟩ := hi.var i z cs h
    exact ⟨b, h1, h2.mono hg (hb b), h3⟩
  · exact ⟨hi.ext.1, fun i h h' => ⟨(hi.ext.2 i h h').1.mono hg (hb _), (hi.ext.2 i h h').2⟩⟩
  · intro id t k n h
    obtain ⟨e, xs, h1, h2, h3, h4, h5⟩ := hi.fr id t k n h
    refine ⟨e, xs, h1, h2, h3, ?_, h5⟩
    exact h4.kept (row := none) ⟨hs.os, hs.tape, hs.output, by rw [hs.heap]; exact Nat.le_refl _, fun k _ _ => hb k⟩ (by cases e.v.ownBlock <;> simp)
  · intro b o h
    rw [hs.heap]; exact hi.dlt b o h

/-- A new block, of which nobody knows. -/
theorem Inv.alloc {c : Cx} {g : Gh} {st : ASt} {w : World} (hi : Inv c g st w) (o : Obj) : Inv c g st (w.alloc o) ∧ GExt g w g (w.alloc o) := by
  have hb : ∀ b : Nat, b < w.heap.size → (w.alloc o).heap[b]? = w.heap[b]? := fun b h => heap_alloc_old w o h
  have hg : GExt g w g (w.alloc o) := hi.gext_of (fun _ _ h => h) (fun b o h => hb b (hi.dlt b o h)) (fun _ _ h => h) rfl (fun _ e h => ⟨e, h, .inl rfl⟩)
  have blk : ∀ {b : Nat} {cs : List AV}, Blk g w b cs → Blk g (w.alloc o) b cs := by
    intro b cs h
    refine h.mono hg (hb b ?_)
    obtain ⟨arr, t, h1, _⟩ := h
    exact (Array.getElem?_eq_some_iff.1 h1).1
  refine ⟨⟨hi.since.step hg.D (by simp) (fun b h _ => hb b (Nat.lt_of_lt_of_le h hi.since.size)) rfl rfl rfl (fun _ _ h => .inl h), hi.eb, hi.nodup, hi.ebl, hi.vbl, hi.frl, ?_, hi.vdom, ?_, ?_, hi.fdom, hi.vinj, hi.finj, hi.vf, ?_⟩, hg⟩
  · intro i z cs h
    obtain ⟨b, h1, h2, h3⟩ := hi.var i z cs h
    exact ⟨b, h1, blk h2, h3⟩
  · exact ⟨hi.ext.1, fun i h h' => ⟨blk (hi.ext.2 i h h').1, (hi.ext.2 i h h').2⟩⟩
  · intro id t k n h
    obtain ⟨e, xs, h1, h2, h3, h4, h5⟩ := hi.fr id t k n h
    exact ⟨e, xs, h1, h2, h3, h4.alloc o, h5⟩
  · intro b p h
    have := hi.dlt b p h
    simp; omega

theorem vb_lt {c : Cx} {g : Gh} {st : ASt} {w : World} (hi : Inv c g st w) {i b : Nat} (h : g.vb i = some b) : b < w.heap.size := by
  have := hi.vdom i b h
  obtain ⟨⟨z, cs⟩, hl⟩ := Option.isSome_iff_exists.1 this
  obtain ⟨b', hb', ⟨arr, t, h1, _⟩, _⟩ := hi.var i z cs hl
  obtain rfl : b = b' := by rw [h] at hb'; injection hb'
  exact (Array.getElem?_eq_some_iff.1 h1).1
theorem fr_lt {c : Cx} {g : Gh} {st : ASt} {w : World} (hi : Inv c g st w) {id : Nat} {e : FrE} {b : Nat} (h : g.fr id = some e) (hb : e.v.ownBlock = some b) : b < w.heap.size := by
  have := hi.fdom id e h
  obtain ⟨⟨t, k, n⟩, hl⟩ := Option.isSome_iff_exists.1 this
  obtain ⟨e', xs, h1, h2, h3, h4, h5⟩ := hi.fr id t k n hl
  obtain rfl : e = e' := by rw [h] at h1; injection h1
  exact (h4.lt b hb).2

/-- A new variable. -/
theorem Inv.newVar {c : Cx} {g : Gh} {st : ASt} {w : World} (hi : Inv c g st w) (d : Nat) (hd : look st.vars d = none) (cs : List AV) (arr : Array Value) (t : TypeId) (hs : cs.length = arr.size)
    (hv : ∀ j (h : j < cs.length) (h' : j < arr.size), VR g w cs[j] arr[j]) :
    ∃ g', Inv c g' { st with vars := (d, (false, cs)) :: st.vars } (w.alloc (.cells arr t)) ∧ GExt g w g' (w.alloc (.cells arr t)) ∧ g'.vb d = some w.heap.size := by
  obtain ⟨hi1, hg1⟩ := hi.alloc (.cells arr t)
  have hnone : ∀ b, g.vb d ≠ some b := fun b hb => by have := hi.vdom d b hb; simp [hd] at this
  let g' : Gh := { g with vb := fun i => if i = d then some w.heap.size else g.vb i }
  have hvb : ∀ i b, g.vb i = some b → g'.vb i = some b := by
    intro i b hb
    have : i ≠ d := fun h => hnone b (h ▸ hb)
    simp [g', this, hb]
  have hg2 : GExt g (w.alloc (.cells arr t)) g' (w.alloc (.cells arr t)) := ⟨.refl _ _, hvb, rfl, fun _ e h => ⟨e, h, .inl rfl⟩⟩
  have hg : GExt g w g' (w.alloc (.cells arr t)) := ⟨hg1.D, hvb, rfl, fun _ e h => ⟨e, h, .inl rfl⟩⟩
  refine ⟨g', ⟨hi1.since, hi1.eb, hi1.nodup, hi1.ebl, ?_, hi1.frl, ?_, ?_, ?_, hi1.fr, hi1.fdom, ?_, hi1.finj, ?_, hi1.dlt⟩, hg, by simp [g']⟩
  · intro i b hb
    by_cases h : i = d
    · simp [g', h] at hb
      rw [← hb]; exact hi.since.size
    · simp [g', h] at hb
      exact hi.vbl i b hb
  · intro i z cs' hl
    by_cases h : d = i
    · simp only [look, h, if_true, Option.some.injEq, Prod.mk.injEq] at hl
      obtain ⟨rfl, rfl⟩ := hl
      refine ⟨w.heap.size, by simp [g', h], ⟨arr, t, heap_alloc_new w _, hs, fun j h h' => (hv j h h').mono hg⟩, by simp, fun _ o ho => ?_⟩
      have := hi.dlt _ _ ho
      omega
    · simp only [look, h, if_false] at hl
      obtain ⟨b, h1, h2, h3⟩ := hi1.var i z cs' hl
      exact ⟨b, hvb i b h1, h2.mono hg2 rfl, h3⟩
  · intro i b hb
    by_cases h : d = i
    · simp [look, h]
    · have : i ≠ d := fun e => h e.symm
      simp [g', this] at hb
      simp only [look, h, if_false]
      exact hi.vdom i b hb
  · exact ⟨hi1.ext.1, fun i h h' => ⟨(hi1.ext.2 i h h').1.mono hg2 rfl, (hi1.ext.2 i h h').2⟩⟩
  · intro i j b h1 h2
    by_cases hi' : i = d <;> by_cases hj' : j = d
    · rw [hi', hj']
    · simp [g', hi', hj'] at h1 h2
      have := vb_lt hi h2; omega
    · simp [g', hi', hj'] at h1 h2
      have := vb_lt hi h1; omega
    · simp [g', hi', hj'] at h1 h2
      exact hi.vinj i j b h1 h2
  · intro i j b e h1 h2 h3
    by_cases hi' : i = d
    · simp [g', hi'] at h1
      have := fr_lt hi h2 h3; omega
    · simp [g', hi'] at h1
      exact hi.vf i j b e h1 h2 h3
end Go.Proofs.Eng
