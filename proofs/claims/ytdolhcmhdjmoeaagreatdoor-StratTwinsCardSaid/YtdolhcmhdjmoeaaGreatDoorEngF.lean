/- Closing a block; storing into a variable; rows that may be appended to. -/
import Derived.Test.YtdolhcmhdjmoeaaGreatDoorEngE
set_option linter.unusedSimpArgs false
set_option linter.unusedVariables false
namespace Go.Proofs.Eng
open Go

def addD (D : Foot) (b n : Nat) : Foot := fun b' o => D b' o ∨ (b' = b ∧ o < n)

/-- A variable that is written no more. -/
theorem Inv.freeze {c : Cx} {g : Gh} {st : ASt} {w : World} (hi : Inv c g st w) (i : Nat) (z : Bool) (cs : List AV) (hl : look st.vars i = some (z, cs)) (hc : ∀ v, v ∈ cs → v.cl1 = v) :
    ∃ g' b, Inv c g' { st with vars := (i, (true, cs)) :: st.vars } w ∧ GExt g w g' w ∧ g'.vb i = some b ∧ ∀ off, VR g' w (.inp (cs.drop off)) (.pointer (some ⟨b, off, none⟩)) := by
  obtain ⟨b, hb, ⟨arr, t, h1, h2, h3⟩, h4, h5⟩ := hi.var i z cs hl
  have hblt : b < w.heap.size := (Array.getElem?_eq_some_iff.1 h1).1
  have hd : DExt g.D w (addD g.D b cs.length) w := fun _ _ h => ⟨.inl h, rfl⟩
  have hg : GExt g w { g with D := addD g.D b cs.length } w := .of_D hd
  refine ⟨{ g with D := addD g.D b cs.length }, b, ⟨hi.since.step hd (Nat.le_refl _) (fun _ _ _ => rfl) rfl rfl rfl (fun b' o ho => ho.elim .inl (fun h => .inr (h.1 ▸ hi.vbl i b hb))), hi.eb, hi.nodup, hi.ebl, hi.vbl, hi.frl, ?_, ?_, ?_, ?_, hi.fdom, hi.vinj, hi.finj, hi.vf, ?_⟩, hg, hb, ?_⟩
  · intro j z' cs' h
    by_cases hij : i = j
    · simp only [look, hij, if_true, Option.some.injEq, Prod.mk.injEq] at h
      obtain ⟨rfl, rfl⟩ := h
      refine ⟨b, hij ▸ hb, ⟨arr, t, h1, h2, fun j h h' => (h3 j h h').mono hg⟩, fun _ => ⟨fun o ho => .inr ⟨rfl, ho⟩, hc⟩, fun h => by simp at h⟩
    · simp only [look, hij, if_false] at h
      obtain ⟨b', g1, g2, g3, g4⟩ := hi.var j z' cs' h
      refine ⟨b', g1, g2.mono hg rfl, fun hz => ⟨fun o ho => .inl ((g3 hz).1 o ho), (g3 hz).2⟩, fun hz o ho => ?_⟩
      rcases ho with ho | ⟨ho, _⟩
      · exact g4 hz o ho
      · exact hij (hi.vinj i j b hb (ho ▸ g1))
  · intro j b' hb'
    by_cases hij : i = j
    · simp [look, hij]
    · simp only [look, hij, if_false]; exact hi.vdom j b' hb'
  · refine ⟨hi.ext.1, fun j h h' => ⟨(hi.ext.2 j h h').1.mono hg rfl, fun o ho => ?_⟩⟩
    rcases ho with ho | ⟨ho, _⟩
    · exact (hi.ext.2 j h h').2 o ho
    · have := hi.vbl i b hb
      have h7 := hi.ebl c.eb[j] (List.getElem_mem h)
      omega
  · intro id t' k n' h
    obtain ⟨e, xs, g1, g2, g3, g4, g5⟩ := hi.fr id t' k n' h
    refine ⟨e, xs, g1, g2, g3, g4, fun b' o hb' ho => ?_⟩
    rcases ho with ho | ⟨ho, _⟩
    · exact g5 b' o hb' ho
    · exact absurd (ho ▸ hb') (hi.vf i id b e hb g1)
  · intro b' o ho
    rcases ho with ho | ⟨ho, _⟩
    · exact hi.dlt b' o ho
    · exact ho ▸ hblt
  · intro off
    refine .cl _ _ (.inp _ b off (fun j => arr.getD (off + j) undef) (fun j hj => .inr ⟨rfl, by simp at hj; omega⟩) (fun j hj => ?_) (fun j hj => ?_))
    · rw [cell_of_row w b (off + j) arr t (0, 0) h1]
      have : off + j < arr.size := by simp at hj; omega
      simp [this, Array.getD]
    · have hlt : off + j < cs.length := by simp at hj; omega
      have h8 := (h3 (off + j) hlt (by omega)).mono hg
      have h9 := h8.cl1_of
      rw [hc _ (List.getElem_mem hlt)] at h9
      have h10 : arr.getD (off + j) undef = arr[off + j]'(by omega) := by simp [Array.getD, show off + j < arr.size by omega]
      simp only [List.getElem_drop]
      rw [h10]; exact h9

theorem setRow_same {w : World} {b : Nat} {arr : Array Value} {t : TypeId} (h : w.heap[b]? = some (.cells arr t (0, 0))) (arr' : Array Value) : (w.setRow b arr').heap[b]? = some (.cells arr' t (0, 0)) :=
  setRow_heap w b arr arr' t (0, 0) h
theorem setRow_oth (w : World) (b : Nat) (arr' : Array Value) {k : Nat} (h : k ≠ b) : (w.setRow b arr').heap[k]? = w.heap[k]? := setRow_other w b k arr' h

/-- A store into one of the call's own variables. -/
theorem Inv.store {c : Cx} {g : Gh} {st : ASt} {w : World} (hi : Inv c g st w) (i : Nat) (cs cs' : List AV) (hl : look st.vars i = some (false, cs)) (b : Nat) (hb : g.vb i = some b) (arr arr' : Array Value) (t : TypeId)
    (h1 : w.heap[b]? = some (.cells arr t (0, 0))) (h2 : cs'.length = arr'.size) (h3 : ∀ j (h : j < cs'.length) (h' : j < arr'.size), VR g w cs'[j] arr'[j]) :
    Inv c g { st with vars := (i, (false, cs')) :: st.vars } (w.setRow b arr') ∧ GExt g w g (w.setRow b arr') := by
  have hblt : b < w.heap.size := (Array.getElem?_eq_some_iff.1 h1).1
  have hnD : ∀ o, ¬ g.D b o := by
    obtain ⟨b', hb', _, _, h5⟩ := hi.var i false cs hl
    obtain rfl : b = b' := by rw [hb] at hb'; injection hb'
    exact h5 rfl
  have hoth : ∀ k, k ≠ b → (w.setRow b arr').heap[k]? = w.heap[k]? := fun k hk => setRow_oth w b arr' hk
  have hg : GExt g w g (w.setRow b arr') := hi.gext_of (fun _ _ h => h) (fun k o h => hoth k (fun e => hnD o (e ▸ h))) (fun _ _ h => h) rfl (fun _ e h => ⟨e, h, .inl rfl⟩)
  have hbase := hi.vbl i b hb
  refine ⟨⟨hi.since.step hg.D (by simp) (fun k hk _ => hoth k (by omega)) rfl rfl rfl (fun _ _ h => .inl h), hi.eb, hi.nodup, hi.ebl, hi.vbl, hi.frl, ?_, ?_, ?_, ?_, hi.fdom, hi.vinj, hi.finj, hi.vf, ?_⟩, hg⟩
  · intro j z cs'' h
    by_cases hij : i = j
    · simp only [look, hij, if_true, Option.some.injEq, Prod.mk.injEq] at h
      obtain ⟨rfl, rfl⟩ := h
      exact ⟨b, hij ▸ hb, ⟨arr', t, setRow_same h1 arr', h2, fun j h h' => (h3 j h h').mono hg⟩, fun h => by simp at h, fun _ => hnD⟩
    · simp only [look, hij, if_false] at h
      obtain ⟨b', g1, g2, g3⟩ := hi.var j z cs'' h
      exact ⟨b', g1, g2.mono hg (hoth b' (fun e => hij (hi.vinj i j b hb (e ▸ g1)))), g3⟩
  · intro j b' hb'
    by_cases hij : i = j
    · simp [look, hij]
    · simp only [look, hij, if_false]; exact hi.vdom j b' hb'
  · refine ⟨hi.ext.1, fun j h h' => ⟨(hi.ext.2 j h h').1.mono hg (hoth _ (fun e => ?_)), (hi.ext.2 j h h').2⟩⟩
    have h7 := hi.ebl c.eb[j] (List.getElem_mem h)
    omega
  · intro id t' k n' h
    obtain ⟨e, xs, g1, g2, g3, g4, g5⟩ := hi.fr id t' k n' h
    refine ⟨e, xs, g1, g2, g3, ?_, g5⟩
    refine g4.kept (row := some b) ⟨rfl, rfl, rfl, by simp, fun k _ hk => hoth k (fun e => hk (by rw [e]))⟩ (.inr fun e' => hi.vf i id b e hb g1 e')
  · intro b' o ho
    simpa using hi.dlt b' o ho

/-- A store into a captured variable. -/
theorem Inv.storeE {c : Cx} {g : Gh} {st : ASt} {w : World} (hi : Inv c g st w) (i : Nat) (hlt : i < c.eb.length) (cs' : List AV) (arr arr' : Array Value) (t : TypeId)
    (h1 : w.heap[c.eb[i]]? = some (.cells arr t (0, 0))) (h2 : cs'.length = arr'.size) (h3 : ∀ j (h : j < cs'.length) (h' : j < arr'.size), VR g w cs'[j] arr'[j]) :
    Inv c g { st with ext := st.ext.set i cs' } (w.setRow c.eb[i] arr') ∧ GExt g w g (w.setRow c.eb[i] arr') := by
  generalize hbe : c.eb[i] = b at *
  have hblt : b < w.heap.size := (Array.getElem?_eq_some_iff.1 h1).1
  have hmem : b ∈ c.eb := hbe ▸ List.getElem_mem hlt
  have hnD : ∀ o, ¬ g.D b o := hbe ▸ (hi.ext.2 i hlt (by rw [hi.ext.1]; exact hlt)).2
  have hoth : ∀ k, k ≠ b → (w.setRow b arr').heap[k]? = w.heap[k]? := fun k hk => setRow_oth w b arr' hk
  have hg : GExt g w g (w.setRow b arr') := hi.gext_of (fun _ _ h => h) (fun k o h => hoth k (fun e => hnD o (e ▸ h))) (fun _ _ h => h) rfl (fun _ e h => ⟨e, h, .inl rfl⟩)
  have hlow := hi.ebl b hmem
  refine ⟨⟨hi.since.step hg.D (by simp) (fun k hk hk' => hoth k (fun e => hk' (e ▸ hmem))) rfl rfl rfl (fun _ _ h => .inl h), hi.eb, hi.nodup, hi.ebl, hi.vbl, hi.frl, ?_, hi.vdom, ?_, ?_, hi.fdom, hi.vinj, hi.finj, hi.vf, ?_⟩, hg⟩
  · intro j z cs'' h
    obtain ⟨b', g1, g2, g3⟩ := hi.var j z cs'' h
    exact ⟨b', g1, g2.mono hg (hoth b' (fun e => by have := hi.vbl j b' g1; omega)), g3⟩
  · refine ⟨by simp [hi.ext.1], fun j h h' => ?_⟩
    by_cases hij : i = j
    · subst hij
      simp only [List.getElem_set_self, hbe]
      exact ⟨⟨arr', t, setRow_same h1 arr', h2, fun j h h' => (h3 j h h').mono hg⟩, hnD⟩
    · simp only [List.getElem_set_ne hij]
      have h'' : j < st.ext.length := by simpa using h'
      refine ⟨(hi.ext.2 j h h'').1.mono hg (hoth _ (fun e => ?_)), (hi.ext.2 j h h'').2⟩
      exact hij ((List.getElem_inj hi.nodup).1 (hbe.trans e.symm))
  · intro id t' k n' h
    obtain ⟨e, xs, g1, g2, g3, g4, g5⟩ := hi.fr id t' k n' h
    refine ⟨e, xs, g1, g2, g3, ?_, g5⟩
    refine g4.kept (row := some b) ⟨rfl, rfl, rfl, by simp, fun k _ hk => hoth k (fun e => hk (by rw [e]))⟩ (.inr fun e' => ?_)
    have := hi.frl id e b g1 e'
    omega
  · intro b' o ho
    simpa using hi.dlt b' o ho

/-- A row that may be appended to has grown, or begins. -/
theorem Inv.front {c : Cx} {g : Gh} {st : ASt} {w w' : World} (hi : Inv c g st w) (id : Nat) (v v' : Value) (t : TypeId) (k n' : Nat) (xs : List Value) (hk : 0 < k)
    (hold : (look st.fronts id = none ∧ v.ownBlock = none) ∨ ∃ e, g.fr id = some e ∧ e.v = v ∧ e.len < n')
    (hown : w'.ownsRow c.w0.heap.size t k v' n' xs) (hgr : w.grownBy w' v.ownBlock) (hat : v'.ownBlock = v.ownBlock ∨ ∃ b, v'.ownBlock = some b ∧ w.heap.size ≤ b)
    (hkeep : ∀ b o, v.ownBlock = some b → g.D b o → w'.cell? ⟨b, o, none⟩ = w.cell? ⟨b, o, none⟩) (hin : ∀ b o, v'.ownBlock = some b → g.D b o → o < n' * k) :
    ∃ g', Inv c g' { st with fronts := (id, (t, k, n')) :: st.fronts } w' ∧ GExt g w g' w' ∧ g'.fr id = some ⟨v', n'⟩ ∧ (∀ b o, v'.ownBlock = some b → o < n' * k → g'.D b o) := by
  let D' : Foot := fun b o => g.D b o ∨ (v'.ownBlock = some b ∧ o < n' * k)
  have hnone : look st.fronts id = none → ∀ e, g.fr id ≠ some e := fun h e he => by have := hi.fdom id e he; simp [h] at this
  have hvold : ∀ b, v.ownBlock = some b → ∃ e, g.fr id = some e ∧ e.v.ownBlock = some b := by
    intro b hb
    rcases hold with ⟨_, h⟩ | ⟨e, h1, h2, _⟩
    · rw [h] at hb; cases hb
    · exact ⟨e, h1, by rw [h2]; exact hb⟩
  have hoth : ∀ b, b < w.heap.size → v.ownBlock ≠ some b → w'.heap[b]? = w.heap[b]? := fun b hb hne => hgr.block b hb (fun h => hne h.symm)
  have hDc : ∀ b o, g.D b o → w'.cell? ⟨b, o, none⟩ = w.cell? ⟨b, o, none⟩ := by
    intro b o h
    by_cases hv : v.ownBlock = some b
    · exact hkeep b o hv h
    · exact cell_heap (hoth b (hi.dlt b o h) hv) o
  have hd : DExt g.D w D' w' := fun b o h => ⟨.inl h, hDc b o h⟩
  have hg : GExt g w { g with D := D', fr := fun j => if j = id then some ⟨v', n'⟩ else g.fr j } w' := by
    refine ⟨hd, fun _ _ h => h, rfl, fun j e h => ?_⟩
    by_cases hj : j = id
    · subst hj
      refine ⟨⟨v', n'⟩, by simp, .inr ?_⟩
      rcases hold with ⟨h1, _⟩ | ⟨e', h1, _, h3⟩
      · exact absurd h (hnone h1 e)
      · rw [h] at h1; injection h1 with h1; subst h1; exact h3
    · exact ⟨e, by simp [hj, h], .inl rfl⟩
  have hvb : ∀ i b, g.vb i = some b → v.ownBlock ≠ some b := by
    intro i b hb he
    obtain ⟨e, h1, h2⟩ := hvold b he
    exact hi.vf i id b e hb h1 h2
  have hvb' : ∀ i b, g.vb i = some b → v'.ownBlock ≠ some b := by
    intro i b hb he
    rcases hat with h | ⟨b', h, h'⟩
    · exact hvb i b hb (h ▸ he)
    · rw [h] at he; injection he with he; subst he
      have := vb_lt hi hb; omega
  have hbase : ∀ b, v.ownBlock = some b → c.w0.heap.size ≤ b := by
    intro b hb
    obtain ⟨e, h1, h2⟩ := hvold b hb
    exact hi.frl id e b h1 h2
  have hfroth : ∀ j e, j ≠ id → g.fr j = some e → ∀ b, e.v.ownBlock = some b → v.ownBlock ≠ some b ∧ v'.ownBlock ≠ some b := by
    intro j e hj he b hb
    have h1 : v.ownBlock ≠ some b := by
      intro h
      obtain ⟨e', h1, h2⟩ := hvold b h
      exact hj (hi.finj j id e e' b he h1 hb h2)
    refine ⟨h1, fun h => ?_⟩
    rcases hat with h' | ⟨b', h', h''⟩
    · exact h1 (h' ▸ h)
    · rw [h'] at h; injection h with h; subst h
      have := fr_lt hi he hb; omega
  refine ⟨{ g with D := D', fr := fun j => if j = id then some ⟨v', n'⟩ else g.fr j }, ⟨hi.since.step hd hgr.size (fun b hb _ => hoth b (Nat.lt_of_lt_of_le hb hi.since.size) (fun h => by have := hbase b h; omega)) hgr.os hgr.tape hgr.output (fun b o ho => ho.elim .inl (fun h => .inr (hown.lt b h.1).1)), hi.eb, hi.nodup, hi.ebl, hi.vbl, ?_, ?_, hi.vdom, ?_, ?_, ?_, hi.vinj, ?_, ?_, ?_⟩, hg, by simp, fun b o hb ho => .inr ⟨hb, ho⟩⟩
  · intro j e b h hb
    by_cases hj : j = id
    · simp only [hj, if_true, Option.some.injEq] at h
      subst h
      exact (hown.lt b hb).1
    · simp only [hj, if_false] at h
      exact hi.frl j e b h hb
  · intro i z cs h
    obtain ⟨b, h1, h2, h3, h4⟩ := hi.var i z cs h
    refine ⟨b, h1, h2.mono hg (hoth b (vb_lt hi h1) (hvb i b h1)), fun hz => ⟨fun o ho => .inl ((h3 hz).1 o ho), (h3 hz).2⟩, fun hz o ho => ?_⟩
    rcases ho with ho | ⟨ho, _⟩
    · exact h4 hz o ho
    · exact hvb' i b h1 ho
  · refine ⟨hi.ext.1, fun i h h' => ?_⟩
    have hl := hi.ebl _ (List.getElem_mem h)
    have hlt : c.eb[i] < w.heap.size := Nat.lt_of_lt_of_le hl hi.since.size
    refine ⟨(hi.ext.2 i h h').1.mono hg (hoth _ hlt (fun e => by have := hbase _ e; omega)), fun o ho => ?_⟩
    rcases ho with ho | ⟨ho, _⟩
    · exact (hi.ext.2 i h h').2 o ho
    · have := (hown.lt _ ho).1; omega
  · intro j t' k' m h
    by_cases hj : id = j
    · subst hj
      simp only [look, if_true, Option.some.injEq, Prod.mk.injEq] at h
      obtain ⟨rfl, rfl, rfl⟩ := h
      refine ⟨⟨v', n'⟩, xs, by simp, rfl, hk, hown, fun b o hb ho => ?_⟩
      rcases ho with ho | ⟨_, ho⟩
      · exact hin b o hb ho
      · exact ho
    · simp only [look, hj, if_false] at h
      obtain ⟨e, xs', h1, h2, h3, h4, h5⟩ := hi.fr j t' k' m h
      have hj' : j ≠ id := fun e => hj e.symm
      refine ⟨e, xs', by simp [hj', h1], h2, h3, h4.kept hgr ?_, fun b o hb ho => ?_⟩
      · cases hb : e.v.ownBlock with
        | none => exact .inl rfl
        | some b => exact .inr (fun h => (hfroth j e hj' h1 b hb).1 h.symm)
      · rcases ho with ho | ⟨ho, _⟩
        · exact h5 b o hb ho
        · exact absurd ho (hfroth j e hj' h1 b hb).2
  · intro j e h
    by_cases hj : id = j
    · simp [look, hj]
    · have hj' : j ≠ id := fun e => hj e.symm
      simp only [hj', if_false] at h
      simp only [look, hj, if_false]
      exact hi.fdom j e h
  · intro i j e e' b h1 h2 h3 h4
    by_cases hi' : i = id <;> by_cases hj' : j = id
    · rw [hi', hj']
    · simp only [hi', if_true, Option.some.injEq] at h1
      simp only [hj', if_false] at h2
      subst h1
      exact absurd h3 (hfroth j e' hj' h2 b h4).2
    · simp only [hi', if_false] at h1
      simp only [hj', if_true, Option.some.injEq] at h2
      subst h2
      exact absurd h4 (hfroth i e hi' h1 b h3).2
    · simp only [hi', if_false] at h1
      simp only [hj', if_false] at h2
      exact hi.finj i j e e' b h1 h2 h3 h4
  · intro i j b e h1 h2 h3
    by_cases hj' : j = id
    · simp only [hj', if_true, Option.some.injEq] at h2
      subst h2
      exact hvb' i b h1 h3
    · simp only [hj', if_false] at h2
      exact hi.vf i j b e h1 h2 h3
  · intro b o ho
    rcases ho with ho | ⟨ho, _⟩
    · exact Nat.lt_of_lt_of_le (hi.dlt b o ho) hgr.size
    · exact (hown.lt b ho).2
end Go.Proofs.Eng
