/- Sort and Compact of a row of texts of one's own: all else but what came in is forgotten. -/
import Derived.Test.YtdolhcmhdjmoeaaGreatDoorEngW
import Derived.Shelf.Sort.Plain
import Derived.Shelf.Slices.CompactS
import Derived.Shelf.Slices.In.SortNone
import Derived.Lib.RowBridge
set_option linter.unusedSimpArgs false
set_option linter.unusedVariables false
namespace Go.Proofs.Eng
open Go Go.Proofs Go.Sort

/-- One block's cells are others; new blocks; draws. -/
structure RowStep (w w' : World) (blk : Nat) (e : TypeId) (cur' : Array Value) : Prop where
  size : w.heap.size ≤ w'.heap.size
  oth : ∀ k, k < w.heap.size → k ≠ blk → w'.heap[k]? = w.heap[k]?
  row : w'.heap[blk]? = some (.cells cur' e (0, 0))
  os : w'.os = w.os
  tape : w'.tape = w.tape
  output : w'.output = w.output

theorem RowStep.put {w : World} {blk : Nat} {e : TypeId} {cur : Array Value} (h : w.heap[blk]? = some (.cells cur e (0, 0))) (n : Nat) (os : Array Obj) (d : Array Str) :
    RowStep w (grow (putRow encStr (Sort.ahead w n) blk 0 d) os) blk e (putCells encStr 0 d cur) := by
  have hlt : blk < w.heap.size := (Array.getElem?_eq_some_iff.1 h).1
  have hm : ∀ k, k < w.heap.size → (grow (putRow encStr (Sort.ahead w n) blk 0 d) os).heap[k]? = (w.heap.modify blk (onCells (putCells encStr 0 d)))[k]? := by
    intro k hk
    rw [heap_grow_old _ _ (by simpa [Sort.ahead] using hk)]
    rfl
  refine ⟨?_, ?_, ?_, rfl, rfl, rfl⟩
  · simp [Sort.ahead]
  · intro k hk hne
    rw [hm k hk, Array.getElem?_modify, if_neg (Ne.symm hne)]
  · rw [hm blk hlt, Array.getElem?_modify, if_pos rfl, h]
    rfl

theorem RowStep.refl {w : World} {blk : Nat} {e : TypeId} {cur : Array Value} (h : w.heap[blk]? = some (.cells cur e (0, 0))) : RowStep w w blk e cur :=
  ⟨Nat.le_refl _, fun _ _ _ => rfl, h, rfl, rfl, rfl⟩

theorem cell_none {w : World} {b o : Nat} (h : w.heap.size ≤ b) : w.cell? ⟨b, o, none⟩ = none := by
  have : w.heap[b]? = none := Array.getElem?_eq_none h
  simp [World.cell?, this]

/-- Back to what came in, and one block of one's own. -/
theorem Since.retract {c : Cx} {g : Gh} {st : ASt} {w w' : World} (hi : Inv c g st w) {blk : Nat} {e : TypeId} {cur cur' : Array Value} (hblk : c.w0.heap.size ≤ blk) (hcur : w.heap[blk]? = some (.cells cur e (0, 0)))
    (hs : RowStep w w' blk e cur') (hsz : cur'.size = cur.size) (m : Nat) : Since c (addD c.D0 blk m) w' := by
  have hg := hi.since
  refine ⟨?_, Nat.le_trans hg.size hs.size, ?_, hs.os.trans hg.os, hs.tape.trans hg.tape, hs.output.trans hg.output, ?_⟩
  · intro b o hD
    refine ⟨.inl hD, ?_⟩
    obtain ⟨h1, h2⟩ := hg.dx b o hD
    by_cases hb : b = blk
    · subst hb
      have e1 : c.w0.cell? ⟨b, o, none⟩ = none := cell_none hblk
      rw [e1] at h2 ⊢
      rw [cell_of_row w b o cur e (0, 0) hcur] at h2
      rw [cell_of_row w' b o cur' e (0, 0) hs.row]
      have : cur.size ≤ o := by simpa using h2
      simp; omega
    · rw [← h2]
      exact cell_heap (hs.oth b (hi.dlt b o h1) hb) o
  · intro b hb hne
    rw [hs.oth b (Nat.lt_of_lt_of_le hb hg.size) (by omega), hg.frame b hb hne]
  · rintro b o (hD | ⟨rfl, _⟩)
    · exact .inl hD
    · exact .inr hblk

theorem D0_lt {c : Cx} {g : Gh} {st : ASt} {w : World} (hi : Inv c g st w) {b o : Nat} (h : c.D0 b o) : b < w.heap.size := hi.dlt b o (hi.since.dx b o h).1

theorem Inv.retract0 {c : Cx} {g : Gh} {st : ASt} {w w' : World} (hi : Inv c g st w) (he : st.ext = []) {D' : Foot} (hs : Since c D' w') (hd : ∀ b o, D' b o → b < w'.heap.size) (n : Nat) (tmps : List (Nat × AV)) :
    Inv c ⟨D', fun _ => none, c.eb, fun _ => none⟩ ⟨n, tmps, [], [], []⟩ w' := by
  have heb : c.eb = [] := List.eq_nil_of_length_eq_zero (by rw [← hi.ext.1, he]; rfl)
  refine ⟨hs, rfl, hi.nodup, hi.ebl, (fun i b h => by cases h), (fun i e b h => by cases h), (fun i z cs h => by simp [look] at h), (fun i b h => by cases h), ⟨by rw [heb]; rfl, fun i h1 h2 => by simp at h2⟩,
    (fun id t k n h => by simp [look] at h), (fun i e h => by cases h), (fun i j b h => by cases h), (fun i j e e' b h => by cases h), (fun i j b e h => by cases h), hd⟩

theorem Inv.retract1 {c : Cx} {g : Gh} {st : ASt} {w w' : World} (hi : Inv c g st w) (he : st.ext = []) {D' : Foot} (hs : Since c D' w') (hd : ∀ b o, D' b o → b < w'.heap.size) (n : Nat) (tmps : List (Nat × AV))
    (i : Nat) (en : FrE) (e : TypeId) (xs : List Value) (ho : w'.ownsRow c.w0.heap.size e 1 en.v en.len xs) (hD : ∀ b o, en.v.ownBlock = some b → D' b o → o < en.len * 1) :
    Inv c ⟨D', fun _ => none, c.eb, fun j => if j = i then some en else none⟩ ⟨n, tmps, [], [], [(i, (e, 1, en.len))]⟩ w' := by
  have heb : c.eb = [] := List.eq_nil_of_length_eq_zero (by rw [← hi.ext.1, he]; rfl)
  have hfr : ∀ j e', (if j = i then some en else none) = some e' → j = i ∧ e' = en := by
    intro j e' h
    split at h
    · cases h; exact ⟨‹_›, rfl⟩
    · cases h
  refine ⟨hs, rfl, hi.nodup, hi.ebl, (fun i b h => by cases h), ?_, (fun i z cs h => by simp [look] at h), (fun i b h => by cases h), ⟨by rw [heb]; rfl, fun i h1 h2 => by simp at h2⟩,
    ?_, ?_, (fun i j b h => by cases h), ?_, (fun i j b e h => by cases h), hd⟩
  · intro j e' b h hb
    obtain ⟨rfl, rfl⟩ := hfr j e' h
    exact (ho.lt b hb).1
  · intro id t k m h
    simp only [look] at h
    split at h
    · rename_i hid
      subst hid
      cases h
      exact ⟨en, xs, by simp, rfl, by omega, ho, hD⟩
    · cases h
  · intro j e' h
    obtain ⟨rfl, rfl⟩ := hfr j e' h
    simp [look]
  · intro j k e1 e2 b h1 h2 _ _
    obtain ⟨rfl, _⟩ := hfr j e1 h1
    obtain ⟨rfl, _⟩ := hfr k e2 h2
    rfl

theorem vd_str {D : Foot} {w : World} {s : Str} {x : Value} (h : VD D w (AV.str s) x) : x = encStr s := by
  unfold AV.str at h
  cases h with
  | val _ _ => rfl

/-- The row, and what it holds. -/
theorem own_strs {c : Cx} {g : Gh} {st : ASt} {w : World} (hi : Inv c g st w) {i : Nat} {e : TypeId} {ss : List Str} {x : Value} (h : VR g w (.slice (.own i) 1 (ss.map AV.str)) x) (hf : look st.fronts i = some (e, 1, ss.length)) :
    (∃ en, g.fr i = some en ∧ x = en.v) ∧ ((x = .slice none 0 0 ∧ ss = []) ∨ ∃ blk cap cur, x = .slice (some ⟨blk, 0, none⟩) ss.length cap ∧ c.w0.heap.size ≤ blk ∧ w.heap[blk]? = some (.cells cur e (0, 0)) ∧ ss.length ≤ cap ∧ cap ≤ maxLen ∧ cur.size = cap ∧
      Holds encStr w blk 0 ss.toArray ∧ ∀ o, g.D blk o → o < ss.length) := by
  obtain ⟨en, xs, h1, h2, h3, h4, h5⟩ := hi.fr i e 1 ss.length hf
  have key : ∃ en', VD g.D w (.slice .non 1 (ss.map AV.str)) x ∧ g.fr i = some en' ∧ ((ss.map AV.str).length = en'.len → x = en'.v) := by
    cases h with
    | cl _ _ hd => cases hd
    | own _ _ _ _ en' hd hfr hle heq => exact ⟨en', hd, hfr, heq⟩
  obtain ⟨en', hd, hfr, heq⟩ := key
  rw [h1] at hfr
  cases hfr
  have hx : x = en.v := heq (by simp [h2])
  refine ⟨⟨en, h1, hx⟩, ?_⟩
  rcases h4.2 with ⟨hv, hn⟩ | ⟨blk, cap, cur, hv, hb, hh, hle, hcm, hsz, _⟩
  · exact .inl ⟨hx.trans hv, List.eq_nil_of_length_eq_zero hn⟩
  · refine .inr ⟨blk, cap, cur, hx.trans hv, hb, hh, hle, hcm, by simpa using hsz, ?_, fun o ho => by simpa using h5 blk o (by rw [hv]; rfl) ho⟩
    intro j hj
    have hj' : j < ss.length := by simpa using hj
    rw [hx, hv] at hd
    have hd' : VD g.D w (.slice .non 1 (ss.map AV.str)) (.slice (some ⟨blk, 0, none⟩) (ss.map AV.str).length cap) := by simpa using hd
    obtain ⟨b, o, f, ha, hc1, hc0, hc2, hc3⟩ := slice_cells hd' (by simp; omega)
    cases ha
    refine ⟨?_, ?_⟩
    · have q1 := hc2 j 0 (by simpa using hj') (by omega)
      have q2 := hc3 j (by simpa using hj') 0 (by simp [AV.str, AV.cells])
      simp only [List.getElem_map] at q2
      have q3 := vd_str (by simpa [AV.str, AV.cells] using q2)
      rw [q3] at q1
      simp only [Nat.mul_one, Nat.add_zero, Nat.zero_add] at q1 ⊢
      rw [q1, getElem!_pos _ j hj]
      simp
    · simp [World.frozen?, hh]

/-- The world behind a row put anew, read. -/
theorem put_cell {cur : Array Value} {d : Array Str} {j : Nat} (hj : j < d.size) (hc : d.size ≤ cur.size) : (putCells encStr 0 d cur)[j]? = some (encStr d[j]!) := by
  simp only [putCells, Array.getElem?_mapIdx]
  rw [Array.getElem?_eq_getElem (by omega)]
  simp; omega

theorem row_vd {D : Foot} {w' : World} {blk : Nat} {e : TypeId} {cur' : Array Value} {cap : Nat} (hrow : w'.heap[blk]? = some (.cells cur' e (0, 0))) (zs : List Str) (hz : zs.length ≤ cap) (hcm : cap ≤ maxLen) (hD : ∀ j, j < zs.length → D blk j)
    (hc : ∀ j (h : j < zs.length), cur'[j]? = some (encStr zs[j])) : VD D w' (.slice .non 1 (zs.map AV.str)) (.slice (some ⟨blk, 0, none⟩) zs.length cap) := by
  have h := VD.slice (D := D) (w := w') 1 (zs.map AV.str) blk 0 cap (fun i _ => (cur'[i]?).getD Go.undef) (by simpa using hz) hcm
    (fun i h => by simp [AV.str, AV.cells, AV.cellOk]) (fun i j hi hj => by
      obtain rfl : j = 0 := by omega
      simpa using hD i (by simpa using hi))
    (fun i j hi hj => by
      obtain rfl : j = 0 := by omega
      have hi' : i < zs.length := by simpa using hi
      rw [cell_of_row w' blk _ cur' e (0, 0) hrow]
      simp [hc i hi'])
    (fun i hi j hj => by
      have hi' : i < zs.length := by simpa using hi
      have hj0 : j = 0 := by simp [AV.str, AV.cells] at hj; omega
      subst hj0
      simp only [hc i hi', Option.getD_some, List.getElem_map]
      simp only [AV.str, AV.cells, List.getElem_cons_zero]
      exact .val _ rfl)
  simpa using h

def compS (ss : List Str) : List Str := Lib.compact ss
def insS (x : Str) : List Str → List Str
  | [] => [x]
  | y :: r => if decide (x ≤ y) = true then x :: y :: r else y :: insS x r
/-- Sorted (the kernel can run it). -/
def sortS : List Str → List Str
  | [] => []
  | x :: r => insS x (sortS r)
theorem insS_perm (x : Str) : ∀ l : List Str, (insS x l).Perm (x :: l)
  | [] => .refl _
  | y :: r => by
    simp only [insS]
    split
    · exact .refl _
    · exact ((insS_perm x r).cons y).trans (.swap x y r)
theorem sortS_perm : ∀ l : List Str, (sortS l).Perm l
  | [] => .refl _
  | x :: r => (insS_perm x _).trans ((sortS_perm r).cons x)
theorem strLe_tr (a b c : Str) (h1 : decide (a ≤ b) = true) (h2 : decide (b ≤ c) = true) : decide (a ≤ c) = true := by
  simp only [decide_eq_true_eq] at *; exact List.le_trans h1 h2
theorem strLe_to (a b : Str) : (decide (a ≤ b) || decide (b ≤ a)) = true := by
  simp only [Bool.or_eq_true, decide_eq_true_eq]; exact List.le_total a b
theorem insS_sorted (x : Str) : ∀ l : List Str, l.Pairwise (fun a b => decide (a ≤ b) = true) → (insS x l).Pairwise fun a b => decide (a ≤ b) = true
  | [], _ => by simp [insS]
  | y :: r, h => by
    simp only [insS]
    rw [List.pairwise_cons] at h
    split
    · rename_i hxy
      refine List.pairwise_cons.2 ⟨fun z hz => ?_, List.pairwise_cons.2 h⟩
      rcases List.mem_cons.1 hz with rfl | hz
      · exact hxy
      · exact strLe_tr _ _ _ hxy (h.1 z hz)
    · rename_i hxy
      refine List.pairwise_cons.2 ⟨fun z hz => ?_, insS_sorted x r h.2⟩
      rcases List.mem_cons.1 ((insS_perm x r).mem_iff.1 hz) with rfl | hz
      · have := strLe_to z y
        simp only [Bool.or_eq_true] at this
        rcases this with h5 | h5
        · exact absurd h5 hxy
        · exact h5
      · exact h.1 z hz
theorem sortS_sorted : ∀ l : List Str, (sortS l).Pairwise fun a b => decide (a ≤ b) = true
  | [] => .nil
  | x :: r => insS_sorted x _ (sortS_sorted r)
theorem sortS_eq (ss : List Str) : sortS ss = ss.mergeSort fun x y => decide (x ≤ y) :=
  List.Perm.eq_of_pairwise (le := fun a b => decide (a ≤ b) = true) (fun a b _ _ h1 h2 => by simp only [decide_eq_true_eq] at h1 h2; exact List.le_antisymm h1 h2) (sortS_sorted ss) (List.pairwise_mergeSort strLe_tr strLe_to ss) ((sortS_perm ss).trans (List.mergeSort_perm ss _).symm)
theorem sortS_len (ss : List Str) : (sortS ss).length = ss.length := (sortS_perm ss).length_eq

/-- f sorts texts in place. -/
structure SortsS (P : Program) (f : FuncId) : Prop where
  ent : ∀ (args : Array Value) (w : World), (callFunc f args).run P w = .ok (.enter f args) w
  some : ∀ (blk cap : Nat) (ss : List Str) (w : World), Holds encStr w blk 0 ss.toArray → blk < w.heap.size → ss.length < 4611686018427387904 →
     Calls P f #[.slice (some ⟨blk, 0, none⟩) ss.length cap] w fun e w' => e = .returned (.tuple #[]) ∧ ∃ n os, w' = grow (putRow encStr (Sort.ahead w n) blk 0 (sortS ss).toArray) os
  none : ∀ (a : Option Addr) (cap : Nat) (w : World), Calls P f #[.slice a 0 cap] w fun e w' => e = .returned (.tuple #[]) ∧ w' = w
/-- f makes one of equals that stand side by side, in place. -/
structure CompactsS (P : Program) (f : FuncId) : Prop where
  ent : ∀ (args : Array Value) (w : World), (callFunc f args).run P w = .ok (.enter f args) w
  some : ∀ (blk cap : Nat) (zs : List Str) (w : World), Holds encStr w blk 0 zs.toArray → zs.length ≤ 9223372036854775807 → zs.length ≤ cap →
     Calls P f #[.slice (some ⟨blk, 0, none⟩) zs.length cap] w fun e w' => e = .returned (.slice (some ⟨blk, 0, none⟩) (compS zs).length cap) ∧
       ∃ q, w' = putRow encStr (Sort.ahead w q) blk 0 (compS zs ++ List.replicate (zs.length - (compS zs).length) []).toArray
  none : ∀ (a : Option Addr) (cap : Nat) (w : World), Calls P f #[.slice a 0 cap] w fun e w' => e = .returned (.slice a 0 cap) ∧ w' = w

section
variable {P : Program} {Q : Exit → ASt → Prop} {Qp : AV → ASt → Prop} {st : ASt}

theorem wpOps_cons {ops : Array Oper} {i : Nat} {r : List Nat} {o : Oper} {a : Act} {w : World} {Q' : Exit → Act → World → Prop} (ho : ops[i]? = some o) (hg : o.guard = none) (h : o.wp P a w (wpOps P ops Q' r) Q') : wpOps P ops Q' (i :: r) a w := by
  unfold wpOps
  simp only [ho, Region.wanted, hg, if_true]
  exact .inl h

theorem move_run {P : Program} {o : Oper} {x : Operand} (ho : o.op = .move x) (a : Act) (w : World) : (execOp a.eval o).run P w = .ok (.value (a.eval x)) w := by
  unfold execOp
  simp only [ho]
  simp
theorem assign_run {P : Program} {o : Oper} {x : Operand} (ho : o.op = .assign x) (a : Act) (w : World) : (execOp a.eval o).run P w = .ok (.value (a.eval x)) w := by
  unfold execOp
  simp only [ho]
  simp

theorem Tm.junkO {g : Gh} {w : World} {st : ASt} {a : Act} (h : Tm g w st a) {dst : Option Tmp} {x : Value} (hd : dstOk st dst) (hne : ∀ d, dst = some d → st.get d = .junk) : Tm g w st (a.put dst x) := by
  have := h.putO (v := .junk) (x := x) hd (.cl _ _ (.junk _))
  refine this.cong (by cases dst <;> rfl) fun t => ?_
  rw [putO_get]
  split
  · rename_i e; exact hne t e
  · rfl

theorem tm_one {g : Gh} {w : World} {st : ASt} {a : Act} {g' : Gh} {w' : World} (h : Tm g w st a) (t : Nat) (v : AV) (hv : VR g' w' v (a.tmps.getD t undef)) (V : List (Nat × (Bool × List AV))) (E : List (List AV)) (F : List (Nat × (TypeId × Nat × Nat))) :
    Tm g' w' ⟨st.n, [(t, v)], V, E, F⟩ a := by
  refine ⟨h.1, fun t' => ?_⟩
  simp only [ASt.get, look]
  split
  · rename_i e; subst e; exact hv
  · exact .cl _ _ (.junk _)

theorem call1_run {f : FuncId} (hent : ∀ (args : Array Value) (w : World), (callFunc f args).run P w = .ok (.enter f args) w) {o : Oper} {x : Operand} {ts : Array TypeId} (ho : o.op = .call { callee := .value (.func f), args := #[x], argTypes := ts }) (a : Act) (w : World) :
    (execOp a.eval o).run P w = .ok (.enter f #[a.eval x]) w := by
  unfold execOp
  simp only [ho, resolve, Deferred.ofValue, Sem.run_bind, Sem.run_pure, Result.andThen_ok, invoke]
  have : a.eval (.func f) = .func (.func f) #[] #[] := rfl
  simp only [this]
  simp [hent]

/-- slices.Sort of a row of one's own. -/
theorem awp_sort {f : FuncId} (hf : SortsS P f) {id : Nat} {o1 o : Oper} {t0 t i : Nat} {ts : Array TypeId} {e : TypeId} {ss : List Str} (ho1 : o1.op = .move (.tmp t0)) (hg1 : o1.guard = none) (hd1 : o1.dst = some t) (hn1 : t < st.n) (htt : t0 ≠ t)
    (ho : o.op = .call { callee := .value (.func f), args := #[.tmp t], argTypes := ts }) (hg : o.guard = none)
    (hdB : dstB st o.dst = true) (hdt : o.dst ≠ some t0) (he : st.ext = []) (hx : st.get t0 = .slice (.own i) 1 (ss.map AV.str)) (hfr : look st.fronts i = some (e, 1, (ss.map AV.str).length)) (hlen : ss.length < 4611686018427387904)
    (hN : Q .normal ⟨st.n, [(t0, .slice (.own i) 1 ((sortS ss).map AV.str))], [], [], [(i, (e, 1, ((sortS ss).map AV.str).length))]⟩) : awp P (.region id #[o1, o] false) Q Qp st := by
  have hd := dstB_ok hdB
  rw [List.length_map] at hfr
  rw [List.length_map, sortS_len] at hN
  intro c g w a0 hi hm0 hdf0
  refine wp_region ?_
  show wpOps P #[o1, o] _ [0, 1] a0 w
  refine wpOps_cons (o := o1) rfl hg1 ?_
  unfold Oper.wp
  rw [move_run ho1]
  simp only [Oper.upon]
  have hm : Tm g w (st.put t (st.get t0)) (a0.put o1.dst (a0.eval (.tmp t0))) := by
    rw [hd1]
    exact hm0.put hn1 (hm0.2 t0)
  have hdf : (a0.put o1.dst (a0.eval (.tmp t0))).defers = [] := by rw [put_defers]; exact hdf0
  generalize a0.put o1.dst (a0.eval (.tmp t0)) = a at hm hdf
  refine wpOps_cons (o := o) rfl hg ?_
  unfold Oper.wp
  rw [call1_run hf.ent ho a w]
  simp only [Oper.upon]
  have hv := hm.2 t
  have hv0 := hm.2 t0
  have g1 : (st.put t (st.get t0)).get t = .slice (.own i) 1 (ss.map AV.str) := by simp [ASt.get, ASt.put, look]; exact hx
  have g2 : (st.put t (st.get t0)).get t0 = .slice (.own i) 1 (ss.map AV.str) := by
    have : ¬ t = t0 := fun h => htt h.symm
    simp [ASt.get, ASt.put, look, this]; exact hx
  rw [g1] at hv
  rw [g2] at hv0
  have hev : a.eval (.tmp t) = a.tmps.getD t undef := rfl
  rw [hev]
  have hi' : Inv c g (st.put t (st.get t0)) w := hi.putO (some t) _
  have hfr' : look (st.put t (st.get t0)).fronts i = some (e, 1, ss.length) := hfr
  obtain ⟨⟨en0, hen0, hx0'⟩, _⟩ := own_strs hi' hv0 hfr'
  obtain ⟨⟨en1, hen1, hx1'⟩, hown⟩ := own_strs hi' hv hfr'
  have hsame : a.tmps.getD t0 undef = a.tmps.getD t undef := by
    rw [hen0] at hen1; cases hen1
    rw [hx0', hx1']
  have fin : ∀ {g' : Gh} {w' : World}, Inv c g' ⟨st.n, [(t0, .slice (.own i) 1 ((sortS ss).map AV.str))], [], [], [(i, (e, 1, ss.length))]⟩ w' → VR g' w' (.slice (.own i) 1 ((sortS ss).map AV.str)) (a.tmps.getD t undef) →
      QS c Q Qp .normal (a.put o.dst (.tuple #[])) w' := by
    intro g' w' h1 h2
    rw [← hsame] at h2
    refine ⟨_, g', h1, ?_, by rw [put_defers]; exact hdf, hN⟩
    refine (tm_one hm t0 _ h2 _ _ _).junkO ?_ ?_
    · cases hdd : o.dst with
      | none => trivial
      | some d => rw [hdd] at hd; exact hd
    · intro d hdd
      simp only [ASt.get, look]
      rw [if_neg (fun e => hdt (by rw [hdd, ← e]))]
      rfl
  rcases hown with ⟨hx0, rfl⟩ | ⟨blk, cap, cur, hx1, hblk, hcur, hle, hcm, hsz, hH, hDD⟩
  · rw [hx0]
    refine (hf.none none 0 w).mono ?_
    rintro e' w' ⟨rfl, rfl⟩
    simp only [wpOps]
    have hs0 : sortS [] = [] := by simp [sortS]
    rw [hs0] at fin
    have hsn : Since c c.D0 w' := ⟨fun b o hD => ⟨hD, (hi.since.dx b o hD).2⟩, hi.since.size, hi.since.frame, hi.since.os, hi.since.tape, hi.since.output, fun b o h => .inl h⟩
    refine fin (g' := ⟨c.D0, fun _ => none, c.eb, fun j => if j = i then some ⟨.slice none 0 0, 0⟩ else none⟩) (hi.retract1 he hsn (fun b o h => D0_lt hi h) _ _ i ⟨.slice none 0 0, 0⟩ e [] (World.ownsRow_nil _ _ _ _) (fun b o hb => by cases hb)) ?_
    rw [hx0]
    exact .own i 1 [] _ ⟨.slice none 0 0, 0⟩ (.slice0 _ _ _) (by simp) (Nat.le_refl 0) (fun _ => rfl)
  · rw [hx1]
    refine (hf.some blk cap ss w hH (Array.getElem?_eq_some_iff.1 hcur).1 hlen).mono ?_
    rintro e' w' ⟨rfl, n, os, rfl⟩
    simp only [wpOps]
    have hstep := RowStep.put hcur n os (sortS ss).toArray
    have hszd : (sortS ss).toArray.size = ss.length := by simp [sortS_len]
    have hpc : (putCells encStr 0 (sortS ss).toArray cur).size = cur.size := by simp [putCells]
    have hsn := Since.retract hi hblk hcur hstep hpc ss.length
    have hcell : ∀ j (h : j < (sortS ss).length), (putCells encStr 0 (sortS ss).toArray cur)[j]? = some (encStr (sortS ss)[j]) := by
      intro j h
      rw [put_cell (by simpa using h) (by rw [hszd]; omega), getElem!_pos _ j (by simpa using h)]
      simp
    have hvd : VD (addD c.D0 blk ss.length) (grow (putRow encStr (Sort.ahead w n) blk 0 (sortS ss).toArray) os) (.slice .non 1 ((sortS ss).map AV.str)) (.slice (some ⟨blk, 0, none⟩) (sortS ss).length cap) :=
      row_vd hstep.row (sortS ss) (by rw [sortS_len]; exact hle) hcm (fun j hj => .inr ⟨rfl, by rw [sortS_len] at hj; exact hj⟩) hcell
    rw [sortS_len] at hvd
    refine fin (g' := ⟨addD c.D0 blk ss.length, fun _ => none, c.eb, fun j => if j = i then some ⟨.slice (some ⟨blk, 0, none⟩) ss.length cap, ss.length⟩ else none⟩)
      (hi.retract1 he hsn ?_ _ _ i ⟨.slice (some ⟨blk, 0, none⟩) ss.length cap, ss.length⟩ e ((putCells encStr 0 (sortS ss).toArray cur).toList.take (ss.length * 1)) ?_ ?_) ?_
    · rintro b o (hD | ⟨rfl, _⟩)
      · exact Nat.lt_of_lt_of_le (D0_lt hi hD) hstep.size
      · exact Nat.lt_of_lt_of_le (Array.getElem?_eq_some_iff.1 hcur).1 hstep.size
    · refine ⟨?_, .inr ⟨blk, cap, _, rfl, hblk, hstep.row, hle, hcm, ?_, rfl⟩⟩
      · simp only [List.length_take, Array.length_toList, hpc, hsz]
        omega
      · rw [hpc, hsz]; omega
    · intro b o hb hD
      simp only [Value.ownBlock, Option.some.injEq] at hb
      subst hb
      rcases hD with hD | ⟨_, h⟩
      · simpa using hDD o (hi.since.dx _ o hD).1
      · simpa using h
    · rw [hx1]
      exact .own i 1 _ _ ⟨.slice (some ⟨blk, 0, none⟩) ss.length cap, ss.length⟩ hvd (by simp) (by simp [sortS_len]) (fun _ => rfl)

theorem compact_le (zs : List Str) : (compS zs).length ≤ zs.length := Lib.compact_length_le zs

/-- slices.Compact of a row of one's own. -/
theorem awp_compact {f : FuncId} (hf : CompactsS P f) {id : Nat} {o1 o o3 : Oper} {t0 t d d3 i : Nat} {ts : Array TypeId} {e : TypeId} {ss : List Str} (ho1 : o1.op = .move (.tmp t0)) (hg1 : o1.guard = none) (hd1 : o1.dst = some t) (hn1 : t < st.n)
    (ho : o.op = .call { callee := .value (.func f), args := #[.tmp t], argTypes := ts }) (hg : o.guard = none)
    (hdd : o.dst = some d) (hd : d < st.n) (ho3 : o3.op = .assign (.tmp d)) (hg3 : o3.guard = none) (hd3 : o3.dst = some d3) (hn3 : d3 < st.n) (he : st.ext = []) (hx : st.get t0 = .slice (.own i) 1 (ss.map AV.str)) (hfr : look st.fronts i = some (e, 1, (ss.map AV.str).length)) (hlen : ss.length ≤ 9223372036854775807)
    (hN : Q .normal ⟨st.n, [(d3, AV.lst 1 AV.str (compS ss))], [], [], []⟩) : awp P (.region id #[o1, o, o3] false) Q Qp st := by
  rw [List.length_map] at hfr
  intro c g w a0 hi hm0 hdf0
  refine wp_region ?_
  show wpOps P #[o1, o, o3] _ [0, 1, 2] a0 w
  refine wpOps_cons (o := o1) rfl hg1 ?_
  unfold Oper.wp
  rw [move_run ho1]
  simp only [Oper.upon]
  have hm : Tm g w (st.put t (st.get t0)) (a0.put o1.dst (a0.eval (.tmp t0))) := by
    rw [hd1]
    exact hm0.put hn1 (hm0.2 t0)
  have hdf : (a0.put o1.dst (a0.eval (.tmp t0))).defers = [] := by rw [put_defers]; exact hdf0
  generalize a0.put o1.dst (a0.eval (.tmp t0)) = a at hm hdf
  refine wpOps_cons (o := o) rfl hg ?_
  unfold Oper.wp
  rw [call1_run hf.ent ho a w]
  simp only [Oper.upon]
  have hv := hm.2 t
  have g1 : (st.put t (st.get t0)).get t = .slice (.own i) 1 (ss.map AV.str) := by simp [ASt.get, ASt.put, look]; exact hx
  rw [g1] at hv
  have hev : a.eval (.tmp t) = a.tmps.getD t undef := rfl
  rw [hev]
  have hi' : Inv c g (st.put t (st.get t0)) w := hi.putO (some t) _
  have hfr' : look (st.put t (st.get t0)).fronts i = some (e, 1, ss.length) := hfr
  obtain ⟨_, hown⟩ := own_strs hi' hv hfr'
  have fin : ∀ {g' : Gh} {w' : World} {y : Value}, (∀ tm, Inv c g' ⟨st.n, tm, [], [], []⟩ w') → VR g' w' (AV.lst 1 AV.str (compS ss)) y →
      wpOps P #[o1, o, o3] (QS c Q Qp) [2] (a.put o.dst y) w' := by
    intro g' w' y h1 h2
    refine wpOps_cons (o := o3) rfl hg3 ?_
    unfold Oper.wp
    rw [assign_run ho3]
    simp only [Oper.upon, wpOps]
    have h0 : Tm g' w' ⟨st.n, [], [], [], []⟩ a := ⟨hm.1, fun t' => .cl _ _ (.junk _)⟩
    have hp : Tm g' w' (ASt.put ⟨st.n, [], [], [], []⟩ d (AV.lst 1 AV.str (compS ss))) (a.put o.dst y) := by rw [hdd]; exact h0.put hd h2
    have hq := hp.2 d
    have hgd : (ASt.put ⟨st.n, [], [], [], []⟩ d (AV.lst 1 AV.str (compS ss))).get d = AV.lst 1 AV.str (compS ss) := by simp [ASt.get, ASt.put, look]
    rw [hgd] at hq
    refine ⟨_, g', h1 _, ?_, by rw [put_defers, put_defers]; exact hdf, hN⟩
    rw [hd3]
    have h00 : Tm g' w' ⟨st.n, [], [], [], []⟩ (a.put o.dst y) := ⟨hp.1, fun t' => .cl _ _ (.junk _)⟩
    exact h00.put hn3 hq
  rcases hown with ⟨hx0, rfl⟩ | ⟨blk, cap, cur, hx1, hblk, hcur, hle, hcm, hsz, hH, hDD⟩
  · rw [hx0]
    refine (hf.none none 0 w).mono ?_
    rintro e' w' ⟨rfl, rfl⟩
    have hsn : Since c c.D0 w' := ⟨fun b o hD => ⟨hD, (hi.since.dx b o hD).2⟩, hi.since.size, hi.since.frame, hi.since.os, hi.since.tape, hi.since.output, fun b o h => .inl h⟩
    have hc0 : compS ([] : List Str) = [] := List.eq_nil_of_length_eq_zero (Nat.le_zero.1 (compact_le _))
    refine fin (fun tm => hi.retract0 he hsn (fun b o h => D0_lt hi h) _ _) (.cl _ _ ?_)
    rw [hc0]
    exact .slice0 1 none 0
  · rw [hx1]
    refine (hf.some blk cap ss w hH hlen hle).mono ?_
    rintro e' w' ⟨rfl, n, rfl⟩
    have hcl := compact_le ss
    have hstep : RowStep w _ blk e _ := RowStep.put hcur n #[] (compS ss ++ List.replicate (ss.length - (compS ss).length) []).toArray
    rw [grow_empty] at hstep
    have hszd : (compS ss ++ List.replicate (ss.length - (compS ss).length) ([] : Str)).toArray.size = ss.length := by simp; omega
    have hpc : (putCells encStr 0 (compS ss ++ List.replicate (ss.length - (compS ss).length) []).toArray cur).size = cur.size := by simp [putCells]
    have hsn := Since.retract hi hblk hcur hstep hpc (compS ss).length
    have hcell : ∀ j (h : j < (compS ss).length), (putCells encStr 0 (compS ss ++ List.replicate (ss.length - (compS ss).length) []).toArray cur)[j]? = some (encStr (compS ss)[j]) := by
      intro j h
      have hj : j < (compS ss ++ List.replicate (ss.length - (compS ss).length) ([] : Str)).toArray.size := by rw [hszd]; omega
      rw [put_cell hj (by rw [hszd]; omega), getElem!_pos _ j hj]
      simp [List.getElem_append_left, h]
    refine fin (fun tm => hi.retract0 he hsn ?_ _ _) (.cl _ _ ?_)
    · rintro b o (hD | ⟨rfl, _⟩)
      · exact Nat.lt_of_lt_of_le (D0_lt hi hD) hstep.size
      · exact Nat.lt_of_lt_of_le (Array.getElem?_eq_some_iff.1 hcur).1 hstep.size
    · exact row_vd hstep.row (compS ss) (by omega) hcm (fun j hj => .inr ⟨rfl, hj⟩) hcell
end
end Go.Proofs.Eng
