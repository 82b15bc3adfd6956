/- Operations that make or write memory, upon worths. -/
import Derived.Test.YtdolhcmhdjmoeaaGreatDoorEngF
set_option linter.unusedSimpArgs false
set_option linter.unusedVariables false
namespace Go.Proofs.Eng
open Go

/-- A worth that says the same when closed. -/
def AV.isCl0 : AV → Bool
  | .val _ | .fl _ | .nils | .inp _ | .slice .non _ _ | .iface _ _ => true
  | _ => false
def AV.isCl1 : AV → Bool
  | .val _ | .fl _ | .nils | .inp _ | .slice .non _ _ | .iface _ _ => true
  | .func _ caps => caps.all AV.isCl0
  | _ => false
theorem isCl0_eq {v : AV} (h : v.isCl0 = true) : v.cl0 = v := by
  cases v with
  | slice o k els => cases o <;> simp_all [AV.isCl0, AV.cl0]
  | _ => simp_all [AV.isCl0, AV.cl0]
theorem isCl0_map : ∀ {l : List AV}, l.all AV.isCl0 = true → l.map AV.cl0 = l
  | [], _ => rfl
  | v :: l, h => by
    simp only [List.all_cons, Bool.and_eq_true] at h
    rw [List.map_cons, isCl0_eq h.1, isCl0_map h.2]
theorem isCl1_eq {v : AV} (h : v.isCl1 = true) : v.cl1 = v := by
  cases v with
  | slice o k els => cases o <;> simp_all [AV.isCl1, AV.cl1, AV.cl0]
  | func f caps => simp only [AV.isCl1] at h; simp only [AV.cl1, isCl0_map h]
  | _ => simp_all [AV.isCl1, AV.cl1, AV.cl0]
theorem isCl1_all {cs : List AV} (h : cs.all AV.isCl1 = true) : ∀ v, v ∈ cs → v.cl1 = v := by
  intro v hv
  exact isCl1_eq (List.all_eq_true.1 h v hv)

/-- What a closure captures: variables that it may write stay variables; the others are written no more. -/
def capt (keep : Nat → Bool) (st : ASt) : List Operand → (List AV → ASt → Prop) → Prop
  | [], K => K [] st
  | x :: r, K => match st.ev x with
    | .varp i off => if keep i = true then capt keep st r fun l st' => K (.varp i off :: l) st'
      else match look st.vars i with
        | some (_, cs) => cs.all AV.isCl1 = true ∧ capt keep { st with vars := (i, (true, cs)) :: st.vars } r fun l st' => K (.inp (cs.drop off) :: l) st'
        | none => False
    | v => capt keep st r fun l st' => K (v :: l) st'

def aeff (P : Program) (keep : Nat → Bool) (st : ASt) (dst : Option Tmp) : Op → (AV → ASt → Prop) → Prop
  | .alloc t, K => match dst with
    | some d => (look st.vars d = none ∧ 0 < (ty P t).zero.length) ∧ K (.varp d 0) { st with vars := (d, (false, (ty P t).zero)) :: st.vars }
    | none => False
  | .box _ x, K => match dst with
    | some d => (look st.vars d = none ∧ (st.ev x).isJunk = false) ∧ K (.varp d 0) { st with vars := (d, (false, (st.ev x).cells)) :: st.vars }
    | none => False
  | .store t p x, K => match st.ev p with
    | .varp i off => match look st.vars i with
      | some (false, cs) => ((st.ev x).isJunk = false ∧ (st.ev x).cells.all AV.cellOk = true ∧ (0 < (ty P t).size ∧ (st.ev x).cells.length = (ty P t).size) ∧ off + (ty P t).size ≤ cs.length) ∧
          K .junk { st with vars := (i, (false, cs.take off ++ (st.ev x).cells ++ cs.drop (off + (ty P t).size))) :: st.vars }
      | _ => False
    | .extp i off => match st.ext[i]? with
      | some cs => ((st.ev x).isJunk = false ∧ (st.ev x).cells.all AV.cellOk = true ∧ (0 < (ty P t).size ∧ (st.ev x).cells.length = (ty P t).size) ∧ off + (ty P t).size ≤ cs.length) ∧
          K .junk { st with ext := st.ext.set i (cs.take off ++ (st.ev x).cells ++ cs.drop (off + (ty P t).size)) }
      | none => False
    | _ => False
  | .buildSlice t n parts, K => match dst, (ty P t).k with
    | some d, .slice e => (look st.fronts d = none ∧ (0 < (ty P e).size ∧ (ty P e).zero.length = (ty P e).size) ∧ parts.toList.map (·.1) = List.range n ∧ n * (ty P e).size ≤ 16777216 ∧
        (parts.toList.all fun p => decide ((st.ev p.2).cl2.cells.length = (ty P e).size) && (st.ev p.2).cl2.cells.all AV.cellOk) = true) ∧
        K (.slice (.own d) (ty P e).size (parts.toList.map fun p => (st.ev p.2).cl2)) { st with fronts := (d, (e, (ty P e).size, n)) :: st.fronts }
    | _, _ => False
  | .makeFunc (.func f) first captured, K => first.toList = [] ∧ capt keep st captured.toList fun l st' => K (.func f l) st'
  | .call c, K => match dst, c.callee, c.args.toList, c.argTypes.toList with
    | some d, .builtin .append, [s, x], [t, t'] => match (ty P t).k with
      | .slice e => (t' = t ∧ 0 < (ty P e).size ∧ (ty P e).zero.length = (ty P e).size) ∧ match st.ev s, st.ev x with
        | .slice (.own id) k els, .slice _ k' ys => ((k = (ty P e).size ∧ k' = (ty P e).size) ∧ look st.fronts id = some (e, (ty P e).size, els.length) ∧ (els.length + ys.length) * (ty P e).bytes ≤ 140737488355328 ∧ els.length + ys.length ≤ 140737488355328) ∧
            K (.slice (.own id) k (els ++ ys)) { st with fronts := (id, (e, (ty P e).size, els.length + ys.length)) :: st.fronts }
        | .slice (.own id) k els, .nils => (k = (ty P e).size ∧ look st.fronts id = some (e, (ty P e).size, els.length)) ∧ K (.slice (.own id) k els) st
        | .nils, .slice _ k' ys => (look st.fronts d = none ∧ k' = (ty P e).size ∧ ys.length * (ty P e).bytes ≤ 140737488355328 ∧ ys.length ≤ 140737488355328) ∧
            K (.slice (.own d) k' ys) { st with fronts := (d, (e, (ty P e).size, ys.length)) :: st.fronts }
        | .nils, .nils => K .nils st
        | _, _ => False
      | _ => False
    | _, _, _, _ => False
  | _, _ => False

/-- What the walk says of one operation that makes or writes memory. -/
def Comes2 (P : Program) (c : Cx) (g : Gh) (w : World) (o : Oper) (a : Act) (K : AV → ASt → Prop) (n : Nat) (tmps : List (Nat × AV)) : Prop :=
  ∃ v st' x w' g', ((execOp a.eval o).run P w = .ok (.value x) w' ∨ ((execOp a.eval o).run P w = .ok .skip w' ∧ x = undef)) ∧ Inv c g' st' w' ∧ GExt g w g' w' ∧ VR g' w' v x ∧ K v st' ∧ st'.n = n ∧ st'.tmps = tmps

theorem zero_run {P : Program} {t : TypeId} (h : 0 < (ty P t).zero.length) : ∃ z, (∀ w : World, (zeroValue t).run P w = .ok z w) ∧ (ty P t).zero = z.cells.toList.map AV.ofConst := by
  have hk : (ty P t).k ≠ .none := by
    intro hn
    unfold ty at h hn
    split at h
    · rename_i i d hi hd
      simp only [hi, hd] at hn
      exact tkOf_ne P _ hn
    · simp at h
  obtain ⟨i, d, hi, hd, _, _, _, hz⟩ := ty_und hk
  cases hz0 : i.zero with
  | none => rw [hz, hz0] at h; simp at h
  | some z =>
    rw [hz0] at hz
    exact ⟨z, fun w => by simp [zeroValue, typeInfo, hi, hz0], hz⟩

theorem GExt.trans {g g1 g2 : Gh} {w w1 w2 : World} (h : GExt g w g1 w1) (k : GExt g1 w1 g2 w2) : GExt g w g2 w2 := by
  refine ⟨h.D.trans k.D, fun i b hb => k.vb i b (h.vb i b hb), k.eb.trans h.eb, fun id e he => ?_⟩
  obtain ⟨e', h5, h6⟩ := h.fr id e he
  obtain ⟨e'', h7, h8⟩ := k.fr id e' h5
  refine ⟨e'', h7, ?_⟩
  rcases h6 with rfl | h6 <;> rcases h8 with rfl | h8
  · exact .inl rfl
  · exact .inr h8
  · exact .inr h6
  · exact .inr (Nat.lt_trans h6 h8)

theorem capt_run {c : Cx} {keep : Nat → Bool} {w : World} {a : Act} : ∀ (xs : List Operand) (g : Gh) (st : ASt) (K : List AV → ASt → Prop), Inv c g st w → Tm g w st a → capt keep st xs K →
    ∃ l st' g', K l st' ∧ Inv c g' st' w ∧ GExt g w g' w ∧ l.length = xs.length ∧ (∀ j (h : j < l.length) (h' : j < xs.length), VR g' w l[j] (a.eval xs[j])) ∧ st'.n = st.n ∧ st'.tmps = st.tmps
  | [], g, st, K, hi, hm, h => ⟨[], st, g, h, hi, .refl g w, rfl, fun j h => by simp at h, rfl, rfl⟩
  | x :: r, g, st, K, hi, hm, h => by
    have hx := ev_vr hm x
    have plainCase : ∀ v, st.ev x = v → capt keep st r (fun l st' => K (v :: l) st') →
        ∃ l st' g', K l st' ∧ Inv c g' st' w ∧ GExt g w g' w ∧ l.length = (x :: r).length ∧ (∀ j (h : j < l.length) (h' : j < (x :: r).length), VR g' w l[j] (a.eval (x :: r)[j])) ∧ st'.n = st.n ∧ st'.tmps = st.tmps := by
      intro v hv h
      obtain ⟨l, st', g', h1, h2, h3, h4, h5, h6, h7⟩ := capt_run r g st _ hi hm h
      refine ⟨v :: l, st', g', h1, h2, h3, by simp [h4], fun j hj hj' => ?_, h6, h7⟩
      cases j with
      | zero => simpa using (hv ▸ hx).mono h3
      | succ j => simpa using h5 j (by simpa using hj) (by simpa using hj')
    simp only [capt] at h
    split at h
    · rename_i i off hv
      split at h
      · exact plainCase _ hv h
      · split at h
        · rename_i z cs hl
          obtain ⟨hc, h⟩ := h
          obtain ⟨g1, b, h1, h2, h3, h4⟩ := hi.freeze i z cs hl (isCl1_all hc)
          obtain ⟨l, st', g', k1, k2, k3, k4, k5, k6, k7⟩ := capt_run r g1 _ _ h1 (hm.mono h2).vars h
          refine ⟨_, st', g', k1, k2, h2.trans k3, by simp [k4], fun j hj hj' => ?_, k6, k7⟩
          · cases j with
            | zero =>
              simp only [List.getElem_cons_zero]
              rw [hv] at hx
              obtain ⟨b', hb', he⟩ := hx.varp_of
              have hb2 := h2.vb i b' hb'
              obtain rfl : b' = b := by rw [h3] at hb2; injection hb2 with h; exact h.symm
              rw [he]
              exact (h4 off).mono k3
            | succ j => simpa using k5 j (by simpa using hj) (by simpa using hj')
        · exact h.elim
    · rename_i hv
      exact plainCase _ rfl h

theorem VR.oneCell {g : Gh} {w : World} {v : AV} {x : Value} (h : VR g w v x) (hv : v.cellOk = true) : x.oneCell' = true := by
  cases h with
  | cl _ _ hd => cases hd with
    | val _ hp => cases x <;> first | rfl | simp [plain] at hp
    | _ => first | rfl | simp [AV.cellOk] at hv
  | own id k els x e hd => cases hd <;> rfl
  | _ => first | rfl | simp [AV.cellOk] at hv

theorem isJunk_ne {v : AV} (h : v.isJunk = false) : v ≠ .junk := by intro e; rw [e] at h; simp [AV.isJunk] at h

/-- A store of a value's cells into a block's cells. -/
theorem store_cells {P : Program} {g : Gh} {w : World} {t : TypeId} {b off : Nat} {cs : List AV} {arr : Array Value} {et : TypeId} {v : AV} {x : Value} (h1 : w.heap[b]? = some (.cells arr et (0, 0))) (h2 : cs.length = arr.size)
    (h3 : ∀ j (h : j < cs.length) (h' : j < arr.size), VR g w cs[j] arr[j]) (hv : VR g w v x) (hj : v.isJunk = false) (hok : v.cells.all AV.cellOk = true) (h0 : 0 < (ty P t).size) (hsz : v.cells.length = (ty P t).size)
    (hfit : off + (ty P t).size ≤ cs.length) :
    ∃ arr', (Instr.storeAt t (.pointer (some ⟨b, off, none⟩)) x).run P w = .ok () (w.setRow b arr') ∧ (cs.take off ++ v.cells ++ cs.drop (off + (ty P t).size)).length = arr'.size ∧
      ∀ j (h : j < (cs.take off ++ v.cells ++ cs.drop (off + (ty P t).size)).length) (h' : j < arr'.size), VR g w (cs.take off ++ v.cells ++ cs.drop (off + (ty P t).size))[j] arr'[j] := by
  obtain ⟨hcs, hcv⟩ := hv.cells (isJunk_ne hj)
  have hone : ∀ u ∈ x.cells.toList, u.oneCell' = true := by
    intro u hu
    obtain ⟨j, hj1, hj2⟩ := List.getElem_of_mem hu
    have hj3 : j < x.cells.size := by simpa using hj1
    have := (hcv j (by omega) hj3).oneCell (List.all_eq_true.1 hok _ (List.getElem_mem (by omega)))
    rw [← hj2]
    simpa using this
  have hst := run_storeCells_at P b off et x.cells.toList 0 arr w h1 (by simp; omega) hone
  refine ⟨(arr.toList.take off ++ x.cells.toList ++ arr.toList.drop (off + x.cells.toList.length)).toArray, ?_, ?_, ?_⟩
  · simp only [Instr.storeAt, Instr.sureAddr, storeVar, Sem.run_bind, Sem.run_pure, Result.andThen_ok, tk_size h0]
    rw [← hsz, hcs]
    simp only [ne_eq, not_true_eq_false, if_false, Sem.run_bind, Sem.run_pure, Result.andThen_ok]
    simpa using hst
  · simp; omega
  · intro j hj1 hj2
    simp only [List.getElem_toArray]
    simp only [List.length_append, List.length_take, List.length_drop] at hj1
    by_cases c1 : j < off
    · rw [List.getElem_append_left (by simp; omega), List.getElem_append_left (by simp; omega)]
      rw [List.getElem_append_left (by simp; omega), List.getElem_append_left (by simp; omega)]
      simp only [List.getElem_take, Array.getElem_toList]
      exact h3 j (by omega) (by omega)
    · by_cases c2 : j < off + (ty P t).size
      · rw [List.getElem_append_left (by simp; omega), List.getElem_append_right (by simp; omega)]
        rw [List.getElem_append_left (by simp; omega), List.getElem_append_right (by simp; omega)]
        simp only [List.length_take, Array.length_toList, Array.getElem_toList]
        have e1 : j - min off cs.length = j - off := by omega
        have e2 : j - min off arr.size = j - off := by omega
        simp only [e1, e2]
        exact hcv (j - off) (by omega) (by omega)
      · rw [List.getElem_append_right (by simp; omega), List.getElem_append_right (by simp; omega)]
        simp only [List.getElem_drop, List.length_append, List.length_take, Array.length_toList, Array.getElem_toList]
        have e1 : off + (ty P t).size + (j - (min off cs.length + v.cells.length)) = j := by omega
        have e2 : off + x.cells.size + (j - (min off arr.size + x.cells.size)) = j := by omega
        simp only [e1, e2]
        exact h3 j (by omega) (by omega)

/-- Parts laid one behind the other. -/
theorem fill_seq (size : Nat) : ∀ (vs : List Value) (i : Nat) (arr : Array Value), (∀ v ∈ vs, v.cells.size = size) → (i + vs.length) * size ≤ arr.size →
    Instr.fill (fun i => some (i * size, size)) arr ((List.range' i vs.length).zip vs) = some (arr.toList.take (i * size) ++ vs.flatMap (fun v => v.cells.toList) ++ arr.toList.drop ((i + vs.length) * size)).toArray
  | [], i, arr, _, h => by simp [Instr.fill]
  | v :: r, i, arr, hv, h => by
    have hsz := hv v (by simp)
    have hle : i * size + size ≤ arr.size := by
      have : (i + 1) * size ≤ (i + (v :: r).length) * size := Nat.mul_le_mul_right _ (by simp)
      rw [Nat.add_mul] at this
      omega
    have hlist := fill_list (i * size) v.cells.toList 0 arr (by simp; omega)
    have hfold : v.cells.zipIdx.foldl (fun cs (p : Value × Nat) => cs.setIfInBounds (i * size + p.2) p.1) arr = (arr.toList.take (i * size) ++ v.cells.toList ++ arr.toList.drop (i * size + size)).toArray := by
      rw [← Array.toList_inj, ← Array.foldl_toList, Array.toList_zipIdx]
      simpa [hsz] using hlist
    rw [List.length_cons, List.range'_succ, List.zip_cons_cons, Instr.fill]
    simp only
    rw [if_neg (by simp [hsz]; omega)]
    rw [show (v.cells.zipIdx.foldl (fun cs x => match x with | (c, j) => cs.setIfInBounds (i * size + j) c) arr) = v.cells.zipIdx.foldl (fun cs (p : Value × Nat) => cs.setIfInBounds (i * size + p.2) p.1) arr from rfl, hfold]
    have ih := fill_seq size r (i + 1) (arr.toList.take (i * size) ++ v.cells.toList ++ arr.toList.drop (i * size + size)).toArray (fun u hu => hv u (by simp [hu])) (by
      simp only [List.size_toArray, List.length_append, List.length_take, List.length_drop, Array.length_toList]
      have h' : (i + 1 + r.length) * size ≤ arr.size := by
        have h2 := h
        rw [List.length_cons, show i + (r.length + 1) = i + 1 + r.length by omega] at h2
        exact h2
      have hB : min (i * size) arr.size + v.cells.size + (arr.size - (i * size + size)) = arr.size := by omega
      rw [hB]
      exact h')
    rw [ih]
    congr 2
    have hl : (arr.toList.take (i * size) ++ v.cells.toList).length = (i + 1) * size := by
      simp only [List.length_append, List.length_take, Array.length_toList, hsz]
      rw [Nat.add_mul]; omega
    rw [show (i + 1) * size = (arr.toList.take (i * size) ++ v.cells.toList).length from hl.symm]
    rw [List.take_left']
    · simp only [List.flatMap_cons, List.append_assoc]
      congr 2
      rw [← List.append_assoc, List.drop_append, List.drop_eq_nil_of_le (by rw [hl]; exact Nat.mul_le_mul_right _ (by omega)), List.nil_append, List.drop_drop, hl]
      congr 1
      rw [show i + (r.length + 1) = (i + 1) + r.length by omega, Nat.add_mul (i + 1) r.length size, Nat.add_sub_cancel_left, Nat.add_mul i 1 size, Nat.one_mul]
    · rfl

theorem flat_at (size : Nat) : ∀ (vs : List Value), (∀ v ∈ vs, v.cells.size = size) → ∀ (i j : Nat) (h : i < vs.length) (hj : j < size), (vs.flatMap (fun v => v.cells.toList))[i * size + j]? = some (vs[i].cells.getD j undef)
  | [], _, i, j, h, _ => by simp at h
  | v :: r, hv, i, j, h, hj => by
    have hsz := hv v (by simp)
    simp only [List.flatMap_cons]
    cases i with
    | zero =>
      rw [List.getElem?_append_left (by simp [hsz]; omega)]
      simp [Array.getD, hsz, hj]
    | succ i =>
      rw [List.getElem?_append_right (by simp only [Array.length_toList, hsz]; rw [Nat.add_mul]; omega)]
      have := flat_at size r (fun u hu => hv u (by simp [hu])) i j (by simpa using h) hj
      rw [show (i + 1) * size + j - v.cells.toList.length = i * size + j by simp only [Array.length_toList, hsz]; rw [Nat.add_mul]; omega]
      simpa using this
theorem flat_len (size : Nat) : ∀ (vs : List Value), (∀ v ∈ vs, v.cells.size = size) → (vs.flatMap (fun v => v.cells.toList)).length = vs.length * size
  | [], _ => by simp
  | v :: r, hv => by
    have hsz := hv v (by simp)
    simp only [List.flatMap_cons, List.length_append, flat_len size r (fun u hu => hv u (by simp [hu])), Array.length_toList, hsz, List.length_cons]
    rw [Nat.add_mul]; omega

theorem zip_of {β : Type} : ∀ (l : List (Nat × β)) (i : Nat), l.map (·.1) = List.range' i l.length → (List.range' i l.length).zip (l.map (·.2)) = l
  | [], _, _ => rfl
  | (a, b) :: r, i, h => by
    simp only [List.map_cons, List.length_cons, List.range'_succ, List.cons.injEq] at h
    obtain ⟨rfl, h⟩ := h
    simp only [List.map_cons, List.length_cons, List.range'_succ, List.zip_cons_cons]
    rw [zip_of r _ h]

/-- A slice literal's block. -/
theorem buildSlice_run {P : Program} {t e : TypeId} (hk : (ty P t).k = .slice e) (h0 : 0 < (ty P e).size) (hz : (ty P e).zero.length = (ty P e).size) (n : Nat) (parts : Array (Nat × Value)) (hp : parts.toList.map (·.1) = List.range n)
    (h24 : n * (ty P e).size ≤ 16777216) (hs : ∀ v ∈ parts.toList.map (·.2), v.cells.size = (ty P e).size) (w : World) :
    (Instr.buildSlice t n parts).run P w = .ok (.slice (some ⟨w.heap.size, 0, none⟩) n n) (w.alloc (.cells ((parts.toList.map (·.2)).flatMap fun v => v.cells.toList).toArray e)) := by
  obtain ⟨z, hzr, hzz⟩ := zero_run (P := P) (t := e) (by omega)
  have hzs : z.cells.size = (ty P e).size := by
    have := congrArg List.length hzz
    simp at this; omega
  have hlen : parts.toList.length = n := by have := congrArg List.length hp; simpa using this
  have hfill : ∀ arr : Array Value, arr.size = n * (ty P e).size → Instr.fill (fun i => some (i * (ty P e).size, (ty P e).size)) arr parts.toList = some ((parts.toList.map (·.2)).flatMap fun v => v.cells.toList).toArray := by
    intro arr ha
    have h := fill_seq (ty P e).size (parts.toList.map (·.2)) 0 arr hs (by simp; rw [ha, ← hlen]; simp)
    rw [List.length_map] at h
    rw [zip_of parts.toList 0 (by rw [hp, hlen, List.range_eq_range'])] at h
    rw [h]
    simp only [Nat.zero_mul, List.take_zero, List.nil_append, Nat.zero_add]
    rw [List.drop_eq_nil_of_le (by simp [ha, ← hlen]), List.append_nil]
  simp only [Instr.buildSlice, Sem.run_bind, run_underlying (tk_slice hk), Result.andThen_ok, tk_size h0]
  rw [if_neg (by omega)]
  by_cases hn : n * (ty P e).size = 0
  · simp only [hn, if_true, Sem.run_pure, Result.andThen_ok, Sem.run_bind]
    rw [hfill _ (by simp [hn])]
    simp [newRow, Sem.run_bind, World.alloc_eq]
  · simp only [hn, if_false, Sem.run_bind, hzr, Result.andThen_ok, Sem.run_pure]
    rw [hfill _ (by simp)]
    simp [newRow, Sem.run_bind, World.alloc_eq]

theorem append_none {P : Program} {t ty' e : TypeId} (hk : (ty P t).k = .slice e) (h0 : 0 < (ty P e).size) (b a : Option Addr) (n cap c : Nat) (hn : n ≤ cap) (w : World) :
    (Builtin.append_ #[t, t] ty' #[.slice b n cap, .slice a 0 c]).run P w = .ok (.slice b n cap) w := by
  have hzeros : ∀ w : World, ((do pure ((← underlying t) matches .int _) : Sem Bool)).run P w = .ok false w := by
    intro w; simp [run_underlying (tk_slice hk)]
  cases b <;> cases a <;> simp [Builtin.append_, run_underlying (tk_slice hk), tk_size h0, Builtin.lenOf, hn, Builtin.firstCells, loadCells, loadCellsFrom, storeCells]

/-- What owning a row says. -/
theorem own_form {w : World} {base : Nat} {e : TypeId} {k : Nat} {v : Value} {n : Nat} {xs : List Value} (h : w.ownsRow base e k v n xs) : ∃ b cap, v = .slice b n cap ∧ n ≤ cap := by
  rcases h.2 with ⟨rfl, rfl⟩ | ⟨g, cap, cur, rfl, _, _, hn, _⟩
  · exact ⟨none, 0, rfl, Nat.le_refl 0⟩
  · exact ⟨_, cap, rfl, hn⟩

/-- Closed elements, read as cells. -/
theorem slice_cells {D : Foot} {w : World} {k : Nat} {els : List AV} {a : Option Addr} {cap : Nat} (h : VD D w (.slice .non k els) (.slice a els.length cap)) (h0 : 0 < els.length) : ∃ (b o : Nat) (f : Nat → Nat → Value), a = some ⟨b, o, none⟩ ∧
    (∀ i (h : i < els.length), (els[i]).cells.length = k ∧ (els[i]).cells.all AV.cellOk = true) ∧ (∀ i j, i < els.length → j < k → D b (o + (i * k + j))) ∧ (∀ i j, i < els.length → j < k → w.cell? ⟨b, o + (i * k + j), none⟩ = some (f i j)) ∧
    (∀ i (h : i < els.length) j (hj : j < (els[i]).cells.length), VD D w ((els[i]).cells[j]) (f i j)) := by
  generalize hq : Value.slice a els.length cap = q at h
  cases h with
  | slice0 => simp at h0
  | slice k els b o cap f g1 g2 g3 g4 g5 g6 =>
    injection hq with e1 e2 e3
    exact ⟨b, o, f, e1, g3, g4, g5, g6⟩

theorem divmod {k i : Nat} (hk : 0 < k) (n : Nat) (h : i < n * k) : i / k < n ∧ i % k < k ∧ i = i / k * k + i % k :=
  ⟨Nat.div_lt_of_lt_mul (by rw [Nat.mul_comm]; exact h), Nat.mod_lt _ hk, by rw [Nat.mul_comm]; exact (Nat.div_add_mod i k).symm⟩

/-- A slice that owns what it reads: closed cells, laid from the block's head. -/
theorem own_data {D : Foot} {w : World} {base : Nat} {e : TypeId} {k : Nat} {v : Value} {els : List AV} {xs : List Value} (hk : 0 < k) (hown : w.ownsRow base e k v els.length xs) (hD : ∀ b o, v.ownBlock = some b → o < els.length * k → D b o)
    (hx : ∀ i (h : i < els.length), (els[i]).cells.length = k ∧ (els[i]).cells.all AV.cellOk = true) (hv : ∀ i (h : i < els.length) j (hj : j < (els[i]).cells.length) u, xs[i * k + j]? = some u → VD D w ((els[i]).cells[j]) u) :
    VD D w (.slice .non k els) v := by
  have hl := hown.1
  rcases Nat.eq_zero_or_pos els.length with h0 | h0
  · have he : els = [] := List.eq_nil_of_length_eq_zero h0
    subst he
    obtain ⟨b, cap, rfl, _⟩ := own_form hown
    exact .slice0 k b cap
  · rcases hown.2 with ⟨rfl, h⟩ | ⟨gb, cap, cur, rfl, _, _, hn, hm, _⟩
    · omega
    · have hidx : ∀ i j, i < els.length → j < k → i * k + j < els.length * k := by
        intro i j hi hj
        have : (i + 1) * k ≤ els.length * k := Nat.mul_le_mul_right _ hi
        rw [Nat.add_mul] at this; omega
      refine .slice k els gb 0 cap (fun i j => xs.getD (i * k + j) undef) hn hm hx (fun i j hi hj => ?_) (fun i j hi hj => ?_) (fun i hi j hj => ?_)
      · rw [Nat.zero_add]; exact hD gb _ rfl (hidx i j hi hj)
      · rw [Nat.zero_add]
        have hlt := hidx i j hi hj
        have := hown.cells (g := gb) rfl (i * k + j) (xs.getD (i * k + j) undef) (by rw [List.getElem?_eq_getElem (by omega)]; simp [List.getD, List.getElem?_eq_getElem (show i * k + j < xs.length by omega)])
        rwa [Addr.add_lit, Nat.zero_add] at this
      · have hj' : j < k := by have := (hx i hi).1; omega
        have hlt := hidx i j hi hj'
        refine hv i hi j hj _ ?_
        simp [List.getD, List.getElem?_eq_getElem (show i * k + j < xs.length by omega)]

theorem ownsRow_cell {w : World} {base : Nat} {e : TypeId} {k : Nat} {v : Value} {n : Nat} {xs : List Value} (h : w.ownsRow base e k v n xs) {b j : Nat} (hb : v.ownBlock = some b) (hj : j < xs.length) : w.cell? ⟨b, j, none⟩ = some xs[j] := by
  have := h.cells hb j xs[j] (List.getElem?_eq_getElem hj)
  rwa [Addr.add_lit, Nat.zero_add] at this

set_option maxHeartbeats 1000000 in
/-- append of closed elements onto a row that may be appended to (or none yet). -/
theorem append_run {P : Program} {c : Cx} {g : Gh} {st : ASt} {w : World} (hi : Inv c g st w) {t e : TypeId} (tyo : TypeId) (hk : (ty P t).k = .slice e) (h0 : 0 < (ty P e).size) (hz : (ty P e).zero.length = (ty P e).size) (id : Nat) (els ys : List AV) (v : Value)
    (xs : List Value) (hown : w.ownsRow c.w0.heap.size e (ty P e).size v els.length xs) (hold : (look st.fronts id = none ∧ v.ownBlock = none) ∨ ∃ e', g.fr id = some e' ∧ e'.v = v ∧ e'.len = els.length)
    (hvd : VD g.D w (.slice .non (ty P e).size els) v) (a : Option Addr) (cp : Nat) (hys : VD g.D w (.slice .non (ty P e).size ys) (.slice a ys.length cp)) (hin : ∀ b o, v.ownBlock = some b → g.D b o → o < els.length * (ty P e).size)
    (hb : (els.length + ys.length) * (ty P e).bytes ≤ 140737488355328) (hm : els.length + ys.length ≤ 140737488355328) (hpos : 0 < ys.length) :
    ∃ v' w' g', (Builtin.append_ #[t, t] tyo #[v, .slice a ys.length cp]).run P w = .ok v' w' ∧ Inv c g' { st with fronts := (id, (e, (ty P e).size, els.length + ys.length)) :: st.fronts } w' ∧ GExt g w g' w' ∧
      VR g' w' (.slice (.own id) (ty P e).size (els ++ ys)) v' := by
  obtain ⟨z, hzr, hzz⟩ := zero_run (P := P) (t := e) (by omega)
  have hzs : z.cells.size = (ty P e).size := by
    have := congrArg List.length hzz
    simp at this; omega
  obtain ⟨i, d, hii, hid, hkk, hsi, hby, hzi⟩ := ty_und (P := P) (t := e) (ty_some h0)
  have hiz : i.zero = some z := by
    have := hzr w
    simp [zeroValue, typeInfo, hii] at this
    cases hq : i.zero with
    | none => simp [hq] at this
    | some z' => simp [hq] at this; rw [this]
  generalize hsz : (ty P e).size = k at *
  obtain ⟨b, o, f, rfl, g3, g4, g5, g6⟩ := slice_cells hys hpos
  let news : List Value := (List.range (ys.length * k)).map fun j => f (j / k) (j % k)
  have hnl : news.length = ys.length * k := by simp [news]
  have hnews : ∀ j u, news[j]? = some u → w.cell? ((⟨b, o, none⟩ : Addr).add j) = some u := by
    intro j u hu
    obtain ⟨hj, he⟩ := List.getElem?_eq_some_iff.1 hu
    rw [hnl] at hj
    obtain ⟨q1, q2, q3⟩ := divmod h0 ys.length hj
    simp only [news, List.getElem_map, List.getElem_range] at he
    rw [Addr.add_lit, ← he]
    have := g5 (j / k) (j % k) q1 q2
    rwa [← q3] at this
  have hone : ∀ u ∈ news, u.oneCell' = true := by
    intro u hu
    obtain ⟨j, hj, he⟩ := List.getElem_of_mem hu
    rw [hnl] at hj
    obtain ⟨q1, q2, q3⟩ := divmod h0 ys.length hj
    simp only [news, List.getElem_map, List.getElem_range] at he
    rw [← he]
    have hjl : j % k < (ys[j / k]).cells.length := by rw [(g3 _ q1).1]; exact q2
    exact VR.oneCell (g := g) (.cl _ _ (g6 (j / k) q1 (j % k) hjl)) (List.all_eq_true.1 (g3 _ q1).2 _ (List.getElem_mem hjl))
  have hmax : els.length + ys.length ≤ maxLen := by simp only [maxLen]; omega
  obtain ⟨v', w', hr, hown', hgr, _, hat⟩ := run_append_own_at (P := P) w c.w0.heap.size t tyo e i z k i.bytes (tk_slice hk) hii hiz hsi.symm rfl hzs h0 v els.length xs hown ⟨b, o, none⟩ ys.length cp news hnl hnews hone hmax (by rw [← hby]; exact hb) hi.since.size
  have hxl : xs.length = els.length * k := hown.1
  have hkeep : ∀ b o, v.ownBlock = some b → g.D b o → w'.cell? ⟨b, o, none⟩ = w.cell? ⟨b, o, none⟩ := by
    intro b' o' hb' ho'
    have hlt := hin b' o' hb' ho'
    rw [ownsRow_cell hown hb' (by omega)]
    rcases hat with h | h
    · rw [ownsRow_cell hown' (h.trans hb') (by simp; omega)]
      rw [List.getElem_append_left (by omega)]
    · have hb'lt := (hown.lt b' hb').2
      have hmem : w'.heap[b']? = w.heap[b']? ∨ True := .inr trivial
      by_cases hsame : v'.ownBlock = some b'
      · rw [ownsRow_cell hown' hsame (by simp; omega), List.getElem_append_left (by omega)]
      · -- the old row, left behind: its block is not written
        rcases hown.2 with ⟨h5, _⟩ | ⟨gb, cap, cur, h5, _, hgb, hn, hcm, hcs, htk⟩
        · rw [h5] at hb'; cases hb'
        · have hgb' : gb = b' := by rw [h5] at hb'; injection hb'
          subst hgb'
          subst h5
          by_cases hroom : els.length + ys.length ≤ cap
          · have hr2 := run_append_room (P := P) w t tyo e i (tk_slice hk) hii gb els.length cap cur hgb ⟨b, o, none⟩ ys.length cp news (by rw [hnl, hsi]) hnews hone hroom (by rw [hnl, hcs, ← hsi, ← Nat.add_mul]; exact Nat.mul_le_mul_right _ hroom)
            rw [hr] at hr2
            injection hr2 with e1 e2
            exact absurd (by rw [e1]; rfl) hsame
          · have hr2 := run_append_grow (P := P) w t tyo e i z (tk_slice hk) hii hiz ⟨gb, 0, none⟩ els.length cap xs (by rw [hxl, hsi]) (hown.cells (g := gb) rfl) ⟨b, o, none⟩ ys.length cp news (by rw [hnl, hsi]) hnews (by omega) (by omega) (growslice_fits (by omega) (by rw [← hby]; exact hb))
            rw [hr] at hr2
            injection hr2 with e1 e2
            rw [e2]
            have : (w.drew.alloc (.cells (xs.toArray ++ news.toArray ++ Builtin.zeroCells z.cells (grownCap w (els.length + ys.length) cap e - (els.length + ys.length))) e)).heap[gb]? = w.heap[gb]? := heap_alloc_old w.drew _ hb'lt
            rw [cell_heap this, ← ownsRow_cell hown rfl (by omega)]
  obtain ⟨g', hinv, hg, hfr, hDn⟩ := hi.front id v v' e k (els.length + ys.length) (xs ++ news) h0 (by
    rcases hold with h | ⟨e', h1, h2, h3⟩
    · exact .inl h
    · exact .inr ⟨e', h1, h2, by omega⟩) hown' hgr (by
    rcases hat with h | h
    · exact .inl h
    · exact .inr ⟨_, h, Nat.le_refl _⟩) hkeep (by
    intro b' o' hb' ho'
    rw [Nat.add_mul]
    rcases hat with h | h
    · have := hin b' o' (h ▸ hb') ho'; omega
    · rw [h] at hb'; injection hb' with hb'; subst hb'
      have := hi.dlt _ _ ho'; omega)
  refine ⟨v', w', g', hr, hinv, hg, .own id k (els ++ ys) v' ⟨v', els.length + ys.length⟩ ?_ hfr (by simp) (fun _ => rfl)⟩
  refine own_data (base := c.w0.heap.size) (e := e) (xs := xs ++ news) h0 (by simpa using hown') (fun b' o' hb' ho' => hDn b' o' hb' (by simpa using ho')) ?_ ?_
  · intro i hi'
    by_cases hlt : i < els.length
    · rw [List.getElem_append_left hlt]
      rcases Nat.eq_zero_or_pos els.length with h | h
      · omega
      · obtain ⟨b1, cap1, hv1, _⟩ := own_form hown
        rw [hv1] at hvd
        obtain ⟨_, _, _, _, g3', _⟩ := slice_cells hvd h
        exact g3' i hlt
    · rw [List.getElem_append_right (by omega)]
      exact g3 _ (by simp at hi'; omega)
  · intro i hi' j hj u hu
    by_cases hlt : i < els.length
    · rw [List.getElem_append_left hlt] at hj
      have hpos' : 0 < els.length := by omega
      obtain ⟨b1, cap1, hv1, _⟩ := own_form hown
      rw [hv1] at hvd
      obtain ⟨b2, o2, f2, ha2, g3', g4', g5', g6'⟩ := slice_cells hvd hpos'
      have hj' : j < k := by have := (g3' i hlt).1; omega
      have hix : i * k + j < els.length * k := by
        have : (i + 1) * k ≤ els.length * k := Nat.mul_le_mul_right _ hlt
        rw [Nat.add_mul] at this; omega
      rw [List.getElem?_append_left (by omega)] at hu
      have hob : v.ownBlock = some b2 := by rw [hv1, ha2]; rfl
      have ho2 : o2 = 0 := by
        rcases hown.2 with ⟨h, _⟩ | ⟨gb, cap, cur, h, _⟩
        · rw [hv1, ha2] at h; cases h
        · rw [hv1, ha2] at h; injection h with h; injection h with h; injection h with h1 h2
      have hcell := g5' i j hlt hj'
      rw [ho2, Nat.zero_add] at hcell
      have hcell2 := ownsRow_cell hown hob (j := i * k + j) (by omega)
      rw [hcell2] at hcell
      have hu' : u = f2 i j := by
        rw [List.getElem?_eq_getElem (by omega)] at hu
        injection hu with hu; injection hcell with hcell
        rw [← hu, hcell]
      have e1 : (els ++ ys)[i] = els[i] := List.getElem_append_left hlt
      simp only [e1]
      rw [hu']
      exact (g6' i hlt j hj).mono hg.D
    · rw [List.getElem_append_right (by omega)] at hj
      have hil : i - els.length < ys.length := by simp at hi'; omega
      have hj' : j < k := by have := (g3 _ hil).1; omega
      have hge : xs.length ≤ i * k + j := by
        have : els.length * k ≤ i * k := Nat.mul_le_mul_right _ (by omega)
        omega
      rw [List.getElem?_append_right hge] at hu
      obtain ⟨hj2, he2⟩ := List.getElem?_eq_some_iff.1 hu
      have hidx : i * k + j - xs.length = (i - els.length) * k + j := by
        rw [hxl, Nat.sub_mul]
        have : els.length * k ≤ i * k := Nat.mul_le_mul_right _ (by omega)
        omega
      simp only [news, List.getElem_map, List.getElem_range, hidx] at he2
      rw [show ((i - els.length) * k + j) / k = i - els.length by rw [Nat.mul_comm, Nat.mul_add_div h0, Nat.div_eq_of_lt hj', Nat.add_zero], show ((i - els.length) * k + j) % k = j by rw [Nat.mul_comm, Nat.mul_add_mod, Nat.mod_eq_of_lt hj']] at he2
      have e1 : (els ++ ys)[i] = ys[i - els.length] := List.getElem_append_right (by omega)
      simp only [e1]
      rw [← he2]
      exact (g6 _ hil j hj).mono hg.D

theorem own_slice_of {c : Cx} {g : Gh} {st : ASt} {w : World} (hi : Inv c g st w) {id k k' : Nat} {e : TypeId} {els : List AV} {x : Value} (h : VR g w (.slice (.own id) k els) x) (hf : look st.fronts id = some (e, k', els.length)) :
    ∃ e' xs, g.fr id = some e' ∧ e'.v = x ∧ e'.len = els.length ∧ w.ownsRow c.w0.heap.size e k' x els.length xs ∧ VD g.D w (.slice .non k els) x ∧ (∀ b o, x.ownBlock = some b → g.D b o → o < els.length * k') := by
  cases h with
  | cl _ _ hd => cases hd
  | own _ _ _ _ e1 hd he hl hx =>
    obtain ⟨e2, xs, h1, h2, h3, h4, h5⟩ := hi.fr id e k' els.length hf
    obtain rfl : e1 = e2 := by rw [he] at h1; injection h1
    have hxe := hx h2.symm
    subst hxe
    exact ⟨e1, xs, he, rfl, h2, h4, hd, h5⟩

theorem Inv.relook {c : Cx} {g : Gh} {st : ASt} {w : World} (hi : Inv c g st w) {F : List (Nat × (TypeId × Nat × Nat))} (h : ∀ j, look F j = look st.fronts j) : Inv c g { st with fronts := F } w :=
  ⟨hi.since, hi.eb, hi.nodup, hi.ebl, hi.vbl, hi.frl, hi.var, hi.vdom, hi.ext, fun id t k n hl => hi.fr id t k n ((h id).symm.trans hl), fun id e he => by rw [h id]; exact hi.fdom id e he, hi.vinj, hi.finj, hi.vf, hi.dlt⟩

theorem VD.cells {D : Foot} {w : World} {v : AV} {x : Value} (h : VD D w v x) (hj : v ≠ .junk) :
    v.cells.length = x.cells.size ∧ ∀ j (h : j < v.cells.length) (h' : j < x.cells.size), VD D w v.cells[j] x.cells[j] := by
  have one : ∀ {v : AV} {x : Value}, VD D w v x → v.cells = [v] → x.cells = #[x] →
      v.cells.length = x.cells.size ∧ ∀ j (h : j < v.cells.length) (h' : j < x.cells.size), VD D w v.cells[j] x.cells[j] := by
    intro v x h e1 e2
    refine ⟨by simp [e1, e2], fun j h1 h2 => ?_⟩
    have hj0 : j = 0 := by simp [e1] at h1; omega
    subst hj0
    simpa [e1, e2] using h
  cases v with
  | junk => exact absurd rfl hj
  | agg cs => cases h with
    | agg _ arr hs h2 => exact ⟨hs, h2⟩
  | val v =>
    refine one h rfl ?_
    cases h with
    | val _ hp => cases x <;> simp_all [plain, Value.cells]
  | _ => exact one h rfl (by cases h <;> rfl)

theorem upd_n {st : ASt} {V : List (Nat × (Bool × List AV))} : ({ st with vars := V } : ASt).n = st.n := rfl

set_option maxHeartbeats 2000000 in
theorem aeff_run {P : Program} {keep : Nat → Bool} {c : Cx} {g : Gh} {st : ASt} {w : World} {a : Act} (hi : Inv c g st w) (hm : Tm g w st a) {o : Oper} {K : AV → ASt → Prop} (h : aeff P keep st o.dst o.op K) :
    Comes2 P c g w o a K st.n st.tmps := by
  obtain ⟨dst, op, typ, pos, after, guard⟩ := o
  unfold aeff at h
  simp only at h
  unfold Comes2 execOp
  split at h
  · rename_i t
    split at h
    · rename_i d
      obtain ⟨⟨hd, h0⟩, h⟩ := h
      obtain ⟨z, hzr, hzz⟩ := zero_run (P := P) (t := t) h0
      obtain ⟨g', h1, h2, h3⟩ := hi.newVar d hd (ty P t).zero z.cells t (by rw [hzz]; simp) (fun j h h' => by
        simp only [hzz, List.getElem_map, Array.getElem_toList]
        exact ofConst_vr g w _)
      refine ⟨_, _, .pointer (some ⟨w.heap.size, 0, none⟩), _, g', .inl ?_, h1, h2, .varp d 0 _ h3, h, rfl, rfl⟩
      simp [Instr.alloc, Sem.run_bind, hzr, newVar, newRow, World.alloc_eq]
    · exact h.elim
  · rename_i t x
    split at h
    · rename_i d
      obtain ⟨⟨hd, hj⟩, h⟩ := h
      have hv := ev_vr hm x
      obtain ⟨hs, hc⟩ := hv.cells (isJunk_ne hj)
      obtain ⟨g', h1, h2, h3⟩ := hi.newVar d hd (st.ev x).cells (a.eval x).cells t hs hc
      refine ⟨_, _, .pointer (some ⟨w.heap.size, 0, none⟩), _, g', .inl ?_, h1, h2, .varp d 0 _ h3, h, rfl, rfl⟩
      simp [Instr.box, Sem.run_bind, newVar, newRow, World.alloc_eq]
    · exact h.elim
  · rename_i t p x
    have hp := ev_vr hm p
    have hv := ev_vr hm x
    split at h
    · rename_i i off hpe
      rw [hpe] at hp
      obtain ⟨b, hb, hx⟩ := hp.varp_of
      split at h
      · rename_i cs hl
        obtain ⟨⟨hj, hok, ⟨h0, hsz⟩, hfit⟩, h⟩ := h
        obtain ⟨b', hb', ⟨arr, et, k1, k2, k3⟩, _⟩ := hi.var i false cs hl
        obtain rfl : b = b' := by rw [hb] at hb'; injection hb'
        obtain ⟨arr', r1, r2, r3⟩ := store_cells (P := P) k1 k2 k3 hv hj hok h0 hsz hfit
        obtain ⟨q1, q2⟩ := hi.store i cs _ hl b hb arr arr' et k1 r2 r3
        refine ⟨_, _, undef, _, g, .inr ⟨?_, rfl⟩, q1, q2, .cl _ _ (.junk _), h, rfl, rfl⟩
        simp [hx, Sem.run_bind, r1]
      · exact h.elim
    · rename_i i off hpe
      rw [hpe] at hp
      obtain ⟨b, hb, hx⟩ := hp.extp_of
      rw [hi.eb] at hb
      obtain ⟨hlt, hbe⟩ := List.getElem?_eq_some_iff.1 hb
      split at h
      · rename_i cs hl
        obtain ⟨hlt', hcs⟩ := List.getElem?_eq_some_iff.1 hl
        obtain ⟨⟨hj, hok, ⟨h0, hsz⟩, hfit⟩, h⟩ := h
        obtain ⟨⟨arr, et, k1, k2, k3⟩, _⟩ := hi.ext.2 i hlt hlt'
        subst hcs
        have k1' := k1
        rw [hbe] at k1'
        obtain ⟨arr', r1, r2, r3⟩ := store_cells (P := P) k1' k2 k3 hv hj hok h0 hsz hfit
        obtain ⟨q1, q2⟩ := hi.storeE i hlt _ arr arr' et k1 r2 r3
        refine ⟨_, _, undef, _, g, .inr ⟨?_, rfl⟩, q1, q2, .cl _ _ (.junk _), h, rfl, rfl⟩
        simp [hx, Sem.run_bind, r1, hbe]
      · exact h.elim
    · exact h.elim
  · rename_i t n parts
    split at h
    · rename_i d e hk
      obtain ⟨⟨hd, ⟨h0, hz⟩, hpp, h24, hall⟩, h⟩ := h
      have hcl : ∀ p ∈ parts.toList, (st.ev p.2).cl2.cells.length = (ty P e).size ∧ (st.ev p.2).cl2.cells.all AV.cellOk = true := by
        intro p hp
        have := List.all_eq_true.1 hall p hp
        simpa using this
      have hvd : ∀ p ∈ parts.toList, VD g.D w (st.ev p.2).cl2 (a.eval p.2) := fun p _ => (ev_vr hm p.2).cl2_of
      have hnj : ∀ p ∈ parts.toList, (st.ev p.2).cl2 ≠ .junk := by
        intro p hp he
        have := (hcl p hp).2
        rw [he] at this
        simp [AV.cells, AV.cellOk] at this
      have hcc : ∀ p ∈ parts.toList, (st.ev p.2).cl2.cells.length = (a.eval p.2).cells.size ∧ ∀ j (h : j < (st.ev p.2).cl2.cells.length) (h' : j < (a.eval p.2).cells.size), VR g w (st.ev p.2).cl2.cells[j] (a.eval p.2).cells[j] :=
        fun p hp => (VR.cl _ _ (hvd p hp)).cells (hnj p hp)
      have hs : ∀ v ∈ ((parts.map fun (i, x) => (i, a.eval x)).toList.map (·.2)), v.cells.size = (ty P e).size := by
        intro v hv
        simp only [Array.toList_map, List.map_map, List.mem_map, Function.comp] at hv
        obtain ⟨p, hp, rfl⟩ := hv
        rw [← (hcc p hp).1, (hcl p hp).1]
      have hlen : parts.toList.length = n := by have := congrArg List.length hpp; simpa using this
      have hr := buildSlice_run (P := P) hk h0 hz n (parts.map fun (i, x) => (i, a.eval x)) (by rw [← hpp]; simp [Function.comp_def]) h24 hs w
      obtain ⟨hi1, hg1⟩ := hi.alloc (.cells ((((parts.map fun (i, x) => (i, a.eval x)).toList.map (·.2)).flatMap fun v => v.cells.toList).toArray) e)
      generalize hxs : (((parts.map fun (i, x) => (i, a.eval x)).toList.map (·.2)).flatMap fun v => v.cells.toList) = xs at *
      have hvl : ((parts.map fun (i, x) => (i, a.eval x)).toList.map (·.2)).length = n := by simpa using hlen
      have hxl : xs.length = n * (ty P e).size := by rw [← hxs, flat_len (ty P e).size _ hs, hvl]
      have hown : (w.alloc (.cells xs.toArray e)).ownsRow c.w0.heap.size e (ty P e).size (.slice (some ⟨w.heap.size, 0, none⟩) n n) n xs :=
        ⟨hxl, .inr ⟨w.heap.size, n, xs.toArray, rfl, hi.since.size, heap_alloc_new w _, Nat.le_refl _, by simp only [maxLen]; have := Nat.le_mul_of_pos_right n h0; omega, by simpa using hxl, by rw [← hxl]; simp⟩⟩
      obtain ⟨g', q1, q2, q3, q4⟩ := hi.front d (.slice none 0 0) (.slice (some ⟨w.heap.size, 0, none⟩) n n) e (ty P e).size n xs h0 (.inl ⟨hd, rfl⟩) hown (World.grownBy_alloc w _ _) (.inr ⟨_, rfl, Nat.le_refl _⟩) (fun b o hb => by cases hb) (fun b o hb ho => by
          injection hb with hb; subst hb
          exact absurd (hi.dlt _ _ ho) (Nat.lt_irrefl _))
      refine ⟨_, _, _, _, g', .inl ?_, q1, q2, .own d (ty P e).size _ _ ⟨_, n⟩ ?_ q3 (by simp [hlen]) (fun _ => rfl), h, rfl, rfl⟩
      · simp only [Sem.run_bind, hr, Result.andThen_ok, Sem.run_pure]
      · refine own_data (base := c.w0.heap.size) (e := e) (xs := xs) h0 (by simpa [hlen] using hown) (fun b o hb ho => q4 b o hb (by simpa [hlen] using ho)) ?_ ?_
        · intro i hi'
          simp only [List.getElem_map]
          exact hcl _ (List.getElem_mem _)
        · intro i hi' j hj u hu
          simp only [List.length_map] at hi'
          simp only [List.getElem_map] at hj ⊢
          have hp := List.getElem_mem hi'
          have hj' : j < (ty P e).size := by have := (hcl _ hp).1; omega
          have hat := flat_at (ty P e).size _ hs i j (by simpa using hi') hj'
          rw [hxs, hu] at hat
          injection hat with hat
          rw [hat]
          have h9 := (hcc _ hp).2 j hj (by rw [← (hcc _ hp).1]; exact hj)
          have hlt : j < (a.eval parts.toList[i].2).cells.size := by rw [← (hcc _ hp).1]; exact hj
          have h10 : VD g.D w ((st.ev parts.toList[i].2).cl2.cells[j]) ((a.eval parts.toList[i].2).cells[j]'hlt) := ((hvd _ hp).cells (hnj _ hp)).2 j hj hlt
          have h11 := h10.mono q2.D
          simp only [Array.toList_map, List.getElem_map]
          unfold Array.getD
          rw [dif_pos hlt]
          exact h11
    · exact h.elim
  · rename_i f first captured
    obtain ⟨hf, h⟩ := h
    obtain ⟨l, st', g', k1, k2, k3, k4, k5, k6, k7⟩ := capt_run captured.toList g st _ hi hm h
    have hf' : first = #[] := by rw [← Array.toList_inj]; exact hf
    subst hf'
    refine ⟨_, st', .func (.func f) #[] (captured.map a.eval), w, g', .inl ?_, k2, k3, .func f l _ (by simpa using k4) (fun j h h' => by
      simp only [Array.getElem_map]
      rw [← Array.getElem_toList]
      exact k5 j h (by simpa using h')), k1, k6, k7⟩
    simp [Instr.makeFunc, Sem.run_bind]
  · rename_i cl
    obtain ⟨callee, args, argTypes⟩ := cl
    simp only at h
    split at h
    · rename_i d s x t t' hargs hts
      obtain rfl : args = #[s, x] := by rw [← Array.toList_inj]; exact hargs
      obtain rfl : argTypes = #[t, t'] := by rw [← Array.toList_inj]; exact hts
      split at h
      · rename_i e hk
        obtain ⟨⟨rfl, h0, hz⟩, h⟩ := h
        have hs := ev_vr hm s
        have hx := ev_vr hm x
        have hrun : ∀ (W : World) (v' : Value) (w' : World), (Builtin.append_ #[t', t'] typ #[a.eval s, a.eval x]).run P W = .ok v' w' →
            (do let d ← resolve a.eval { callee := .builtin .append, args := #[s, x], argTypes := #[t', t'] } typ; invoke d.target d.args : Sem Next).run P W = .ok (.value v') w' := by
          intro W v' w' hr
          simp [resolve, invoke, builtin, Sem.run_bind, hr]
        split at h
        · rename_i id k els o k' ys hse hxe
          rw [hse] at hs
          rw [hxe] at hx
          obtain ⟨⟨⟨rfl, rfl⟩, hf, hb, hmx⟩, h⟩ := h
          obtain ⟨ad, cp, hxv, hxd⟩ := slice_vr hx
          obtain ⟨e', xs, g1, g2, g3, g4, g5, g6⟩ := own_slice_of hi hs hf
          rcases Nat.eq_zero_or_pos ys.length with hy | hy
          · have hy' : ys = [] := List.eq_nil_of_length_eq_zero hy
            subst hy'
            obtain ⟨bb, cap, hsv, hcap⟩ := own_form g4
            have hr := append_none (P := P) (ty' := typ) hk h0 bb ad els.length cap cp hcap w
            refine ⟨_, _, a.eval s, w, g, .inl (hrun w _ w (by rw [hxv, hsv]; exact hr)), ?_, .refl g w, ?_, h, rfl, rfl⟩
            · exact hi.relook (fun j => by
                by_cases hj : id = j
                · subst hj; simp [look, hf]
                · simp [look, hj])
            · simpa using hs
          · rw [hxv] at hxd
            obtain ⟨v', w', g', r1, r2, r3, r4⟩ := append_run (P := P) hi typ hk h0 hz id els ys (a.eval s) xs g4 (.inr ⟨e', g1, g2, g3⟩) g5 ad cp hxd g6 hb hmx hy
            exact ⟨_, _, v', w', g', .inl (hrun w _ w' (by rw [hxv]; exact r1)), r2, r3, r4, h, rfl, rfl⟩
        · rename_i id k els hse hxe
          rw [hse] at hs
          rw [hxe] at hx
          obtain ⟨⟨rfl, hf⟩, h⟩ := h
          obtain ⟨e', xs, g1, g2, g3, g4, g5, g6⟩ := own_slice_of hi hs hf
          obtain ⟨bb, cap, hsv, hcap⟩ := own_form g4
          have hr := append_none (P := P) (ty' := typ) hk h0 bb none els.length cap 0 hcap w
          exact ⟨_, _, a.eval s, w, g, .inl (hrun w _ w (by rw [hx.nils_of, hsv]; exact hr)), hi, .refl g w, hs, h, rfl, rfl⟩
        · rename_i o k' ys hse hxe
          rw [hse] at hs
          rw [hxe] at hx
          obtain ⟨⟨hf, rfl, hb, hmx⟩, h⟩ := h
          obtain ⟨ad, cp, hxv, hxd⟩ := slice_vr hx
          rcases Nat.eq_zero_or_pos ys.length with hy | hy
          · have hy' : ys = [] := List.eq_nil_of_length_eq_zero hy
            subst hy'
            have hr := append_none (P := P) (ty' := typ) hk h0 none ad 0 0 cp (Nat.le_refl 0) w
            obtain ⟨g', q1, q2, q3, q4⟩ := hi.front d (.slice none 0 0) (.slice none 0 0) e (ty P e).size 0 [] h0 (.inl ⟨hf, rfl⟩) (World.ownsRow_nil w _ e _) ⟨rfl, rfl, rfl, Nat.le_refl _, fun _ _ _ => rfl⟩ (.inl rfl) (fun b o hb => by cases hb) (fun b o hb => by cases hb)
            exact ⟨_, _, .slice none 0 0, w, g', .inl (hrun w _ w (by rw [hxv, hs.nils_of]; exact hr)), q1, q2, .own d _ _ _ ⟨_, 0⟩ (.slice0 _ _ _) q3 (Nat.le_refl 0) (fun _ => rfl), h, rfl, rfl⟩
          · rw [hxv] at hxd
            obtain ⟨v', w', g', r1, r2, r3, r4⟩ := append_run (P := P) hi typ hk h0 hz d [] ys (a.eval s) [] (by rw [hs.nils_of]; exact World.ownsRow_nil w _ e _) (.inl ⟨hf, by rw [hs.nils_of]; rfl⟩) (by rw [hs.nils_of]; exact .slice0 _ _ _) ad cp hxd (fun b o hb => by rw [hs.nils_of] at hb; cases hb) (by simpa using hb) (by simpa using hmx) hy
            simp only [List.length_nil, Nat.zero_add, List.nil_append] at r2 r4
            exact ⟨_, _, v', w', g', .inl (hrun w _ w' (by rw [hxv]; exact r1)), r2, r3, r4, h, rfl, rfl⟩
        · rename_i hse hxe
          rw [hse] at hs
          rw [hxe] at hx
          have hr := append_none (P := P) (ty' := typ) hk h0 none none 0 0 0 (Nat.le_refl 0) w
          exact ⟨_, _, a.eval s, w, g, .inl (hrun w _ w (by rw [hx.nils_of, hs.nils_of]; exact hr)), hi, .refl g w, hs, h, rfl, rfl⟩
        · exact h.elim
      · exact h.elim
    · exact h.elim
  · exact h.elim
end Go.Proofs.Eng
