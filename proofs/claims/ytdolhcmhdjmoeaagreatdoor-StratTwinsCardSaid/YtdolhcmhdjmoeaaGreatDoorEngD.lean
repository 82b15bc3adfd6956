/- The machine comes to what the walk comes to: operations that only compute or read. -/
import Derived.Test.YtdolhcmhdjmoeaaGreatDoorEngC
set_option linter.unusedSimpArgs false
set_option linter.unusedVariables false
namespace Go.Proofs.Eng
open Go

/-- Nothing but a draw. -/
structure Same (w w' : World) : Prop where
  heap : w'.heap = w.heap
  os : w'.os = w.os
  tape : w'.tape = w.tape
  output : w'.output = w.output
theorem Same.refl (w : World) : Same w w := ⟨rfl, rfl, rfl, rfl⟩
theorem Same.drew (w : World) : Same w w.drew := ⟨rfl, rfl, rfl, rfl⟩

/-- What the walk says of one operation's run. -/
def Comes1 (P : Program) (g : Gh) (w : World) (o : Oper) (a : Act) (K : AV → Prop) : Prop :=
  ∃ v x w', (execOp a.eval o).run P w = .ok (.value x) w' ∧ Same w w' ∧ VR g w v x ∧ K v

theorem VR.varp_of {g : Gh} {w : World} {i off : Nat} {x : Value} (h : VR g w (.varp i off) x) : ∃ b, g.vb i = some b ∧ x = .pointer (some ⟨b, off, none⟩) := by
  cases h with
  | cl _ _ hd => cases hd
  | varp _ _ b hb => exact ⟨b, hb, rfl⟩
theorem VR.fl_of {g : Gh} {w : World} {b : Nat} {x : Value} (h : VR g w (.fl b) x) : ∃ b', x = .float .f64 b' ∧ FRel b b' := by
  cases h with
  | cl _ _ hd => cases hd with
    | fl _ b' hb => exact ⟨b', rfl, hb⟩
theorem VR.nils_of {g : Gh} {w : World} {x : Value} (h : VR g w .nils x) : x = .slice none 0 0 := by
  cases h with
  | cl _ _ hd => cases hd; rfl
theorem VR.extp_of {g : Gh} {w : World} {i off : Nat} {x : Value} (h : VR g w (.extp i off) x) : ∃ b, g.eb[i]? = some b ∧ x = .pointer (some ⟨b, off, none⟩) := by
  cases h with
  | cl _ _ hd => cases hd
  | extp _ _ b hb => exact ⟨b, hb, rfl⟩
theorem VR.inp_of {g : Gh} {w : World} {cs : List AV} {x : Value} (h : VR g w (.inp cs) x) : ∃ (b o : Nat) (f : Nat → Value), x = .pointer (some ⟨b, o, none⟩) ∧
    (∀ j, j < cs.length → g.D b (o + j)) ∧ (∀ j, j < cs.length → w.cell? ⟨b, o + j, none⟩ = some (f j)) ∧ (∀ j (h : j < cs.length), VD g.D w cs[j] (f j)) := by
  cases h with
  | cl _ _ hd => cases hd with
    | inp _ b o f h1 h2 h3 => exact ⟨b, o, f, rfl, h1, h2, h3⟩

theorem inp_drop {D : Foot} {w : World} {cs : List AV} {b o : Nat} {f : Nat → Value} (h1 : ∀ j, j < cs.length → D b (o + j)) (h2 : ∀ j, j < cs.length → w.cell? ⟨b, o + j, none⟩ = some (f j))
    (h3 : ∀ j (h : j < cs.length), VD D w cs[j] (f j)) (n : Nat) : VD D w (.inp (cs.drop n)) (.pointer (some ⟨b, o + n, none⟩)) := by
  refine .inp _ b (o + n) (fun j => f (n + j)) ?_ ?_ ?_
  · intro j hj
    have := h1 (n + j) (by simp at hj; omega)
    rwa [← Nat.add_assoc] at this
  · intro j hj
    have := h2 (n + j) (by simp at hj; omega)
    rwa [← Nat.add_assoc] at this
  · intro j hj
    simp only [List.getElem_drop]
    exact h3 (n + j) (by simp at hj; omega)

theorem fieldAt_run {P : Program} {s : TypeId} {f off sz : Nat} {fs : List (Nat × Nat)} (hk : (ty P s).k = .struct fs) (hf : fs[f]? = some (off, sz)) (h0 : 0 < sz) (b o : Nat) (w : World) :
    (Instr.fieldAt s (.pointer (some ⟨b, o, none⟩)) f).run P w = .ok (.pointer (some ⟨b, o + off, none⟩)) w := by
  obtain ⟨fields, hu, rfl⟩ := tk_struct hk
  simp only [List.getElem?_map, Array.getElem?_toList, Option.map_eq_some_iff, Prod.mk.injEq] at hf
  obtain ⟨fl, hfl, rfl, rfl⟩ := hf
  simp only [Instr.fieldAt, Sem.run_bind, run_underlying hu, Result.andThen_ok]
  simp only [hfl, Instr.sureAddr, Sem.run_bind, Sem.run_pure, Result.andThen_ok, fieldPlace, sizeOf, typeInfo, run_program]
  unfold sizeIn at h0
  cases hi : P.info? fl.type with
  | none => simp [hi] at h0
  | some ti =>
    simp only [hi, Option.map_some, Option.getD_some] at h0
    simp [hi, show ti.size ≠ 0 by omega, Addr.add_lit]

theorem nan_drawn (n : Nat) : nanBits ((n % 2) * 2 ^ 63 + 0x7ff0000000000000 + 1 + (n / 2) % (2 ^ 52 - 1)) = true := by
  have h : (n / 2) % (2 ^ 52 - 1) < 2 ^ 52 - 1 := Nat.mod_lt _ (by decide)
  generalize hm : (n / 2) % (2 ^ 52 - 1) = m at *
  have hs : FloatKind.f64.format.signWeight = 2 ^ 63 := rfl
  have hb : FloatKind.f64.format.binade = 2 ^ 52 := rfl
  have hi : FloatKind.f64.format.infRung = 0x7ff0000000000000 := rfl
  have h1 : (n % 2 * 2 ^ 63 + 0x7ff0000000000000 + 1 + m) % 2 ^ 63 = 0x7ff0000000000000 + 1 + m := by omega
  simp only [nanBits, FloatKind.decode, Ieee.Format.read, hs, hb, hi, h1]
  rw [if_neg (by omega), if_neg (by omega), if_neg (by omega)]
  rfl
theorem floatArith_run {P : Program} {op : BinOp} (ha : BinOp.arith op = true) (p q : Nat) (w : World) :
    (Op.floatArith op .f64 p q).run P w = (match floatOp op .f64 p q with
      | some r => .ok (.float .f64 r) w
      | none => .ok (.float .f64 ((w.tape w.drawn (.nanBits .f64 p q) % 2) * 2 ^ 63 + 0x7ff0000000000000 + 1 + (w.tape w.drawn (.nanBits .f64 p q) / 2) % (2 ^ 52 - 1))) w.drew) := by
  cases op with
  | add => simp only [Op.floatArith, floatOp, Sem.run_bind, Sem.run_pure, Result.andThen_ok]; generalize FloatKind.f64.format.add p q = r; cases r <;> rfl
  | sub => simp only [Op.floatArith, floatOp, Sem.run_bind, Sem.run_pure, Result.andThen_ok]; generalize FloatKind.f64.format.sub p q = r; cases r <;> rfl
  | mul => simp only [Op.floatArith, floatOp, Sem.run_bind, Sem.run_pure, Result.andThen_ok]; generalize FloatKind.f64.format.mul p q = r; cases r <;> rfl
  | quo => simp only [Op.floatArith, floatOp, Sem.run_bind, Sem.run_pure, Result.andThen_ok]; generalize FloatKind.f64.format.div p q = r; cases r <;> rfl
  | _ => simp [BinOp.arith] at ha

theorem part_leaf {P : Program} {t : TypeId} {d : TypeDesc} (h : P.underlying t = some d) (hd : d = .string ∨ d = .bool ∨ ∃ k, d = .int k) {cs : Array Value} {off : Nat} {v : Value} (hv : cs[off]? = some v) (w : World) : (part t cs off).run P w = .ok v w := by
  rcases hd with rfl | rfl | ⟨k, rfl⟩ <;> simp [part, isAgg, run_underlying h, hv]

theorem leafEq_run {P : Program} {t : TypeId} {g : Gh} {w : World} {xs ys : List AV} {a b : Array Value} (hx : xs.length = a.size) (hxs : ∀ j (h : j < xs.length) (h' : j < a.size), VR g w xs[j] a[j]) (hy : ys.length = b.size) (hys : ∀ j (h : j < ys.length) (h' : j < b.size), VR g w ys[j] b[j])
    {off : Nat} {r : Bool} (h : leafEq P t xs[off]? ys[off]? = some r) : ∃ u v, (part t a off).run P w = .ok u w ∧ (part t b off).run P w = .ok v w ∧ (Op.equalIn 9999 t u v).run P w = .ok r w := by
  unfold leafEq at h
  split at h
  · rename_i p q h1 h2
    obtain ⟨l1, e1⟩ := List.getElem?_eq_some_iff.1 h1
    obtain ⟨l2, e2⟩ := List.getElem?_eq_some_iff.1 h2
    have v1 := hxs off l1 (by omega)
    have v2 := hys off l2 (by omega)
    rw [e1] at v1; rw [e2] at v2
    have w1 := v1.plain_of.1
    have w2 := v2.plain_of.1
    clear v1 v2
    have g1 : a[off]? = some p := by rw [Array.getElem?_eq_getElem (by omega), w1]
    have g2 : b[off]? = some q := by rw [Array.getElem?_eq_getElem (by omega), w2]
    clear w1 w2 e1 e2 h1 h2
    split at h
    · rename_i hk
      have hu := tk_str hk
      refine ⟨_, _, part_leaf hu (.inl rfl) g1 w, part_leaf hu (.inl rfl) g2 w, ?_⟩
      cases h
      rw [run_equalIn_string (P := P) w 9998 t _ _ hu, beqd, ByteArray.toList_eq, ByteArray.toList_eq]
    · rename_i kk k a' k' b' hk
      have hu := tk_int hk
      split at h
      · rename_i hkk
        subst hkk
        refine ⟨_, _, part_leaf hu (.inr (.inr ⟨_, rfl⟩)) g1 w, part_leaf hu (.inr (.inr ⟨_, rfl⟩)) g2 w, ?_⟩
        cases h
        rw [run_equalIn_int (P := P) w 9998 t _ _ _ _ hu, beqd]
      · cases h
    · rename_i hk
      have hu := tk_bool hk
      refine ⟨_, _, part_leaf hu (.inr (.inl rfl)) g1 w, part_leaf hu (.inr (.inl rfl)) g2 w, ?_⟩
      cases h
      rw [run_equalIn_bool (P := P) w 9998 t _ _ hu]
    · cases h
  · cases h

theorem seqF_run {P : Program} {g : Gh} {w : World} {xs ys : List AV} {a b : Array Value} (hx : xs.length = a.size) (hxs : ∀ j (h : j < xs.length) (h' : j < a.size), VR g w xs[j] a[j]) (hy : ys.length = b.size) (hys : ∀ j (h : j < ys.length) (h' : j < b.size), VR g w ys[j] b[j]) :
    ∀ (fs : List Field) (r : Bool), seqF P xs ys fs = some r → (Op.eqFields 9999 a b fs).run P w = .ok r w
  | [], r, h => by cases h; simp [Op.eqFields]
  | f :: fs, r, h => by
    unfold seqF at h
    split at h
    · cases h
    · rename_i hn
      split at h
      · rename_i p q h1 h2
        cases h
        obtain ⟨u, v, g1, g2, g3⟩ := leafEq_run (P := P) hx hxs hy hys h1
        have hn' : f.name ≠ "_" := by simpa using hn
        have ih := seqF_run hx hxs hy hys fs q h2
        simp only [Op.eqFields, if_pos hn', Sem.run_bind, g1, g2, g3, Result.andThen_ok]
        cases p <;> simp [ih]
      · cases h

theorem abin_run {P : Program} {g : Gh} {w : World} {op : BinOp} {t : TypeId} {x y : Operand} {u v : AV} {a b : Value} {K : AV → Prop} (h : abin P op t u v K) (hu : VR g w u a) (hv : VR g w v b) :
    ∃ r x' w', (do eqGuard op t x y a b; binOp op t a b : Sem Value).run P w = .ok x' w' ∧ Same w w' ∧ VR g w r x' ∧ K r := by
  unfold abin at h
  split at h
  · rename_i p q
    obtain ⟨p', rfl, hp⟩ := hu.fl_of
    obtain ⟨q', rfl, hq⟩ := hv.fl_of
    have hg : ∀ op : BinOp, (eqGuard op t x y (.float .f64 p') (.float .f64 q')).run P w = .ok () w := by
      intro op; rw [eqGuard_at_float]; rfl
    split at h
    · rename_i ha
      have hr : (do eqGuard op t x y (.float .f64 p') (.float .f64 q'); binOp op t (.float .f64 p') (.float .f64 q') : Sem Value).run P w = (Op.floatArith op .f64 p' q').run P w := by
        simp only [Sem.run_bind, hg, Result.andThen_ok]
        cases op <;> simp [BinOp.arith] at ha <;> simp [binOp]
      rw [hr, floatArith_run ha, FRel.floatOp hp hq]
      unfold flArith at h
      cases hfl : floatOp op .f64 p q <;> simp only [hfl] at h
      rotate_left
      · exact ⟨_, _, w, rfl, .refl w, .cl _ _ (.fl _ _ (.inl rfl)), h⟩
      · exact ⟨_, _, w.drew, rfl, .drew w, .cl _ _ (.fl _ _ (.inr ⟨by decide, nan_drawn _⟩)), h⟩
    · split at h
      · rename_i r hr
        refine ⟨.val (.bool r), .bool r, w, ?_, .refl w, .cl _ _ (.val _ rfl), h⟩
        simp only [Sem.run_bind, hg, Result.andThen_ok]
        have ho := FRel.order hp hq
        cases op <;> simp only [flCmp, reduceCtorEq, Option.some.injEq] at hr <;> subst hr <;> simp [binOp, Op.floatCmp, ho, fEq, fLt, fGt, bne]
      · exact h.elim
  · obtain ⟨rfl, _⟩ := hu.plain_of
    obtain ⟨rfl, _⟩ := hv.plain_of
    obtain ⟨r, hp, hr, hK⟩ := vbin_run (a := x) (b := y) h w
    exact ⟨.val r, r, w, hr, .refl w, .cl _ _ (.val r hp), hK⟩
  · rename_i xs ys
    obtain ⟨arr, rfl, hx, hxs⟩ := hu.at_agg
    obtain ⟨brr, rfl, hy, hys⟩ := hv.at_agg
    split at h
    · rename_i fs hfs
      obtain ⟨⟨h1, h2⟩, h⟩ := h
      have hf : P.fieldsOf t = fs := by simp [Program.fieldsOf, hfs]
      split at h
      · rename_i r hr
        have hrun := seqF_run (P := P) hx hxs hy hys _ _ hr
        have heq : (Op.equalIn 10000 t (.agg arr) (.agg brr)).run P w = .ok r w := by
          rw [run_equalIn_struct (P := P) w 9999 t arr brr (by rw [hf]; exact hfs) h1, hf]
          exact hrun
        have hg : ∀ op : BinOp, (eqGuard op t x y (.agg arr) (.agg brr)).run P w = .ok () w := by
          intro op
          cases op <;> simp [eqGuard, h2]
        split at h
        · refine ⟨_, _, w, ?_, .refl w, .cl _ _ (.val _ rfl), h⟩
          simp only [Sem.run_bind, hg, Result.andThen_ok, run_eql_struct, heq]
        · refine ⟨_, _, w, ?_, .refl w, .cl _ _ (.val _ rfl), h⟩
          simp only [Sem.run_bind, hg, Result.andThen_ok, run_neq_struct, heq]
        · exact h.elim
      · exact h.elim
    · exact h.elim
  · exact h.elim

theorem fill_list (off : Nat) : ∀ (vs : List Value) (j : Nat) (cells : Array Value), off + j + vs.length ≤ cells.size →
    ((vs.zipIdx j).foldl (fun cs (p : Value × Nat) => cs.setIfInBounds (off + p.2) p.1) cells).toList = cells.toList.take (off + j) ++ vs ++ cells.toList.drop (off + j + vs.length)
  | [], j, cells, _ => by simp
  | v :: r, j, cells, h => by
    have hlt : off + j < cells.toList.length := by simp at h ⊢; omega
    have ih := fill_list off r (j + 1) (cells.setIfInBounds (off + j) v) (by simp at h ⊢; omega)
    rw [List.zipIdx_cons, List.foldl_cons, ih]
    simp only [Array.toList_setIfInBounds, List.set_eq_take_append_cons_drop, hlt, if_true]
    have hl : (List.take (off + j) cells.toList).length = off + j := by simp at hlt ⊢; omega
    rw [show off + (j + 1) = (List.take (off + j) cells.toList).length + 1 by omega]
    rw [show (List.take (off + j) cells.toList).length + 1 + r.length = (List.take (off + j) cells.toList).length + (1 + r.length) by omega]
    rw [List.take_length_add_append, List.drop_length_add_append]
    simp only [List.take_succ_cons, List.take_zero, List.length_cons, List.append_assoc, List.singleton_append]
    rw [show 1 + r.length = r.length + 1 by omega, List.drop_succ_cons, List.drop_drop]
    simp only [List.cons_append, List.nil_append]
    rw [show off + j + 1 + r.length = off + j + (r.length + 1) by omega]

theorem fill_run {P : Program} {g : Gh} {w : World} (fields : Array Field) : ∀ (ps : List (Nat × AV)) (qs : List (Nat × Value)) (cells : List AV) (arr : Array Value) (out : List AV),
    cells.length = arr.size → (∀ j (h : j < cells.length) (h' : j < arr.size), VR g w cells[j] arr[j]) → ps.length = qs.length → (∀ j (h : j < ps.length) (h' : j < qs.length), ps[j].1 = qs[j].1 ∧ VR g w ps[j].2 qs[j].2) →
    fillA (fields.toList.map fun f => (f.offset, sizeIn P f.type)) cells ps = some out →
    ∃ arr', Instr.fill (fun i => (fields.map fun f => (f.offset, sizeIn P f.type))[i]?) arr qs = some arr' ∧ out.length = arr'.size ∧ ∀ j (h : j < out.length) (h' : j < arr'.size), VR g w out[j] arr'[j]
  | [], [], cells, arr, out, hs, hv, _, _, h => by
    simp only [fillA, Option.some.injEq] at h
    subst h
    exact ⟨arr, rfl, hs, hv⟩
  | [], _ :: _, _, _, _, _, _, hl, _, _ => by simp at hl
  | _ :: _, [], _, _, _, _, _, hl, _, _ => by simp at hl
  | (i, v) :: ps, (i', x) :: qs, cells, arr, out, hs, hv, hl, hp, h => by
    obtain ⟨h1, h2⟩ := hp 0 (by simp) (by simp)
    simp only [List.getElem_cons_zero] at h1 h2
    subst h1
    simp only [fillA] at h
    cases hf : (fields.toList.map fun f => (f.offset, sizeIn P f.type))[i]? with
    | none => simp [hf] at h
    | some os =>
      obtain ⟨off, size⟩ := os
      simp only [hf] at h
      split at h
      · rename_i hc
        obtain ⟨hj, hsz, hfit⟩ := hc
        have hj' : v ≠ .junk := by intro e; rw [e] at hj; simp [AV.isJunk] at hj
        obtain ⟨hcs, hcv⟩ := h2.cells hj'
        have hf' : (fields.map fun f => (f.offset, sizeIn P f.type))[i]? = some (off, size) := by
          simpa using hf
        have hlist := fill_list off x.cells.toList 0 arr (by simp; omega)
        have hfold : (x.cells.zipIdx.foldl (fun cs (p : Value × Nat) => cs.setIfInBounds (off + p.2) p.1) arr).toList = arr.toList.take off ++ x.cells.toList ++ arr.toList.drop (off + x.cells.size) := by
          rw [← Array.foldl_toList, Array.toList_zipIdx]
          simpa using hlist
        have hlen : (cells.take off ++ v.cells ++ cells.drop (off + size)).length = (x.cells.zipIdx.foldl (fun cs (p : Value × Nat) => cs.setIfInBounds (off + p.2) p.1) arr).size := by
          rw [← Array.length_toList, hfold]
          simp; omega
        obtain ⟨arr', hr, hs', hv'⟩ := fill_run fields ps qs (cells.take off ++ v.cells ++ cells.drop (off + size)) _ out hlen (fun j h1 h2 => by
          have e : (x.cells.zipIdx.foldl (fun cs (p : Value × Nat) => cs.setIfInBounds (off + p.2) p.1) arr)[j] = (arr.toList.take off ++ x.cells.toList ++ arr.toList.drop (off + x.cells.size))[j]'(by rw [← hfold]; simpa using h2) := by
            simp only [← hfold, Array.getElem_toList]
          rw [e]
          by_cases c1 : j < off
          · rw [List.getElem_append_left (by simp; omega), List.getElem_append_left (by simp; omega)]
            rw [List.getElem_append_left (by simp; omega), List.getElem_append_left (by simp; omega)]
            simp only [List.getElem_take, Array.getElem_toList]
            exact hv j (by omega) (by omega)
          · by_cases c2 : j < off + size
            · rw [List.getElem_append_left (by simp; omega), List.getElem_append_right (by simp; omega)]
              rw [List.getElem_append_left (by simp; omega), List.getElem_append_right (by simp; omega)]
              simp only [List.length_take, Array.length_toList, Array.getElem_toList]
              have e1 : j - min off cells.length = j - off := by omega
              have e2 : j - min off arr.size = j - off := by omega
              simp only [e1, e2]
              exact hcv (j - off) (by omega) (by omega)
            · have hjl : j < cells.length := by simp at h1; omega
              rw [List.getElem_append_right (by simp; omega), List.getElem_append_right (by simp; omega)]
              simp only [List.getElem_drop, List.length_append, List.length_take, Array.length_toList, Array.getElem_toList]
              have e1 : off + size + (j - (min off cells.length + v.cells.length)) = j := by omega
              have e2 : off + x.cells.size + (j - (min off arr.size + x.cells.size)) = j := by omega
              simp only [e1, e2]
              exact hv j (by omega) (by omega)) (by simpa using hl) (fun j h1 h2 => by
          have := hp (j + 1) (by simp; omega) (by simp; omega)
          simpa using this) h
        refine ⟨arr', ?_, hs', hv'⟩
        simp only [Instr.fill, hf']
        rw [if_neg (by simp; omega)]
        exact hr
      · cases h

theorem sizes_run {P : Program} : ∀ (fs : List Field), ((fs.map fun f => (f.offset, sizeIn P f.type)).all fun p => decide (0 < p.2)) = true → ∀ w : World,
    (fs.mapM (m := Sem) fun f => do pure (f.offset, ← sizeOf f.type)).run P w = .ok (fs.map fun f => (f.offset, sizeIn P f.type)) w
  | [], _, w => rfl
  | f :: r, h, w => by
    simp only [List.map_cons, List.all_cons, Bool.and_eq_true, decide_eq_true_eq] at h
    have ih := sizes_run r h.2
    have hs : ∀ w : World, (sizeOf f.type).run P w = .ok (sizeIn P f.type) w := by
      intro w
      have h1 := h.1
      unfold sizeIn at h1 ⊢
      cases hi : P.info? f.type with
      | none => simp [hi] at h1
      | some i => simp [sizeOf, typeInfo, hi]
    simp only [List.mapM_cons, Sem.run_bind, hs, Result.andThen_ok, Sem.run_pure, ih, List.map_cons]

theorem build_run {P : Program} {g : Gh} {w : World} {t : TypeId} {fs : List (Nat × Nat)} (hk : (ty P t).k = .struct fs) (h0 : 0 < (ty P t).zero.length) (hall : fs.all (fun p => decide (0 < p.2)) = true) (ps : List (Nat × AV)) (parts : Array (Nat × Value)) {out : List AV}
    (hl : ps.length = parts.size) (hp : ∀ j (h : j < ps.length) (h' : j < parts.toList.length), ps[j].1 = parts.toList[j].1 ∧ VR g w ps[j].2 parts.toList[j].2) (h : fillA fs (ty P t).zero ps = some out) :
    ∃ x, (Instr.build t parts).run P w = .ok x w ∧ VR g w (.agg out) x := by
  obtain ⟨fields, hu, rfl⟩ := tk_struct hk
  obtain ⟨i, d, hi, hd, _, _, _, hz⟩ := ty_und (P := P) (t := t) (by rw [hk]; simp)
  cases hz0 : i.zero with
  | none => rw [hz, hz0] at h0; simp at h0
  | some z =>
    rw [hz0] at hz
    simp only [Option.map_some, Option.getD_some] at hz
    obtain ⟨arr', hr, hs, hv⟩ := fill_run (P := P) (g := g) (w := w) fields ps parts.toList (ty P t).zero z.cells out (by rw [hz]; simp) (fun j h h' => by
      simp only [hz, List.getElem_map, Array.getElem_toList]
      exact ofConst_vr g w _) (by simpa using hl) hp h
    have hmap : ∀ w', (fields.mapM (m := Sem) fun f => do pure (f.offset, ← sizeOf f.type)).run P w' = .ok (fields.map fun f => (f.offset, sizeIn P f.type)) w' := by
      intro w'
      rw [Array.mapM_eq_mapM_toList, Sem.run_map]
      rw [sizes_run fields.toList hall w', Result.andThen_ok, ← Array.toList_map, Array.toArray_toList]
    refine ⟨.agg arr', ?_, .agg _ _ hs hv⟩
    simp only [Instr.build, Sem.run_bind, zeroValue, typeInfo, run_program, Result.andThen_ok, hi, Sem.run_pure, hz0, run_underlying hu]
    simp only [hmap, Sem.run_bind, Result.andThen_ok]
    have hr' : Instr.fill (fun x => (fields.map fun f => (f.offset, sizeIn P f.type))[x]?) z.cells parts.toList = some arr' := hr
    simp only [hr', Sem.run_pure]

theorem bnd_run {st : ASt} {g : Gh} {w : World} {a : Act} (hm : Tm g w st a) {o : Option Operand} {d : Nat} {K : Nat → Prop} (h : bnd st o d K) :
    ∃ n, K n ∧ ((o = none ∧ n = d) ∨ ∃ x kk, o = some x ∧ a.eval x = .int kk (n : Int)) := by
  unfold bnd at h
  split at h
  · exact ⟨d, h, .inl ⟨rfl, rfl⟩⟩
  · rename_i x
    split at h
    · rename_i kk i hx
      have hc := ev_vr hm x
      rw [hx] at hc
      obtain ⟨hq, _⟩ := hc.plain_of
      exact ⟨i.toNat, h.2, .inr ⟨x, kk, rfl, by rw [hq, Int.toNat_of_nonneg h.1]⟩⟩
    · exact h.elim

theorem slice_take {D : Foot} {w : World} {k : Nat} {els : List AV} {a : Option Addr} {cap l h : Nat} (hv : VD D w (.slice .non k els) (.slice a els.length cap)) (h1 : l ≤ h) (h2 : h ≤ els.length) :
    VD D w (.slice .non k ((els.take h).drop l)) (.slice (if cap = l then a else a.map (·.add (l * k))) (h - l) (cap - l)) := by
  by_cases he : h - l = 0
  · have hd : (els.take h).drop l = [] := by
      apply List.eq_nil_of_length_eq_zero; simp; omega
    rw [hd, he]
    exact .slice0 k _ _
  · generalize hx : Value.slice a els.length cap = x at hv
    cases hv with
    | slice0 k a cap => simp at h2; omega
    | slice k els b o cap' f g1 g2 g3 g4 g5 g6 =>
      injection hx with e1 e2 e3
      subst e1 e3
      have hlen : ((els.take h).drop l).length = h - l := by simp; omega
      have hne : cap ≠ l := by omega
      simp only [hne, if_false, Option.map_some, Addr.add_lit]
      rw [← hlen]
      refine .slice k _ b (o + l * k) (cap - l) (fun i j => f (l + i) j) (by simp; omega) (by omega) ?_ ?_ ?_ ?_
      · intro i hi
        simp only [List.getElem_drop, List.getElem_take]
        exact g3 (l + i) (by simp at hi; omega)
      · intro i j hi hj
        have := g4 (l + i) j (by simp at hi; omega) hj
        rwa [show o + ((l + i) * k + j) = o + l * k + (i * k + j) by rw [Nat.add_mul]; omega] at this
      · intro i j hi hj
        have := g5 (l + i) j (by simp at hi; omega) hj
        rwa [show o + ((l + i) * k + j) = o + l * k + (i * k + j) by rw [Nat.add_mul]; omega] at this
      · intro i hi j hj
        simp only [List.getElem_drop, List.getElem_take] at hj ⊢
        exact g6 (l + i) (by simp at hi; omega) j hj

theorem slice_str_run {P : Program} {t : TypeId} (hk : (ty P t).k = .str) {a : Act} {lo hi : Option Operand} {l m : Nat} {s : ByteArray} {w : World}
    (hl : (lo = none ∧ l = 0) ∨ ∃ x kk, lo = some x ∧ a.eval x = .int kk (l : Int)) (hh : (hi = none ∧ m = s.size) ∨ ∃ x kk, hi = some x ∧ a.eval x = .int kk (m : Int)) (h1 : l ≤ m) (h2 : m ≤ s.size) :
    (Instr.sliceAt t (.string s) (lo.map a.eval) (hi.map a.eval) ((none : Option Operand).map a.eval)).run P w = .ok (.string (s.extract l m)) w := by
  rcases hl with ⟨rfl, rfl⟩ | ⟨xl, kl, rfl, hl⟩ <;> rcases hh with ⟨rfl, rfl⟩ | ⟨xh, kh, rfl, hh⟩ <;>
    simp [Instr.sliceAt, Instr.slice, Instr.sliceBounds, Instr.sliceBound, asIntOf, run_underlying (tk_str hk), *]
theorem slice_run {P : Program} {t e : TypeId} (hk : (ty P t).k = .slice e) {k : Nat} {w : World} (hs : (sizeOf e).run P w = .ok k w) {a : Act} {lo hi : Option Operand} {l m len cap : Nat} {ad : Option Addr}
    (hl : (lo = none ∧ l = 0) ∨ ∃ x kk, lo = some x ∧ a.eval x = .int kk (l : Int)) (hh : (hi = none ∧ m = len) ∨ ∃ x kk, hi = some x ∧ a.eval x = .int kk (m : Int)) (h1 : l ≤ m) (h2 : m ≤ len) (hc : len ≤ cap) :
    (Instr.sliceAt t (.slice ad len cap) (lo.map a.eval) (hi.map a.eval) ((none : Option Operand).map a.eval)).run P w = .ok (.slice (if cap = l then ad else ad.map (·.add (l * k))) (m - l) (cap - l)) w := by
  have hmc : m ≤ cap := by omega
  rcases hl with ⟨rfl, rfl⟩ | ⟨xl, kl, rfl, hl⟩ <;> rcases hh with ⟨rfl, rfl⟩ | ⟨xh, kh, rfl, hh⟩ <;>
    simp [Instr.sliceAt, Instr.slice, Instr.sliceBounds, Instr.sliceBound, asIntOf, run_underlying (tk_slice hk), hs, *]

set_option maxHeartbeats 2000000 in
theorem aval_run {P : Program} {c : Cx} {g : Gh} {st : ASt} {w : World} {a : Act} (hi : Inv c g st w) (hm : Tm g w st a) {o : Oper} {K : AV → Prop} (h : aval P st o.op K) : Comes1 P g w o a K := by
  obtain ⟨dst, op, typ, pos, after, guard⟩ := o
  unfold aval at h
  simp only at h
  unfold Comes1 execOp
  split at h
  · exact ⟨_, _, w, rfl, .refl w, ev_vr hm _, h⟩
  · exact ⟨_, _, w, rfl, .refl w, ev_vr hm _, h⟩
  · rename_i x1 y1 z1
    have hc := ev_vr hm x1
    split at h
    · rename_i t ht
      rw [ht] at hc
      obtain ⟨hx, _⟩ := hc.plain_of
      simp only [hx, asBool, Sem.run_bind, Sem.run_pure, Result.andThen_ok]
      cases t
      · exact ⟨_, _, w, rfl, .refl w, ev_vr hm _, by simpa using h⟩
      · exact ⟨_, _, w, rfl, .refl w, ev_vr hm _, by simpa using h⟩
    · exact h.elim
  · rename_i x1
    have hc := ev_vr hm x1
    split at h
    · rename_i i o ht
      rw [ht] at hc
      obtain ⟨b, _, hx⟩ := hc.varp_of
      rw [hx] at hc
      simp only [hx]
      exact ⟨_, _, w, rfl, .refl w, hc, h⟩
    · rename_i i o ht
      rw [ht] at hc
      obtain ⟨b, _, hx⟩ := hc.extp_of
      rw [hx] at hc
      simp only [hx]
      exact ⟨_, _, w, rfl, .refl w, hc, h⟩
    · rename_i cs ht
      rw [ht] at hc
      obtain ⟨b, _, _, hx, _⟩ := hc.inp_of
      rw [hx] at hc
      simp only [hx]
      exact ⟨_, _, w, rfl, .refl w, hc, h⟩
    · rename_i f cs ht
      rw [ht] at hc
      obtain ⟨arr, hx, _⟩ := hc.at_func
      rw [hx] at hc
      simp only [hx]
      exact ⟨_, _, w, rfl, .refl w, hc, h⟩
    · exact h.elim
  · rename_i t p
    split at h
    · rename_i cs hcs
      obtain ⟨⟨h0, hl⟩, h⟩ := h
      obtain ⟨b, o, hx, hc⟩ := mem_vr hi (ev_vr hm p) hcs
      obtain ⟨v, hr, hv⟩ := load_run h0 hl hc
      refine ⟨_, v, w, ?_, .refl w, hv, h⟩
      simp only [Instr.loadAt, hx, Instr.sureAddr, Sem.run_bind, Sem.run_pure, Result.andThen_ok, hr]
    · exact h.elim
  · rename_i s x f
    have hc := ev_vr hm x
    split at h
    · rename_i fs hk
      split at h
      · rename_i off sz hf
        obtain ⟨h0, h⟩ := h
        split at h
        · rename_i i o ht
          rw [ht] at hc
          obtain ⟨b, hb, hx⟩ := hc.varp_of
          refine ⟨_, _, w, by simp only [hx, Sem.run_bind, fieldAt_run hk hf h0, Result.andThen_ok, Sem.run_pure], .refl w, .varp _ _ b hb, h⟩
        · rename_i i o ht
          rw [ht] at hc
          obtain ⟨b, hb, hx⟩ := hc.extp_of
          refine ⟨_, _, w, by simp only [hx, Sem.run_bind, fieldAt_run hk hf h0, Result.andThen_ok, Sem.run_pure], .refl w, .extp _ _ b hb, h⟩
        · rename_i cs ht
          rw [ht] at hc
          obtain ⟨b, o, f, hx, h1, h2, h3⟩ := hc.inp_of
          refine ⟨_, _, w, by simp only [hx, Sem.run_bind, fieldAt_run hk hf h0, Result.andThen_ok, Sem.run_pure], .refl w, .cl _ _ (inp_drop h1 h2 h3 off), h⟩
        · exact h.elim
      · exact h.elim
    · exact h.elim
  · rename_i t x ix
    have hc := ev_vr hm x
    have hd := ev_vr hm ix
    split at h
    · rename_i e o k els kk i hk hx hix
      obtain ⟨⟨h0, hke⟩, h1, v, hv, h⟩ := h
      rw [hx] at hc
      rw [hix] at hd
      obtain ⟨hq, _⟩ := hd.plain_of
      obtain ⟨hlt, hge⟩ := List.getElem?_eq_some_iff.1 hv
      obtain ⟨_, _, _, hvd⟩ := slice_vr hc
      obtain ⟨b, o', cap, he, hvd'⟩ := slice_at hvd hlt
      rw [hge] at hvd'
      refine ⟨_, .pointer (some ⟨b, o' + i.toNat * k, none⟩), w, ?_, .refl w, .cl _ _ hvd', h⟩
      have hs := tk_size (P := P) (t := e) (by rw [← hke]; exact h0) w
      have hlt' : i < (els.length : Int) := by omega
      simp [Instr.indexAt, hq, he, asIntOf, run_underlying (tk_slice hk), h1, hlt', hs, ← hke, Addr.add_lit]
    · exact h.elim
  · rename_i t x ix
    have hc := ev_vr hm x
    have hd := ev_vr hm ix
    split at h
    · rename_i s kk i hk hx hix
      obtain ⟨h1, b, hb, h⟩ := h
      rw [hx] at hc
      rw [hix] at hd
      obtain ⟨hq, _⟩ := hd.plain_of
      obtain ⟨hp, _⟩ := hc.plain_of
      obtain ⟨hlt, hge⟩ := List.getElem?_eq_some_iff.1 hb
      refine ⟨_, .int .u8 b.toNat, w, ?_, .refl w, .cl _ _ (.val _ rfl), h⟩
      have hlt' : i.toNat < s.size := by simpa using hlt
      have hg : s[i.toNat]? = some b := by
        rw [← hge]
        simp [getElem?_pos s i.toNat hlt']
        rfl
      simp [Instr.index, hq, hp, asIntOf, run_underlying (tk_str hk), h1, hg]
    · exact h.elim
  · rename_i t parts
    split at h
    · rename_i fs hk
      split at h
      · rename_i cells hf
        obtain ⟨⟨h0, hall⟩, h⟩ := h
        obtain ⟨x, hr, hv⟩ := build_run (w := w) (g := g) hk h0 hall (parts.toList.map fun p => (p.1, st.ev p.2)) (parts.map fun (i, x) => (i, a.eval x)) (by simp) (fun j h1 h2 => by
          simp only [List.getElem_map, Array.toList_map, Array.getElem_toList]
          exact ⟨trivial, ev_vr hm _⟩) hf
        exact ⟨_, x, w, by simp only [hr, Sem.run_bind, Result.andThen_ok, Sem.run_pure], .refl w, hv, h⟩
      · exact h.elim
    · exact h.elim
  · rename_i t x lo hi'
    have hc := ev_vr hm x
    split at h
    · rename_i s hk hx
      rw [hx] at hc
      obtain ⟨hp, _⟩ := hc.plain_of
      obtain ⟨l, h, hl⟩ := bnd_run hm h
      obtain ⟨m, ⟨⟨h1, h2⟩, h⟩, hh⟩ := bnd_run hm h
      exact ⟨_, .string (s.extract l m), w, by simp only [hp, Sem.run_bind, slice_str_run hk hl hh h1 h2, Result.andThen_ok, Sem.run_pure], .refl w, .cl _ _ (.val _ rfl), h⟩
    · rename_i e o k els hk hx
      rw [hx] at hc
      obtain ⟨⟨h0, hke⟩, h⟩ := h
      obtain ⟨ad, cap, hp, hvd⟩ := slice_vr hc
      obtain ⟨l, h, hl⟩ := bnd_run hm h
      obtain ⟨m, ⟨⟨h1, h2⟩, h⟩, hh⟩ := bnd_run hm h
      have hcap : els.length ≤ cap := by
        rw [hp] at hvd
        generalize hq : Value.slice ad els.length cap = q at hvd
        cases hvd with
        | slice0 => simp
        | slice k els b o cap' f g1 => injection hq with e1 e2 e3; subst e3; exact g1
      have hs := tk_size (P := P) (t := e) (by rw [← hke]; exact h0) w
      rw [← hke] at hs
      rw [hp] at hvd
      exact ⟨_, _, w, by simp only [hp, Sem.run_bind, slice_run hk hs hl hh h1 h2 hcap, Result.andThen_ok, Sem.run_pure], .refl w, .cl _ _ (slice_take hvd h1 h2), h⟩
    · exact h.elim
  · rename_i x i
    have hc := ev_vr hm x
    split at h
    · rename_i vs hx
      obtain ⟨v, hv, h⟩ := h
      rw [hx] at hc
      obtain ⟨arr, he, hs, hvs⟩ := hc.at_tuple
      obtain ⟨hlt, hge⟩ := List.getElem?_eq_some_iff.1 hv
      refine ⟨v, arr[i]'(by omega), w, ?_, .refl w, hge ▸ hvs i hlt (by omega), h⟩
      simp [Instr.extract, he, show i < arr.size by omega]
    · exact h.elim
  · rename_i op t x y yt
    obtain ⟨r, x', w', hr, hsame, hv, h⟩ := abin_run (x := x) (y := y) h (ev_vr hm x) (ev_vr hm y)
    refine ⟨r, x', w', ?_, hsame, hv, h⟩
    simp only [Sem.run_bind] at hr ⊢
    simp only [hr, Result.andThen_ok, Sem.run_pure]
  · rename_i op t x
    have hc := ev_vr hm x
    split at h
    · rename_i b hx
      rw [hx] at hc
      obtain ⟨hp, _⟩ := hc.plain_of
      exact ⟨_, _, w, by simp [hp, Op.unary], .refl w, .cl _ _ (.val _ rfl), h⟩
    · rename_i k n hx
      rw [hx] at hc
      obtain ⟨hp, _⟩ := hc.plain_of
      exact ⟨_, _, w, by simp [hp, Op.unary, Op.intArith], .refl w, .cl _ _ (.val _ rfl), h⟩
    · rename_i b hx
      rw [hx] at hc
      obtain ⟨b', hp, hb⟩ := hc.fl_of
      exact ⟨_, .float .f64 (negF b'), w, by simp [hp, Op.unary, negF], .refl w, .cl _ _ (.fl _ _ hb.neg), h⟩
    · exact h.elim
  · rename_i s d x
    have hc := ev_vr hm x
    obtain ⟨hs, h⟩ := h
    obtain ⟨_, sd, _, hsu, _⟩ := ty_und hs
    split at h
    · rename_i k kk n hk hx
      rw [hx] at hc
      obtain ⟨hp, _⟩ := hc.plain_of
      refine ⟨_, .int k (k.wrap n), w, ?_, .refl w, .cl _ _ (.val _ rfl), h⟩
      cases sd <;> simp [hp, convert, run_underlying hsu, run_underlying (tk_int hk), Conv.intToInt]
    · rename_i k kk n hk hx
      rw [hx] at hc
      obtain ⟨hp, _⟩ := hc.plain_of
      refine ⟨_, .float .f64 (FloatKind.f64.nearest n), w, ?_, .refl w, .cl _ _ (.fl _ _ (.inl rfl)), h⟩
      cases sd <;> simp [hp, convert, run_underlying hsu, run_underlying (tk_float hk), Conv.intToFloat]
    · rename_i b hk hx
      rw [hx] at hc
      obtain ⟨hp, _⟩ := hc.plain_of
      refine ⟨_, .string b, w, ?_, .refl w, .cl _ _ (.val _ rfl), h⟩
      cases sd <;> simp [hp, convert, run_underlying hsu, run_underlying (tk_str hk)]
    · exact h.elim
  · rename_i t x
    obtain ⟨⟨hk1, hk2⟩, h⟩ := h
    obtain ⟨_, sd, _, hsu, hkk, _⟩ := ty_und hk1
    refine ⟨_, .iface t (a.eval x), w, ?_, .refl w, .cl _ _ (.iface _ _ _ (ev_vr hm x).cl2_of), h⟩
    rw [hkk] at hk2
    cases sd <;> simp [tkOf] at hk2 <;> simp [Instr.makeInterface, run_underlying hsu]
  · rename_i cl
    obtain ⟨callee, args, argTypes⟩ := cl
    simp only at h
    split at h
    · rename_i x t hargs hts
      obtain rfl : args = #[x] := by rw [← Array.toList_inj]; exact hargs
      obtain rfl : argTypes = #[t] := by rw [← Array.toList_inj]; exact hts
      have hc := ev_vr hm x
      split at h
      · rename_i s hk hx
        rw [hx] at hc
        obtain ⟨hp, _⟩ := hc.plain_of
        exact ⟨_, _, w, by simp [resolve, invoke, builtin, Builtin.len_, hp, run_underlying (tk_str hk), goInt], .refl w, .cl _ _ (.val _ rfl), h⟩
      · rename_i e o k els hk hx
        rw [hx] at hc
        obtain ⟨ad, cap, hp, _⟩ := slice_vr hc
        exact ⟨_, _, w, by simp [resolve, invoke, builtin, Builtin.len_, hp, run_underlying (tk_slice hk), goInt], .refl w, .cl _ _ (.val _ rfl), h⟩
      · rename_i e hk hx
        rw [hx] at hc
        have hp : a.eval x = .slice none 0 0 := hc.nils_of
        exact ⟨_, _, w, by simp [resolve, invoke, builtin, Builtin.len_, hp, run_underlying (tk_slice hk), goInt], .refl w, .cl _ _ (.val _ rfl), h⟩
      · exact h.elim
    · rename_i x y hargs
      obtain rfl : args = #[x, y] := by rw [← Array.toList_inj]; exact hargs
      have hc := ev_vr hm x
      have hd := ev_vr hm y
      split at h
      · rename_i k n k' n' hx hy
        rw [hx] at hc
        rw [hy] at hd
        obtain ⟨hp, _⟩ := hc.plain_of
        obtain ⟨hq, _⟩ := hd.plain_of
        exact ⟨_, _, w, by simp [resolve, invoke, builtin, Builtin.min_, Builtin.min2, hp, hq], .refl w, .cl _ _ (.val _ rfl), h⟩
      · exact h.elim
    · rename_i x y hargs
      obtain rfl : args = #[x, y] := by rw [← Array.toList_inj]; exact hargs
      have hc := ev_vr hm x
      have hd := ev_vr hm y
      split at h
      · rename_i k n k' n' hx hy
        rw [hx] at hc
        rw [hy] at hd
        obtain ⟨hp, _⟩ := hc.plain_of
        obtain ⟨hq, _⟩ := hd.plain_of
        exact ⟨_, _, w, by simp [resolve, invoke, builtin, Builtin.max_, Builtin.max2, hp, hq], .refl w, .cl _ _ (.val _ rfl), h⟩
      · exact h.elim
    · exact h.elim
  · exact h.elim
end Go.Proofs.Eng
