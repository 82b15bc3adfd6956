/- The walk by reckoning, second part: any operation. -/
import Derived.Test.YtdolhcmhdjmoeaaGreatDoorEngN
set_option linter.unusedSimpArgs false
set_option linter.unusedVariables false
namespace Go.Proofs.Eng
open Go

def rbnd (st : ASt) (o : Option Operand) (d : Nat) : Option (List Prop × Nat) :=
  match o with
  | none => some ([], d)
  | some x => match st.ev x with
    | .val (.int _ i) => some ([0 ≤ i], i.toNat)
    | _ => none

theorem rbnd_ok {st : ASt} {o : Option Operand} {d n : Nat} {cs : List Prop} (h : rbnd st o d = some (cs, n)) (hc : allP cs) {K : Nat → Prop} (hk : K n) : bnd st o d K := by
  unfold rbnd at h
  unfold bnd
  split at h
  · cases h; exact hk
  · split at h
    · rename_i hx
      cases h
      simp only [hx]
      exact ⟨hc.1, hk⟩
    · cases h

/-- An operation that only reckons or reads; hv: what the reader knows beforehand of its answer. -/
def rval (P : Program) (st : ASt) (hv : AV) : Op → Option (List Prop × AV)
  | .move x => some ([], st.ev x)
  | .assign x => some ([], st.ev x)
  | .pick c a b => match st.ev c with
    | .val (.bool t) => some ([], bif t then st.ev a else st.ev b)
    | _ => none
  | .nilCheck x => match st.ev x with
    | .varp i o => some ([], .varp i o)
    | .extp i o => some ([], .extp i o)
    | .inp cs => some ([], .inp cs)
    | .func f cs => some ([], .func f cs)
    | _ => none
  | .load t p => match st.mem (st.ev p) with
    | some cs => if 0 < (ty P t).size ∧ (ty P t).size ≤ cs.length then some ([], AV.ofCells (ty P t).k.agg (ty P t).size cs) else none
    | none => none
  | .fieldAddr s x f => match (ty P s).k with
    | .struct fs => match fs[f]? with
      | some (off, sz) => if 0 < sz then match st.ev x with
        | .varp i o => some ([], .varp i (o + off))
        | .extp i o => some ([], .extp i (o + off))
        | .inp cs => some ([], .inp (cs.drop off))
        | _ => none else none
      | none => none
    | _ => none
  | .indexAddr t x ix => match (ty P t).k, st.ev x, st.ev ix with
    | .slice e, .slice _ k els, .val (.int _ i) => if 0 < k ∧ k = (ty P e).size then some ([0 ≤ i, els[i.toNat]? = some hv], .inp hv.cells) else none
    | _, _, _ => none
  | .index t x ix => match (ty P t).k, st.ev x, st.ev ix with
    | .str, .val (.string s), .val (.int _ i) => some ([0 ≤ i, ∃ b, s.data.toList[i.toNat]? = some b ∧ hv = .val (.int .u8 b.toNat)], hv)
    | _, _, _ => none
  | .build t parts => match (ty P t).k with
    | .struct fs => match fillA fs (ty P t).zero (parts.toList.map fun p => (p.1, st.ev p.2)) with
      | some cells => if 0 < (ty P t).zero.length ∧ fs.all (fun p => decide (0 < p.2)) = true then some ([], .agg cells) else none
      | none => none
    | _ => none
  | .slice t x lo hi none => match (ty P t).k, st.ev x with
    | .str, .val (.string s) => match rbnd st lo 0, rbnd st hi s.data.toList.length with
      | some (c1, l), some (c2, h) => some (c1 ++ (c2 ++ [l ≤ h, h ≤ s.data.toList.length]), AV.str ((s.data.toList.take h).drop l))
      | _, _ => none
    | .slice e, .slice _ k els => if 0 < k ∧ k = (ty P e).size then match rbnd st lo 0, rbnd st hi els.length, hv with
      | some (c1, l), some (c2, h), .slice .non _ els' => some (c1 ++ (c2 ++ [l ≤ h, h ≤ els.length, (els.take h).drop l = els']), .slice .non k els')
      | _, _, _ => none else none
    | _, _ => none
  | .extract x i => match st.ev x with
    | .tuple vs => match vs[i]? with
      | some v => some ([], v)
      | none => none
    | _ => none
  | .binOp op t x y _ => rbin P op t (st.ev x) (st.ev y)
  | .unOp op _ x => match op, st.ev x with
    | .not, .val (.bool b) => some ([], .val (.bool (!b)))
    | .neg, .val (.int k n) => some ([], .val (.int k (k.wrap (0 - n))))
    | .neg, .fl b => some ([], .fl (negF b))
    | _, _ => none
  | .convert s d x => if (ty P s).k.isNone = false then match (ty P d).k, st.ev x with
    | .int k, .val (.int _ n) => some ([], .val (.int k (k.wrap n)))
    | .float .f64, .val (.int _ n) => some ([], .fl (FloatKind.f64.nearest n))
    | .str, .val (.string b) => some ([], .val (.string b))
    | _, _ => none else none
  | .makeInterface t x => if (ty P t).k.isNone = false ∧ (ty P t).k.isIface = false then some ([], .iface t (st.ev x).cl2) else none
  | .call c => match c.callee, c.args.toList, c.argTypes.toList with
    | .builtin .len, [x], [t] => match (ty P t).k, st.ev x with
      | .str, .val (.string s) => some ([], .val (.int .i64 s.data.toList.length))
      | .slice _, .slice _ _ els => some ([(hv = .val (.int .i64 els.length))], hv)
      | .slice _, .nils => some ([], .val (.int .i64 0))
      | _, _ => none
    | .builtin .min, [x, y], _ => match st.ev x, st.ev y with
      | .val (.int k a), .val (.int _ b) => some ([], .val (.int k (if b < a then b else a)))
      | _, _ => none
    | .builtin .max, [x, y], _ => match st.ev x, st.ev y with
      | .val (.int k a), .val (.int _ b) => some ([], .val (.int k (if b > a then b else a)))
      | _, _ => none
    | _, _, _ => none
  | _ => none

theorem size_data (s : ByteArray) : s.size = s.data.toList.length := by
  rw [Array.length_toList]; rfl

theorem rval_ok {P : Program} {st : ASt} {hv : AV} {op : Op} {cs : List Prop} {v : AV} (h : rval P st hv op = some (cs, v)) (hc : allP cs) {K : AV → Prop} (hk : K v) : aval P st op K := by
  cases op with
  | move x => cases h; exact hk
  | assign x => cases h; exact hk
  | pick c a b =>
    simp only [rval] at h
    simp only [aval]
    split at h
    · rename_i t ht
      simp only [ht]
      cases h
      cases t <;> simpa using hk
    · cases h
  | nilCheck x =>
    simp only [rval] at h
    simp only [aval]
    split at h <;> first | (rename_i hx; cases h; simpa only [hx] using hk) | cases h
  | load t p =>
    simp only [rval] at h
    simp only [aval]
    split at h
    · rename_i cs' hcs
      split at h
      · rename_i hh
        cases h
        simp only [hcs]
        exact ⟨hh, hk⟩
      · cases h
    · cases h
  | fieldAddr s x f =>
    simp only [rval] at h
    simp only [aval]
    split at h
    · rename_i q1
      simp only [q1]
      split at h
      · rename_i q2
        simp only [q2]
        split at h
        · rename_i hsz
          refine ⟨hsz, ?_⟩
          split at h <;> first | (rename_i hx; cases h; simpa only [hx] using hk) | cases h
        · cases h
      · cases h
    · cases h
  | indexAddr t x ix =>
    simp only [rval] at h
    simp only [aval]
    split at h
    · rename_i h1 h2 h3
      split at h
      · rename_i hk'
        cases h
        simp only [h1, h2, h3]
        exact ⟨hk', hc.1, hv, hc.2.1, hk⟩
      · cases h
    · cases h
  | index t x ix =>
    simp only [rval] at h
    simp only [aval]
    split at h
    · rename_i h1 h2 h3
      cases h
      obtain ⟨h4, ⟨b, h5, rfl⟩, _⟩ := hc
      simp only [h1, h2, h3]
      exact ⟨h4, b, h5, hk⟩
    · cases h
  | build t parts =>
    simp only [rval] at h
    simp only [aval]
    split at h
    · rename_i q1
      simp only [q1]
      split at h
      · rename_i q2
        simp only [q2]
        split at h
        · rename_i hh
          cases h
          exact ⟨hh, hk⟩
        · cases h
      · cases h
    · cases h
  | slice t x lo hi mx =>
    cases mx with
    | some m => simp [rval] at h
    | none =>
      simp only [rval] at h
      simp only [aval]
      split at h
      · rename_i s h1 h2
        split at h
        · rename_i c1 l c2 m h3 h4
          simp only [Option.some.injEq, Prod.mk.injEq] at h
          obtain ⟨rfl, rfl⟩ := h
          rw [allP_app, allP_app] at hc
          obtain ⟨g1, g2, g3, g4, _⟩ := hc
          simp only [h1, h2]
          refine rbnd_ok h3 g1 ?_
          rw [size_data]
          refine rbnd_ok h4 g2 ⟨⟨g3, g4⟩, ?_⟩
          have e : s.extract l m = ⟨((s.data.toList.take m).drop l).toArray⟩ := by
            apply ByteArray.ext
            apply Array.ext'
            rw [ByteArray.data_extract, Array.toList_extract]
            simp [List.extract_eq_take_drop, List.drop_take]
          rw [e]; exact hk
        · cases h
      · rename_i e o k els h1 h2
        split at h
        · rename_i hke
          split at h
          · rename_i c1 l c2 m k' els' h3 h4
            simp only [Option.some.injEq, Prod.mk.injEq] at h
            obtain ⟨rfl, rfl⟩ := h
            rw [allP_app, allP_app] at hc
            obtain ⟨g1, g2, g3, g4, g5, _⟩ := hc
            simp only [h1, h2]
            refine ⟨hke, rbnd_ok h3 g1 (rbnd_ok h4 g2 ⟨⟨g3, g4⟩, ?_⟩)⟩
            rw [g5]; exact hk
          · cases h
        · cases h
      · cases h
  | extract x i =>
    simp only [rval] at h
    simp only [aval]
    split at h
    · rename_i q1
      simp only [q1]
      split at h
      · rename_i v' hv'
        cases h
        exact ⟨_, hv', hk⟩
      · cases h
    · cases h
  | binOp op t x y ty' => exact rbin_ok h hc hk
  | unOp op t x =>
    simp only [rval] at h
    simp only [aval]
    split at h <;> first | (rename_i hx; simp only [hx]; cases h; exact hk) | cases h
  | convert s d x =>
    simp only [rval] at h
    simp only [aval]
    split at h
    · rename_i hs
      refine ⟨?_, ?_⟩
      · intro hn; rw [hn] at hs; simp [TK.isNone] at hs
      · split at h <;> first | (rename_i q1 q2; simp only [q1, q2]; cases h; exact hk) | cases h
    · cases h
  | makeInterface t x =>
    simp only [rval] at h
    simp only [aval]
    split at h
    · rename_i hs
      cases h
      refine ⟨⟨?_, ?_⟩, hk⟩
      · intro hn; rw [hn] at hs; simp [TK.isNone] at hs
      · intro hn; rw [hn] at hs; simp [TK.isIface] at hs
    · cases h
  | call c =>
    simp only [rval] at h
    simp only [aval]
    split at h
    · rename_i h1 h2 h3
      simp only [h1, h2, h3]
      split at h
      · rename_i h4 h5
        simp only [h4, h5]
        cases h
        rw [size_data]; exact hk
      · rename_i h4 h5
        cases h
        simp only [h4, h5]
        have := hc.1
        subst this
        exact hk
      · rename_i h4 h5
        simp only [h4, h5]
        cases h; exact hk
      · cases h
    · rename_i h1 h2
      simp only [h1, h2]
      split at h <;> first | (rename_i h3 h4; simp only [h3, h4]; cases h; exact hk) | cases h
    · rename_i h1 h2
      simp only [h1, h2]
      split at h <;> first | (rename_i h3 h4; simp only [h3, h4]; cases h; exact hk) | cases h
    · cases h
  | _ => simp [rval] at h
end Go.Proofs.Eng
