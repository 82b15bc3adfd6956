/- What an operation that only computes or reads comes to, upon worths, and that the machine comes to the same. -/
import Derived.Test.YtdolhcmhdjmoeaaGreatDoorEngB
set_option linter.unusedSimpArgs false
set_option linter.unusedVariables false
namespace Go.Proofs.Eng
open Go

def ASt.ev (st : ASt) : Operand → AV
  | .tmp t => st.get t
  | .const v => AV.ofConst v
  | .func f => .func f []
  | .global _ => .junk

theorem ofConst_vr (g : Gh) (w : World) (v : Value) : VR g w (AV.ofConst v) v := by
  unfold AV.ofConst
  split
  · exact .cl _ _ .nils
  · exact .cl _ _ (.fl _ _ (.inl rfl))
  · split
    · rename_i f a b h
      obtain ⟨h1, h2⟩ := h
      have ha : a = #[] := Array.eq_empty_of_size_eq_zero h1
      have hb : b = #[] := Array.eq_empty_of_size_eq_zero h2
      subst ha hb
      exact .cl _ _ (.func f [] #[] rfl (fun j h => by simp at h))
    · exact .cl _ _ (.junk _)
  · split
    · rename_i hp
      exact .cl _ _ (.val _ hp)
    · exact .cl _ _ (.junk _)

theorem ev_vr {g : Gh} {w : World} {st : ASt} {a : Act} (h : Tm g w st a) (x : Operand) : VR g w (st.ev x) (a.eval x) := by
  cases x with
  | tmp t => exact h.2 t
  | const v => exact ofConst_vr g w v
  | func f => exact .cl _ _ (.func f [] #[] rfl (fun j h => by simp at h))
  | global n => exact .cl _ _ (.junk _)

/-- What lies behind a pointer. -/
def ASt.mem (st : ASt) : AV → Option (List AV)
  | .varp i off => (look st.vars i).map fun v => v.2.drop off
  | .extp i off => st.ext[i]?.map fun cs => cs.drop off
  | .inp cs => some cs
  | _ => none

theorem Blk.cell {g : Gh} {w : World} {b : Nat} {cs : List AV} (h : Blk g w b cs) (j : Nat) (hj : j < cs.length) : ∃ v, w.cell? ⟨b, j, none⟩ = some v ∧ VR g w cs[j] v := by
  obtain ⟨arr, t, hh, hs, hv⟩ := h
  refine ⟨arr[j]'(by omega), ?_, hv j hj (by omega)⟩
  rw [cell_of_row w b j arr t (0, 0) hh]
  simp [show j < arr.size by omega]

theorem mem_vr {c : Cx} {g : Gh} {st : ASt} {w : World} (hi : Inv c g st w) {p : AV} {x : Value} (h : VR g w p x) {cs : List AV} (hm : st.mem p = some cs) :
    ∃ b o, x = .pointer (some ⟨b, o, none⟩) ∧ ∀ j (h : j < cs.length), ∃ v, w.cell? ⟨b, o + j, none⟩ = some v ∧ VR g w cs[j] v := by
  cases p with
  | varp i off =>
    have hx : ∃ b, g.vb i = some b ∧ x = .pointer (some ⟨b, off, none⟩) := by
      cases h with
      | cl _ _ hd => cases hd
      | varp _ _ b hb => exact ⟨b, hb, rfl⟩
    obtain ⟨b, hb, rfl⟩ := hx
    simp only [ASt.mem, Option.map_eq_some_iff] at hm
    obtain ⟨⟨z, cs0⟩, hl, rfl⟩ := hm
    obtain ⟨b', hb', hblk, _⟩ := hi.var i z cs0 hl
    obtain rfl : b = b' := by rw [hb] at hb'; injection hb'
    refine ⟨b, off, rfl, fun j hj => ?_⟩
    have hlen : off + j < cs0.length := by simp at hj; omega
    obtain ⟨v, h1, h2⟩ := hblk.cell (off + j) hlen
    exact ⟨v, h1, by simpa using h2⟩
  | extp i off =>
    have hx : ∃ b, g.eb[i]? = some b ∧ x = .pointer (some ⟨b, off, none⟩) := by
      cases h with
      | cl _ _ hd => cases hd
      | extp _ _ b hb => exact ⟨b, hb, rfl⟩
    obtain ⟨b, hb, rfl⟩ := hx
    simp only [ASt.mem, Option.map_eq_some_iff] at hm
    obtain ⟨cs0, hl, rfl⟩ := hm
    rw [hi.eb] at hb
    obtain ⟨h1, h2⟩ := List.getElem?_eq_some_iff.1 hb
    obtain ⟨h3, h4⟩ := List.getElem?_eq_some_iff.1 hl
    subst h2 h4
    obtain ⟨hblk, _⟩ := hi.ext.2 i h1 h3
    refine ⟨_, off, rfl, fun j hj => ?_⟩
    have hlen : off + j < st.ext[i].length := by simp at hj; omega
    obtain ⟨v, h1, h2⟩ := hblk.cell (off + j) hlen
    exact ⟨v, h1, by simpa using h2⟩
  | inp cs' =>
    simp only [ASt.mem, Option.some.injEq] at hm
    subst hm
    cases h with
    | cl _ _ hd => cases hd with
      | inp _ b o f hd hc hv => exact ⟨b, o, rfl, fun j hj => ⟨_, hc j hj, .cl _ _ (hv j hj)⟩⟩
  | _ => simp [ASt.mem] at hm

/-- A variable's value, of its cells. -/
def AV.ofCells (agg : Bool) (n : Nat) (cs : List AV) : AV := if agg then .agg (cs.take n) else cs.headD .junk

theorem load_run {P : Program} {g : Gh} {w : World} {t : TypeId} (h0 : 0 < (ty P t).size) {cs : List AV} {b o : Nat} (hl : (ty P t).size ≤ cs.length)
    (hc : ∀ j (h : j < cs.length), ∃ v, w.cell? ⟨b, o + j, none⟩ = some v ∧ VR g w cs[j] v) :
    ∃ v, (loadVar t ⟨b, o, none⟩).run P w = .ok v w ∧ VR g w (AV.ofCells (ty P t).k.agg (ty P t).size cs) v := by
  have hf : ∃ f : Nat → Value, ∀ j (h : j < cs.length), w.cell? ⟨b, o + j, none⟩ = some (f j) ∧ VR g w cs[j] (f j) := by
    refine ⟨fun j => if h : j < cs.length then (hc j h).choose else undef, fun j h => ?_⟩
    simp only [h, dif_pos]
    exact (hc j h).choose_spec
  obtain ⟨f, hf⟩ := hf
  unfold loadVar AV.ofCells
  simp only [Sem.run_bind, tk_agg h0, Result.andThen_ok]
  by_cases ha : (ty P t).k.agg = true
  · simp only [ha, if_true, Sem.run_bind, tk_size h0, Result.andThen_ok]
    rw [run_loadCells w ⟨b, o, none⟩ (ty P t).size f (fun j hj => by rw [Addr.add_lit]; exact (hf j (by omega)).1)]
    refine ⟨_, rfl, .agg _ _ (by simp; omega) fun j h h' => ?_⟩
    simp only [List.getElem_take, List.getElem_toArray, List.getElem_map, List.getElem_range]
    exact (hf j (by simp at h; omega)).2
  · simp only [ha]
    have h := hf 0 (by omega)
    simp only [Nat.add_zero] at h
    refine ⟨f 0, ?_, ?_⟩
    · simp [h.1]
    · cases cs with
      | nil => simp at hl; omega
      | cons c r => simpa using h.2

/-- A comparison of structs of plain parts. -/
def plainEq : List AV → List AV → Option Bool
  | [], [] => some true
  | .val a :: x, .val b :: y =>
    match a, b, plainEq x y with
    | .string a, .string b, some r => some (decide (a.toList = b.toList) && r)
    | .int _ a, .int _ b, some r => some (decide (a = b) && r)
    | .bool a, .bool b, some r => some ((a == b) && r)
    | _, _, _ => none
  | _, _ => none

def floatOp (op : BinOp) (k : FloatKind) (a b : Nat) : Option Nat :=
  match op with
  | .add => k.format.add a b
  | .sub => k.format.sub a b
  | .mul => k.format.mul a b
  | _ => k.format.div a b
def BinOp.arith : BinOp → Bool
  | .add | .sub | .mul | .quo => true
  | _ => false
/-- A NaN's bits. -/
def nanB : Nat := 0x7ff8000000000001
def flArith (op : BinOp) (a b : Nat) : Nat := (floatOp op .f64 a b).getD nanB
def fEq (a b : Nat) : Bool := FloatKind.f64.format.order a b == some .eq
def fLt (a b : Nat) : Bool := FloatKind.f64.format.order a b == some .lt
def fGt (a b : Nat) : Bool := FloatKind.f64.format.order a b == some .gt
def flCmp (op : BinOp) (a b : Nat) : Option Bool :=
  match op with
  | .eql => some (fEq a b)
  | .neq => some (!fEq a b)
  | .lss => some (fLt a b)
  | .leq => some (fLt a b || fEq a b)
  | .gtr => some (fGt a b)
  | .geq => some (fGt a b || fEq a b)
  | _ => none
/-- With the other sign. -/
def negF (b : Nat) : Nat := Op.negFloat .f64 b
/-- The same bits, or both a NaN's. -/
def FRel (b b' : Nat) : Prop := b' = b ∨ (nanBits b = true ∧ nanBits b' = true)
theorem nan_read {a : Nat} (h : nanBits a = true) : ∃ s t, FloatKind.f64.format.read a = .nan s t := by
  unfold nanBits FloatKind.decode at h
  cases hr : FloatKind.f64.format.read a with
  | nan s t => exact ⟨s, t, rfl⟩
  | number s m e => rw [hr] at h; exact absurd h (by simp [Ieee.Datum.isNaN])
  | infinity s => rw [hr] at h; exact absurd h (by simp [Ieee.Datum.isNaN])
theorem negF_nan (b : Nat) : nanBits (negF b) = nanBits b := by
  have hs : FloatKind.f64.format.signWeight = 2 ^ 63 := rfl
  have e : negF b = b ^^^ 2 ^ 63 := rfl
  have hm : (b ^^^ 2 ^ 63) % 2 ^ 63 = b % 2 ^ 63 := by
    rw [Nat.xor_mod_two_pow]; simp
  rw [e]
  simp only [nanBits, FloatKind.decode, Ieee.Format.read, hs, hm]
  split
  · rfl
  · split
    · rfl
    · split <;> rfl
theorem FRel.neg {a a' : Nat} (h : FRel a a') : FRel (negF a) (negF a') := by
  rcases h with rfl | ⟨h1, h2⟩
  · exact .inl rfl
  · exact .inr ⟨by rw [negF_nan]; exact h1, by rw [negF_nan]; exact h2⟩
theorem order_nanL {a b : Nat} (h : nanBits a = true) : FloatKind.f64.format.order a b = none := by
  obtain ⟨s, t, h⟩ := nan_read h
  unfold Ieee.Format.order
  rw [h]; rfl
theorem order_nanR {a b : Nat} (h : nanBits b = true) : FloatKind.f64.format.order a b = none := by
  obtain ⟨s, t, h⟩ := nan_read h
  unfold Ieee.Format.order
  rw [h]; cases FloatKind.f64.format.read a <;> rfl
theorem floatOp_nanL {op : BinOp} {a b : Nat} (h : nanBits a = true) : floatOp op .f64 a b = none := by
  obtain ⟨s, t, h⟩ := nan_read h
  cases op <;> simp only [floatOp, Ieee.Format.add, Ieee.Format.sub, Ieee.Format.mul, Ieee.Format.div, h] <;> rfl
theorem floatOp_nanR {op : BinOp} {a b : Nat} (h : nanBits b = true) : floatOp op .f64 a b = none := by
  obtain ⟨s, t, h⟩ := nan_read h
  cases op <;> simp only [floatOp, Ieee.Format.add, Ieee.Format.sub, Ieee.Format.mul, Ieee.Format.div, h] <;> cases FloatKind.f64.format.read a <;> rfl
theorem FRel.order {a b a' b' : Nat} (h : FRel a a') (h' : FRel b b') : FloatKind.f64.format.order a' b' = FloatKind.f64.format.order a b := by
  rcases h with rfl | ⟨h1, h2⟩
  · rcases h' with rfl | ⟨h3, h4⟩
    · rfl
    · rw [order_nanR h3, order_nanR h4]
  · rw [order_nanL h1, order_nanL h2]
theorem FRel.floatOp {op : BinOp} {a b a' b' : Nat} (h : FRel a a') (h' : FRel b b') : floatOp op .f64 a' b' = Eng.floatOp op .f64 a b := by
  rcases h with rfl | ⟨h1, h2⟩
  · rcases h' with rfl | ⟨h3, h4⟩
    · rfl
    · rw [floatOp_nanR h3, floatOp_nanR h4]
  · rw [floatOp_nanL h1, floatOp_nanL h2]

/-- Two cells that hold the same. -/
def leafEq (P : Program) (t : TypeId) : Option AV → Option AV → Option Bool
  | some (.val a), some (.val b) => match (ty P t).k, a, b with
    | .str, .string a, .string b => some (decide (a.data.toList = b.data.toList))
    | .int _, .int k a, .int k' b => if k = k' then some (decide (a = b)) else none
    | .bool, .bool a, .bool b => some (a == b)
    | _, _, _ => none
  | _, _ => none
def seqF (P : Program) (xs ys : List AV) : List Field → Option Bool
  | [] => some true
  | f :: fs => if (f.name == "_") = true then none else match leafEq P f.type xs[f.offset]? ys[f.offset]?, seqF P xs ys fs with
    | some a, some r => some (a && r)
    | _, _ => none
def abin (P : Program) (op : BinOp) (t : TypeId) (x y : AV) (K : AV → Prop) : Prop :=
  match x, y with
  | .fl a, .fl b => if BinOp.arith op = true then K (.fl (flArith op a b)) else match flCmp op a b with
    | some r => K (.val (.bool r))
    | none => False
  | .val a, .val b => vbin P op t a b K
  | .agg xs, .agg ys => match P.underlying t with
    | some (.struct fs) => (P.stoodInHeld t = false ∧ P.eqGuardType P.depth t = false) ∧ match seqF P xs ys fs.toList with
      | some r => match op with
        | .eql => K (.val (.bool r))
        | .neq => K (.val (.bool (!r)))
        | _ => False
      | none => False
    | _ => False
  | _, _ => False

def indexed (els : List AV) (i : Int) (K : AV → Prop) : Prop := 0 ≤ i ∧ ∃ v, els[i.toNat]? = some v ∧ K v

def AV.isJunk : AV → Bool
  | .junk => true
  | _ => false
def fillA (fs : List (Nat × Nat)) (cells : List AV) : List (Nat × AV) → Option (List AV)
  | [] => some cells
  | (i, v) :: r => match fs[i]? with
    | some (off, size) => if v.isJunk = false ∧ v.cells.length = size ∧ off + size ≤ cells.length then fillA fs (cells.take off ++ v.cells ++ cells.drop (off + size)) r else none
    | none => none
def bnd (st : ASt) (o : Option Operand) (d : Nat) (K : Nat → Prop) : Prop :=
  match o with
  | none => K d
  | some x => match st.ev x with
    | .val (.int _ i) => 0 ≤ i ∧ K i.toNat
    | _ => False

def aval (P : Program) (st : ASt) : Op → (AV → Prop) → Prop
  | .move x, K => K (st.ev x)
  | .assign x, K => K (st.ev x)
  | .pick c a b, K => match st.ev c with
    | .val (.bool t) => if t = true then K (st.ev a) else K (st.ev b)
    | _ => False
  | .nilCheck x, K => match st.ev x with
    | .varp i o => K (.varp i o)
    | .extp i o => K (.extp i o)
    | .inp cs => K (.inp cs)
    | .func f cs => K (.func f cs)
    | _ => False
  | .load t p, K => match st.mem (st.ev p) with
    | some cs => (0 < (ty P t).size ∧ (ty P t).size ≤ cs.length) ∧ K (AV.ofCells (ty P t).k.agg (ty P t).size cs)
    | none => False
  | .fieldAddr s x f, K => match (ty P s).k with
    | .struct fs => match fs[f]? with
      | some (off, sz) => 0 < sz ∧ match st.ev x with
        | .varp i o => K (.varp i (o + off))
        | .extp i o => K (.extp i (o + off))
        | .inp cs => K (.inp (cs.drop off))
        | _ => False
      | none => False
    | _ => False
  | .indexAddr t x ix, K => match (ty P t).k, st.ev x, st.ev ix with
    | .slice e, .slice _ k els, .val (.int _ i) => (0 < k ∧ k = (ty P e).size) ∧ indexed els i fun v => K (.inp v.cells)
    | _, _, _ => False
  | .index t x ix, K => match (ty P t).k, st.ev x, st.ev ix with
    | .str, .val (.string s), .val (.int _ i) => 0 ≤ i ∧ ∃ b, s.data.toList[i.toNat]? = some b ∧ K (.val (.int .u8 b.toNat))
    | _, _, _ => False
  | .build t parts, K => match (ty P t).k with
    | .struct fs => match fillA fs (ty P t).zero (parts.toList.map fun p => (p.1, st.ev p.2)) with
      | some cells => (0 < (ty P t).zero.length ∧ fs.all (fun p => decide (0 < p.2)) = true) ∧ K (.agg cells)
      | none => False
    | _ => False
  | .slice t x lo hi none, K => match (ty P t).k, st.ev x with
    | .str, .val (.string s) => bnd st lo 0 fun l => bnd st hi s.size fun h => (l ≤ h ∧ h ≤ s.size) ∧ K (.val (.string (s.extract l h)))
    | .slice e, .slice _ k els => (0 < k ∧ k = (ty P e).size) ∧ bnd st lo 0 fun l => bnd st hi els.length fun h => (l ≤ h ∧ h ≤ els.length) ∧ K (.slice .non k ((els.take h).drop l))
    | _, _ => False
  | .extract x i, K => match st.ev x with
    | .tuple vs => ∃ v, vs[i]? = some v ∧ K v
    | _ => False
  | .binOp op t x y _, K => abin P op t (st.ev x) (st.ev y) K
  | .unOp op _ x, K => match op, st.ev x with
    | .not, .val (.bool b) => K (.val (.bool (!b)))
    | .neg, .val (.int k n) => K (.val (.int k (k.wrap (0 - n))))
    | .neg, .fl b => K (.fl (negF b))
    | _, _ => False
  | .convert s d x, K => (ty P s).k ≠ .none ∧ match (ty P d).k, st.ev x with
    | .int k, .val (.int _ n) => K (.val (.int k (k.wrap n)))
    | .float .f64, .val (.int _ n) => K (.fl (FloatKind.f64.nearest n))
    | .str, .val (.string b) => K (.val (.string b))
    | _, _ => False
  | .makeInterface t x, K => ((ty P t).k ≠ .none ∧ (ty P t).k ≠ .iface) ∧ K (.iface t (st.ev x).cl2)
  | .call c, K => match c.callee, c.args.toList, c.argTypes.toList with
    | .builtin .len, [x], [t] => match (ty P t).k, st.ev x with
      | .str, .val (.string s) => K (.val (.int .i64 s.size))
      | .slice _, .slice _ _ els => K (.val (.int .i64 els.length))
      | .slice _, .nils => K (.val (.int .i64 0))
      | _, _ => False
    | .builtin .min, [x, y], _ => match st.ev x, st.ev y with
      | .val (.int k a), .val (.int _ b) => K (.val (.int k (if b < a then b else a)))
      | _, _ => False
    | .builtin .max, [x, y], _ => match st.ev x, st.ev y with
      | .val (.int k a), .val (.int _ b) => K (.val (.int k (if b > a then b else a)))
      | _, _ => False
    | _, _, _ => False
  | _, _ => False

theorem VR.plain_of {g : Gh} {w : World} {v x : Value} (h : VR g w (.val v) x) : x = v ∧ plain v = true := by
  cases h with
  | cl _ _ hd => cases hd with
    | val _ hp => exact ⟨rfl, hp⟩

theorem slice_vr {g : Gh} {w : World} {o : Own} {k : Nat} {els : List AV} {x : Value} (h : VR g w (.slice o k els) x) : ∃ a cap, x = .slice a els.length cap ∧ VD g.D w (.slice .non k els) x := by
  have : VD g.D w (.slice .non k els) x := by
    cases h with
    | cl _ _ hd => cases hd with
      | slice0 k a cap => exact .slice0 k a cap
      | slice k els b o cap f h1 h2 h3 h4 h5 h6 => exact .slice k els b o cap f h1 h2 h3 h4 h5 h6
    | own id k els x e hd => exact hd
  refine (?_ : ∃ a cap, x = .slice a els.length cap).elim fun a h => h.elim fun cap h => ⟨a, cap, h, this⟩
  cases this with
  | slice0 k a cap => exact ⟨a, cap, rfl⟩
  | slice k els b o cap => exact ⟨_, cap, rfl⟩

theorem slice_at {D : Foot} {w : World} {k : Nat} {els : List AV} {x : Value} (h : VD D w (.slice .non k els) x) {i : Nat} (hi : i < els.length) :
    ∃ b o cap, x = .slice (some ⟨b, o, none⟩) els.length cap ∧ VD D w (.inp els[i].cells) (.pointer (some ⟨b, o + i * k, none⟩)) := by
  cases h with
  | slice0 k a cap => simp at hi
  | slice k els b o cap f h1 h2 h3 h4 h5 h6 =>
    refine ⟨b, o, cap, rfl, .inp _ b (o + i * k) (f i) ?_ ?_ ?_⟩
    · intro j hj
      rw [(h3 i hi).1] at hj
      have := h4 i j hi hj
      rwa [← Nat.add_assoc] at this
    · intro j hj
      rw [(h3 i hi).1] at hj
      have := h5 i j hi hj
      rwa [← Nat.add_assoc] at this
    · intro j hj
      exact h6 i hi j hj
end Go.Proofs.Eng
