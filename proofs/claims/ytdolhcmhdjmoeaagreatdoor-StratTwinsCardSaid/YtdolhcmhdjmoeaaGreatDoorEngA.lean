/- The abstract values of the walk: what a Go value is worth, apart from where it lies; and how it stands to the machine's value. -/
import Derived.WalkKit
import Derived.KernelRfl
namespace Go.Proofs.Eng
open Go

/-- Whether a slice may be appended to in its place: by whom. -/
inductive Own where
  | non
  | own (id : Nat)
  deriving DecidableEq, Repr

/-- A value as it is worth. -/
inductive AV where
  | junk
  | val (v : Value)
  | fl (b : Nat)
  | nils
  | varp (i off : Nat)
  | extp (i off : Nat)
  | inp (cs : List AV)
  | slice (o : Own) (k : Nat) (els : List AV)
  | func (f : FuncId) (caps : List AV)
  | iface (t : TypeId) (v : AV)
  | agg (cs : List AV)
  | tuple (vs : List AV)

instance : Inhabited AV := ⟨.junk⟩

def AV.cells : AV → List AV
  | .agg cs => cs
  | v => [v]

/-- One cell holds it. -/
def AV.cellOk : AV → Bool
  | .junk | .agg _ | .tuple _ => false
  | _ => true

/-- Values that say all of themselves. -/
def plain : Value → Bool
  | .bool _ | .int _ _ | .string _ | .pointer none | .nilFunc | .nilIface => true
  | _ => false

def nanBits (b : Nat) : Bool := (FloatKind.f64.decode b).isNaN

abbrev Foot := Nat → Nat → Prop

/-- Closed data: it lies in cells that nobody writes. -/
inductive VD (D : Foot) (w : World) : AV → Value → Prop
  | junk (v : Value) : VD D w .junk v
  | val (v : Value) : plain v = true → VD D w (.val v) v
  | fl (b b' : Nat) : b' = b ∨ (nanBits b = true ∧ nanBits b' = true) → VD D w (.fl b) (.float .f64 b')
  | nils : VD D w .nils (.slice none 0 0)
  | inp (cs : List AV) (b o : Nat) (f : Nat → Value) : (∀ j, j < cs.length → D b (o + j)) → (∀ j, j < cs.length → w.cell? ⟨b, o + j, none⟩ = some (f j)) →
      (∀ j (h : j < cs.length), VD D w cs[j] (f j)) → VD D w (.inp cs) (.pointer (some ⟨b, o, none⟩))
  | slice0 (k : Nat) (a : Option Addr) (cap : Nat) : VD D w (.slice .non k []) (.slice a 0 cap)
  | slice (k : Nat) (els : List AV) (b o cap : Nat) (f : Nat → Nat → Value) : els.length ≤ cap → cap ≤ maxLen → (∀ i (h : i < els.length), (els[i]).cells.length = k ∧ (els[i]).cells.all AV.cellOk = true) →
      (∀ i j, i < els.length → j < k → D b (o + (i * k + j))) → (∀ i j, i < els.length → j < k → w.cell? ⟨b, o + (i * k + j), none⟩ = some (f i j)) →
      (∀ i (h : i < els.length) j (hj : j < (els[i]).cells.length), VD D w ((els[i]).cells[j]) (f i j)) → VD D w (.slice .non k els) (.slice (some ⟨b, o, none⟩) els.length cap)
  | func (f : FuncId) (caps : List AV) (captured : Array Value) : caps.length = captured.size → (∀ j (h : j < caps.length) (h' : j < captured.size), VD D w caps[j] captured[j]) →
      VD D w (.func f caps) (.func (.func f) #[] captured)
  | iface (t : TypeId) (v : AV) (x : Value) : VD D w v x → VD D w (.iface t v) (.iface t x)
  | agg (cs : List AV) (arr : Array Value) : cs.length = arr.size → (∀ j (h : j < cs.length) (h' : j < arr.size), VD D w cs[j] arr[j]) → VD D w (.agg cs) (.agg arr)
  | tuple (cs : List AV) (arr : Array Value) : cs.length = arr.size → (∀ j (h : j < cs.length) (h' : j < arr.size), VD D w cs[j] arr[j]) → VD D w (.tuple cs) (.tuple arr)

/-- More is closed, and what was closed is as it was. -/
def DExt (D : Foot) (w : World) (D' : Foot) (w' : World) : Prop := ∀ b o, D b o → D' b o ∧ w'.cell? ⟨b, o, none⟩ = w.cell? ⟨b, o, none⟩

theorem DExt.refl (D : Foot) (w : World) : DExt D w D w := fun _ _ h => ⟨h, rfl⟩
theorem DExt.trans {D D1 D2 : Foot} {w w1 w2 : World} (h : DExt D w D1 w1) (h' : DExt D1 w1 D2 w2) : DExt D w D2 w2 :=
  fun b o hd => ⟨(h' b o (h b o hd).1).1, ((h' b o (h b o hd).1).2).trans (h b o hd).2⟩

theorem VD.mono {D D' : Foot} {w w' : World} (h : DExt D w D' w') {v : AV} {x : Value} (hv : VD D w v x) : VD D' w' v x := by
  induction hv with
  | junk v => exact .junk v
  | val v hp => exact .val v hp
  | fl b b' hb => exact .fl b b' hb
  | nils => exact .nils
  | inp cs b o f hd hc _ ih => exact .inp cs b o f (fun j hj => (h _ _ (hd j hj)).1) (fun j hj => ((h _ _ (hd j hj)).2).trans (hc j hj)) ih
  | slice0 k a cap => exact .slice0 k a cap
  | slice k els b o cap f hl hm hk hd hc _ ih =>
    exact .slice k els b o cap f hl hm hk (fun i j hi hj => (h _ _ (hd i j hi hj)).1) (fun i j hi hj => ((h _ _ (hd i j hi hj)).2).trans (hc i j hi hj)) ih
  | func f caps captured hs _ ih => exact .func f caps captured hs ih
  | iface t v x _ ih => exact .iface t v x ih
  | agg cs arr hs _ ih => exact .agg cs arr hs ih
  | tuple cs arr hs _ ih => exact .tuple cs arr hs ih

/-- A row that may be appended to: the slice that may, and how many elements it has. -/
structure FrE where
  v : Value
  len : Nat

/-- Where things lie. -/
structure Gh where
  D : Foot
  vb : Nat → Option Nat
  eb : List Nat
  fr : Nat → Option FrE

inductive VR (g : Gh) (w : World) : AV → Value → Prop
  | cl (v : AV) (x : Value) : VD g.D w v x → VR g w v x
  | varp (i off b : Nat) : g.vb i = some b → VR g w (.varp i off) (.pointer (some ⟨b, off, none⟩))
  | extp (i off b : Nat) : g.eb[i]? = some b → VR g w (.extp i off) (.pointer (some ⟨b, off, none⟩))
  | own (id k : Nat) (els : List AV) (x : Value) (e : FrE) : VD g.D w (.slice .non k els) x → g.fr id = some e → els.length ≤ e.len → (els.length = e.len → x = e.v) →
      VR g w (.slice (.own id) k els) x
  | func (f : FuncId) (caps : List AV) (captured : Array Value) : caps.length = captured.size → (∀ j (h : j < caps.length) (h' : j < captured.size), VR g w caps[j] captured[j]) →
      VR g w (.func f caps) (.func (.func f) #[] captured)
  | agg (cs : List AV) (arr : Array Value) : cs.length = arr.size → (∀ j (h : j < cs.length) (h' : j < arr.size), VR g w cs[j] arr[j]) → VR g w (.agg cs) (.agg arr)
  | tuple (cs : List AV) (arr : Array Value) : cs.length = arr.size → (∀ j (h : j < cs.length) (h' : j < arr.size), VR g w cs[j] arr[j]) → VR g w (.tuple cs) (.tuple arr)

/-- How the lie of things goes on. -/
structure GExt (g : Gh) (w : World) (g' : Gh) (w' : World) : Prop where
  D : DExt g.D w g'.D w'
  vb : ∀ i b, g.vb i = some b → g'.vb i = some b
  eb : g'.eb = g.eb
  fr : ∀ id e, g.fr id = some e → ∃ e', g'.fr id = some e' ∧ (e' = e ∨ e.len < e'.len)

theorem GExt.refl (g : Gh) (w : World) : GExt g w g w := ⟨.refl _ _, fun _ _ h => h, rfl, fun _ e h => ⟨e, h, .inl rfl⟩⟩

theorem GExt.of_D {g : Gh} {w w' : World} {D' : Foot} (h : DExt g.D w D' w') : GExt g w { g with D := D' } w' :=
  ⟨h, fun _ _ h => h, rfl, fun _ e h => ⟨e, h, .inl rfl⟩⟩

theorem VR.mono {g g' : Gh} {w w' : World} (h : GExt g w g' w') {v : AV} {x : Value} (hv : VR g w v x) : VR g' w' v x := by
  induction hv with
  | cl v x hd => exact .cl v x (hd.mono h.D)
  | varp i off b hb => exact .varp i off b (h.vb i b hb)
  | extp i off b hb => exact .extp i off b (by rw [h.eb]; exact hb)
  | own id k els x e hd hf hl he =>
    obtain ⟨e', hf', hor⟩ := h.fr id e hf
    refine .own id k els x e' (hd.mono h.D) hf' ?_ ?_
    · rcases hor with rfl | hlt
      · exact hl
      · omega
    · rcases hor with rfl | hlt
      · exact he
      · intro hh; omega
  | func f caps captured hs _ ih => exact .func f caps captured hs ih
  | agg cs arr hs _ ih => exact .agg cs arr hs ih
  | tuple cs arr hs _ ih => exact .tuple cs arr hs ih

/-- The cells of a value stand to the cells of its worth. -/
theorem VR.cells {g : Gh} {w : World} {v : AV} {x : Value} (h : VR g w v x) (hj : v ≠ .junk) :
    v.cells.length = x.cells.size ∧ ∀ j (h : j < v.cells.length) (h' : j < x.cells.size), VR g w v.cells[j] x.cells[j] := by
  have one : ∀ {v : AV} {x : Value}, VR g w v x → v.cells = [v] → x.cells = #[x] →
      v.cells.length = x.cells.size ∧ ∀ j (h : j < v.cells.length) (h' : j < x.cells.size), VR g w v.cells[j] x.cells[j] := by
    intro v x h e1 e2
    refine ⟨by simp [e1, e2], fun j h1 h2 => ?_⟩
    have hj0 : j = 0 := by simp [e1] at h1; omega
    subst hj0
    simpa [e1, e2] using h
  cases h with
  | cl _ _ hd =>
    cases hd with
    | junk v => exact absurd rfl hj
    | val _ hp =>
      refine one (.cl _ _ (.val _ hp)) rfl ?_
      cases x <;> simp_all [plain, Value.cells]
    | fl b b' hb => exact one (.cl _ _ (.fl b b' hb)) rfl rfl
    | nils => exact one (.cl _ _ .nils) rfl rfl
    | inp cs b o f h1 h2 h3 => exact one (.cl _ _ (.inp cs b o f h1 h2 h3)) rfl rfl
    | slice0 k a cap => exact one (.cl _ _ (.slice0 k a cap)) rfl rfl
    | slice k els b o cap f h1 h2 h3 h4 h5 h6 => exact one (.cl _ _ (.slice k els b o cap f h1 h2 h3 h4 h5 h6)) rfl rfl
    | func f caps captured h1 h2 => exact one (.cl _ _ (.func f caps captured h1 h2)) rfl rfl
    | iface t v x h1 => exact one (.cl _ _ (.iface t v x h1)) rfl rfl
    | agg cs arr hs h2 => exact ⟨hs, fun j h h' => .cl _ _ (h2 j h h')⟩
    | tuple cs arr hs h2 => exact one (.cl _ _ (.tuple cs arr hs h2)) rfl rfl
  | varp i off b hb => exact one (.varp i off b hb) rfl rfl
  | extp i off b hb => exact one (.extp i off b hb) rfl rfl
  | own id k els x e hd hf hl he =>
    refine one (.own id k els x e hd hf hl he) rfl ?_
    cases hd <;> rfl
  | func f caps captured h1 h2 => exact one (.func f caps captured h1 h2) rfl rfl
  | agg cs arr hs h2 => exact ⟨hs, h2⟩
  | tuple cs arr hs h2 => exact one (.tuple cs arr hs h2) rfl rfl

/-- What is closed of a value: a slice that may be appended to is one that may only be read; a pointer to what is written is nothing. -/
def AV.cl0 : AV → AV
  | .slice (.own _) k els => .slice .non k els
  | .varp _ _ | .extp _ _ | .agg _ | .tuple _ | .func _ _ => .junk
  | v => v
def AV.cl1 : AV → AV
  | .func f caps => .func f (caps.map AV.cl0)
  | v => v.cl0
def AV.cl2 : AV → AV
  | .agg ds => .agg (ds.map AV.cl1)
  | v => v.cl1
def AV.cl : AV → AV
  | .tuple cs => .tuple (cs.map AV.cl2)
  | v => v.cl2

theorem VR.cl0_of {g : Gh} {w : World} {v : AV} {x : Value} (h : VR g w v x) : VD g.D w v.cl0 x := by
  cases h with
  | cl _ _ hd => cases hd <;> first | exact .junk _ | (unfold AV.cl0; constructor <;> assumption)
  | own id k els x e hd => exact hd
  | _ => exact .junk _

theorem VR.at_agg {g : Gh} {w : World} {cs : List AV} {x : Value} (h : VR g w (.agg cs) x) : ∃ arr : Array Value, x = .agg arr ∧ cs.length = arr.size ∧
    ∀ j (h : j < cs.length) (h' : j < arr.size), VR g w cs[j] arr[j] := by
  cases h with
  | cl _ _ hd => cases hd with
    | agg _ arr hs h2 => exact ⟨arr, rfl, hs, fun j h h' => .cl _ _ (h2 j h h')⟩
  | agg _ arr hs h2 => exact ⟨arr, rfl, hs, h2⟩
theorem VR.at_tuple {g : Gh} {w : World} {cs : List AV} {x : Value} (h : VR g w (.tuple cs) x) : ∃ arr : Array Value, x = .tuple arr ∧ cs.length = arr.size ∧
    ∀ j (h : j < cs.length) (h' : j < arr.size), VR g w cs[j] arr[j] := by
  cases h with
  | cl _ _ hd => cases hd with
    | tuple _ arr hs h2 => exact ⟨arr, rfl, hs, fun j h h' => .cl _ _ (h2 j h h')⟩
  | tuple _ arr hs h2 => exact ⟨arr, rfl, hs, h2⟩
theorem VR.at_func {g : Gh} {w : World} {f : FuncId} {cs : List AV} {x : Value} (h : VR g w (.func f cs) x) : ∃ arr : Array Value, x = .func (.func f) #[] arr ∧ cs.length = arr.size ∧
    ∀ j (h : j < cs.length) (h' : j < arr.size), VR g w cs[j] arr[j] := by
  cases h with
  | cl _ _ hd => cases hd with
    | func _ _ arr hs h2 => exact ⟨arr, rfl, hs, fun j h h' => .cl _ _ (h2 j h h')⟩
  | func _ _ arr hs h2 => exact ⟨arr, rfl, hs, h2⟩

theorem VR.cl1_of {g : Gh} {w : World} {v : AV} {x : Value} (h : VR g w v x) : VD g.D w v.cl1 x := by
  cases v with
  | func f caps =>
    obtain ⟨arr, rfl, hs, h2⟩ := h.at_func
    exact .func _ _ _ (by simpa using hs) fun j h h' => by
      simp only [List.getElem_map]
      exact (h2 j (by simpa using h) h').cl0_of
  | _ => exact h.cl0_of
theorem VR.cl2_of {g : Gh} {w : World} {v : AV} {x : Value} (h : VR g w v x) : VD g.D w v.cl2 x := by
  cases v with
  | agg ds =>
    obtain ⟨arr, rfl, hs, h2⟩ := h.at_agg
    exact .agg _ _ (by simpa using hs) fun j h h' => by
      simp only [List.getElem_map]
      exact (h2 j (by simpa using h) h').cl1_of
  | _ => exact h.cl1_of

theorem VR.cl_of {g : Gh} {w : World} {v : AV} {x : Value} (h : VR g w v x) : VD g.D w v.cl x := by
  cases v with
  | tuple ds =>
    obtain ⟨arr, rfl, hs, h2⟩ := h.at_tuple
    exact .tuple _ _ (by simpa using hs) fun j h h' => by
      simp only [List.getElem_map]
      exact (h2 j (by simpa using h) h').cl2_of
  | _ => exact h.cl2_of

/-! ### The state of a walk, and what it says of the machine's -/
/-- The state of a walk: the slots, newest first; the call's own variables (whether they are closed, their cells); the captured ones; the rows that may be appended to (their element's type, how many). -/
structure ASt where
  n : Nat
  tmps : List (Nat × AV)
  vars : List (Nat × (Bool × List AV))
  ext : List (List AV)
  fronts : List (Nat × (TypeId × Nat × Nat))

def look {α : Type} : List (Nat × α) → Nat → Option α
  | [], _ => none
  | (a, v) :: r, t => if a = t then some v else look r t

def ASt.get (st : ASt) (t : Nat) : AV := (look st.tmps t).getD .junk
def ASt.put (st : ASt) (t : Nat) (v : AV) : ASt := { st with tmps := (t, v) :: st.tmps }

/-- What a call came into: the world, what was closed, the captured variables' blocks. -/
structure Cx where
  w0 : World
  D0 : Foot
  eb : List Nat

/-- A block holds a variable of such cells. -/
def Blk (g : Gh) (w : World) (b : Nat) (cs : List AV) : Prop :=
  ∃ arr t, w.heap[b]? = some (.cells arr t (0, 0)) ∧ cs.length = arr.size ∧ ∀ j (h : j < cs.length) (h' : j < arr.size), VR g w cs[j] arr[j]

structure Since (c : Cx) (D : Foot) (w : World) : Prop where
  dx : DExt c.D0 c.w0 D w
  size : c.w0.heap.size ≤ w.heap.size
  frame : ∀ b, b < c.w0.heap.size → b ∉ c.eb → w.heap[b]? = c.w0.heap[b]?
  os : w.os = c.w0.os
  tape : w.tape = c.w0.tape
  output : w.output = c.w0.output
  new : ∀ b o, D b o → c.D0 b o ∨ c.w0.heap.size ≤ b

structure Inv (c : Cx) (g : Gh) (st : ASt) (w : World) : Prop where
  since : Since c g.D w
  eb : g.eb = c.eb
  nodup : c.eb.Nodup
  ebl : ∀ b, b ∈ c.eb → b < c.w0.heap.size
  vbl : ∀ i b, g.vb i = some b → c.w0.heap.size ≤ b
  frl : ∀ id e b, g.fr id = some e → e.v.ownBlock = some b → c.w0.heap.size ≤ b
  var : ∀ i z cs, look st.vars i = some (z, cs) → ∃ b, g.vb i = some b ∧ Blk g w b cs ∧ (z = true → (∀ o, o < cs.length → g.D b o) ∧ ∀ cs' , cs' ∈ cs → cs'.cl1 = cs') ∧ (z = false → ∀ o, ¬ g.D b o)
  vdom : ∀ i b, g.vb i = some b → (look st.vars i).isSome
  ext : st.ext.length = c.eb.length ∧ ∀ i (h : i < c.eb.length) (h' : i < st.ext.length), Blk g w c.eb[i] st.ext[i] ∧ ∀ o, ¬ g.D c.eb[i] o
  fr : ∀ id t k n, look st.fronts id = some (t, k, n) → ∃ e xs, g.fr id = some e ∧ e.len = n ∧ 0 < k ∧ w.ownsRow c.w0.heap.size t k e.v n xs ∧
    (∀ b o, e.v.ownBlock = some b → g.D b o → o < n * k)
  fdom : ∀ id e, g.fr id = some e → (look st.fronts id).isSome
  vinj : ∀ i j b, g.vb i = some b → g.vb j = some b → i = j
  finj : ∀ i j e e' b, g.fr i = some e → g.fr j = some e' → e.v.ownBlock = some b → e'.v.ownBlock = some b → i = j
  vf : ∀ i j b e, g.vb i = some b → g.fr j = some e → e.v.ownBlock ≠ some b
  dlt : ∀ b o, g.D b o → b < w.heap.size

/-- The slots stand so. -/
def Tm (g : Gh) (w : World) (st : ASt) (a : Act) : Prop := a.tmps.size = st.n ∧ ∀ t, VR g w (st.get t) (a.tmps.getD t undef)
end Go.Proofs.Eng
