/- What comes in, as worths; and a call that answers true, told to the row. -/
import Derived.Test.YtdolhcmhdjmoeaaGreatDoorEngR
import Derived.WalkKit
import Derived.ProofKit
import Derived.OpenShut
import Derived.ShutString
import Derived.ChangeOld
import Derived.Below
import Derived.Carry
import Derived.SizedLaws
import Derived.Laws.Cover2
set_option linter.unusedSimpArgs false
set_option linter.unusedVariables false
namespace Go.Proofs.Eng
open Go Go.RowKit

def allD (w : World) : Foot := fun b _ => b < w.heap.size

variable {H : Type} {enc : TypeId × Value → H} {P : Program} {w : World} {base : Nat} {spare : Nat → Bool} {held : Bool}

/-- Cells of a type come to worths of this kind. -/
def COp (enc : TypeId × Value → H) (P : Program) (w : World) (base : Nat) (spare : Nat → Bool) (held : Bool) (t : TypeId) (S : List AV → Prop) : Prop :=
  ∀ fuel cs x, DataW.trod enc P w base spare held fuel t cs = some x → ∃ avs : List AV, S avs ∧ avs.length = cs.length ∧ ∀ j (h : j < avs.length) (h' : j < cs.length), VD (allD w) w avs[j] cs[j]
def SOf {α : Type} (av : α → AV) (wf : α → Prop) : List AV → Prop := fun avs => ∃ y, wf y ∧ avs = (av y).cells

theorem cop_one {S : List AV → Prop} {v : AV} {x : Value} {cs : List Value} (hS : S [v]) (hc : cs = [x]) (hv : VD (allD w) w v x) :
    ∃ avs : List AV, S avs ∧ avs.length = cs.length ∧ ∀ j (h : j < avs.length) (h' : j < cs.length), VD (allD w) w avs[j] cs[j] := by
  subst hc
  refine ⟨[v], hS, rfl, fun j h h' => ?_⟩
  have : j = 0 := by simp at h; omega
  subst this; exact hv

theorem cop_int {t : TypeId} {k : IntKind} (ht : P.underlying t = some (.int k)) : COp enc P w base spare held t (SOf (AV.ik k) fun n => (Lit.int k n).wf = true) := by
  intro fuel cs x h
  obtain ⟨n, rfl, _, hw⟩ := DataW.trod_int ht h
  exact cop_one ⟨n, hw, rfl⟩ rfl (.val _ rfl)
theorem cop_bool {t : TypeId} (ht : P.underlying t = some .bool) : COp enc P w base spare held t (SOf AV.bool fun _ => True) := by
  intro fuel cs x h
  obtain ⟨n, rfl, _⟩ := DataW.trod_bool ht h
  exact cop_one ⟨n, trivial, rfl⟩ rfl (.val _ rfl)
theorem cop_str {t : TypeId} (ht : P.underlying t = some .string) : COp enc P w base spare held t (SOf AV.str fun s => s.length ≤ maxLen) := by
  intro fuel cs x h
  obtain ⟨s, rfl, _, hs⟩ := DataW.trod_string ht h
  refine cop_one ⟨s.data.toList, (show s.data.toList.length ≤ maxLen by rw [← size_data]; exact hs), rfl⟩ rfl ?_
  show VD _ _ (.val (.string ⟨s.data.toList.toArray⟩)) _
  rw [Array.toArray_toList]
  exact .val _ rfl
theorem cop_fl {t : TypeId} (ht : P.underlying t = some (.float .f64)) : COp enc P w base spare held t (SOf AV.fl fun b => (Lit.float .f64 b).wf = true) := by
  intro fuel cs x h
  have : ∃ b, cs = [.float .f64 b] ∧ (Lit.float .f64 b).wf = true := by
    cases fuel with
    | zero => simp [DataW.trod] at h
    | succ n =>
      unfold DataW.trod at h
      rw [ht] at h
      split at h <;> simp_all
  obtain ⟨b, rfl, hb⟩ := this
  exact cop_one ⟨b, hb, rfl⟩ rfl (.fl _ _ (.inl rfl))

theorem cells_some {a : Addr} {n : Nat} {cs : List Value} (h : w.cells? base a n = some cs) : cs.length = n ∧ ∀ j (hj : j < cs.length), w.cell? (a.add j) = some cs[j] := by
  unfold World.cells? at h
  split at h
  · have hl := mapM_some_length h
    have hl' : cs.length = n := by simpa using hl
    refine ⟨hl', fun j hj => ?_⟩
    have := mapM_some_get h j j (by rw [List.getElem?_range (by omega)])
    rw [this]
    exact List.getElem?_eq_getElem hj
  · cases h

theorem cop_slice {α : Type} {t e : TypeId} {k : Nat} {av : α → AV} {wf : α → Prop} (ht : P.underlying t = some (.slice e)) (hk : P.cellsOf e = k) (h0 : 0 < k) (hav : ∀ y, (av y).cells.length = k ∧ (av y).cells.all AV.cellOk = true)
    (he : COp enc P w base spare held e (SOf av wf)) : COp enc P w base spare held t (SOf (AV.lst k av) fun l => l.length ≤ maxLen ∧ ∀ y ∈ l, wf y) := by
  intro fuel cs x h
  rcases DataW.trod_slice ht h with ⟨rfl, _⟩ | ⟨a, len, cap, elems, rest, n, _, rfl, _, hb, hle, hcm, hel, hat, _⟩
  · exact cop_one ⟨[], ⟨Nat.zero_le _, fun y hy => by cases hy⟩, rfl⟩ rfl (.slice0 _ _ _)
  · by_cases hl0 : len = 0
    · subst hl0
      exact cop_one ⟨[], ⟨Nat.zero_le _, fun y hy => by cases hy⟩, rfl⟩ rfl (.slice0 _ _ _)
    · have hone : ∀ i, i < len → ∃ (y : α) (cs' : List Value), wf y ∧ w.cells? base (a.add (i * k)) k = some cs' ∧ (av y).cells.length = cs'.length ∧ ∀ j (h : j < (av y).cells.length) (h' : j < cs'.length), VD (allD w) w (av y).cells[j] cs'[j] := by
        intro i hi
        have h1 := hat i hi
        rw [hk] at h1
        rw [List.getElem?_eq_getElem (by omega)] at h1
        obtain ⟨cs', h2, h3⟩ := Option.bind_eq_some_iff.1 h1
        obtain ⟨avs, ⟨y, hy, rfl⟩, h4, h5⟩ := he _ _ _ h3
        exact ⟨y, cs', hy, h2, h4, h5⟩
      have hch : ∃ l : List α, l.length = len ∧ ∀ i (hi : i < l.length), wf l[i] ∧ ∃ cs' : List Value, w.cells? base (a.add (i * k)) k = some cs' ∧ (av l[i]).cells.length = cs'.length ∧ ∀ j (h : j < (av l[i]).cells.length) (h' : j < cs'.length), VD (allD w) w (av l[i]).cells[j] cs'[j] := by
        clear hat hel hle hl0 h
        rename_i hr1 hr2
        clear hr2
        induction len with
        | zero => exact ⟨[], rfl, fun i hi => by cases hi⟩
        | succ m ih =>
          obtain ⟨l, h1, h2⟩ := ih (fun i hi => hone i (by omega))
          obtain ⟨y, cs', h3, h4, h5, h6⟩ := hone m (by omega)
          refine ⟨l ++ [y], by simp [h1], fun i hi => ?_⟩
          by_cases hlt : i < l.length
          · simp only [List.getElem_append_left hlt]
            exact h2 i hlt
          · have : i = l.length := by simp at hi; omega
            subst this
            simp only [List.getElem_concat_length]
            have h4' : w.cells? base (a.add (l.length * k)) k = some cs' := by rw [h1]; exact h4
            exact ⟨h3, cs', h4', h5, h6⟩
      obtain ⟨l, hll, hl⟩ := hch
      have hspot : a.spot = none := by
        obtain ⟨_, cs', h1, h2, _⟩ := hl 0 (by omega)
        obtain ⟨h3, h4⟩ := cells_some h1
        have h5 := h4 0 (by omega)
        unfold World.cell? at h5
        split at h5
        · split at h5
          · cases h5
          · rename_i hs; simpa [Addr.add] using hs
        · cases h5
      obtain ⟨blk, off, sp⟩ := a
      simp only at hspot
      subst hspot
      have hcell : ∀ i j (hi : i < l.length), j < k → ∃ v, w.cell? ⟨blk, off + (i * k + j), none⟩ = some v ∧ ∀ (hj : j < (av l[i]).cells.length), VD (allD w) w (av l[i]).cells[j] v := by
        intro i j hi hj
        obtain ⟨_, cs', h1, h2, h3⟩ := hl i hi
        obtain ⟨h4, h5⟩ := cells_some h1
        have h6 := h5 j (by omega)
        refine ⟨cs'[j]'(by omega), ?_, fun hjj => h3 j hjj (by omega)⟩
        rw [← h6, Addr.add_lit, Addr.add_lit, Nat.add_assoc]
      refine cop_one ⟨l, ⟨by omega, fun y hy => ?_⟩, rfl⟩ rfl ?_
      · obtain ⟨i, hi, rfl⟩ := List.getElem_of_mem hy
        exact (hl i hi).1
      · have hlt : blk < w.heap.size := by
          obtain ⟨v, hv, _⟩ := hcell 0 0 (by omega) h0
          exact World.block_lt_of_cell? w _ hv
        have q1 : (l.map av).length ≤ cap := by rw [List.length_map]; omega
        have q2 : ∀ i (h : i < (l.map av).length), ((l.map av)[i]).cells.length = k ∧ ((l.map av)[i]).cells.all AV.cellOk = true := by
          intro i h
          simp only [List.getElem_map]
          exact hav _
        have q3 : ∀ i j, i < (l.map av).length → j < k → w.cell? ⟨blk, off + (i * k + j), none⟩ = some ((w.cell? ⟨blk, off + (i * k + j), none⟩).getD Go.undef) := by
          intro i j hi hj
          obtain ⟨v, hv, _⟩ := hcell i j (by simpa using hi) hj
          rw [hv]; rfl
        have q4 : ∀ i (hi : i < (l.map av).length) j (hj : j < ((l.map av)[i]).cells.length), VD (allD w) w (((l.map av)[i]).cells[j]) ((w.cell? ⟨blk, off + (i * k + j), none⟩).getD Go.undef) := by
          intro i hi j hj
          have hi' : i < l.length := by simpa using hi
          simp only [List.getElem_map] at hj ⊢
          obtain ⟨v, hv, hvd⟩ := hcell i j hi' (by rw [(hav _).1] at hj; exact hj)
          rw [hv]
          exact hvd hj
        have hv := VD.slice (D := allD w) (w := w) k (l.map av) blk off cap (fun i j => (w.cell? ⟨blk, off + (i * k + j), none⟩).getD Go.undef) q1 hcm q2 (fun i j _ _ => hlt) q3 q4
        rw [List.length_map, hll] at hv
        exact hv

/-- Parts, one behind another. -/
def Parts : List (List AV → Prop) → List AV → Prop
  | [], avs => avs = []
  | S :: r, avs => ∃ a b, avs = a ++ b ∧ S a ∧ Parts r b
def contig (P : Program) : Nat → List Field → Nat → Bool
  | o, [], n => o == n
  | o, f :: r, n => f.offset == o && contig P (o + P.cellsOf f.type) r n
def CAll (enc : TypeId × Value → H) (P : Program) (w : World) (base : Nat) (spare : Nat → Bool) (held : Bool) : List Field → List (List AV → Prop) → Prop
  | [], [] => True
  | f :: r, S :: q => COp enc P w base spare held f.type S ∧ CAll enc P w base spare held r q
  | _, _ => False

theorem cop_parts {cs : List Value} {n : Nat} : ∀ (L : List Field) (Ss : List (List AV → Prop)) (o : Nat), contig P o L cs.length = true → o ≤ cs.length → CAll enc P w base spare held L Ss →
    (∀ f ∈ L, ∃ x, DataW.trod enc P w base spare held n f.type ((cs.drop f.offset).take (P.cellsOf f.type)) = some x) →
    ∃ avs : List AV, Parts Ss avs ∧ avs.length = cs.length - o ∧ ∀ j (h : j < avs.length) (h' : o + j < cs.length), VD (allD w) w avs[j] cs[o + j]
  | [], [], o, hc, ho, _, _ => by
    simp only [contig, beq_iff_eq] at hc
    exact ⟨[], rfl, by simp; omega, fun j h => by simp at h⟩
  | f :: r, S :: q, o, hc, ho, hall, hx => by
    simp only [contig, Bool.and_eq_true, beq_iff_eq] at hc
    obtain ⟨hof, hc⟩ := hc
    obtain ⟨x, hx0⟩ := hx f (by simp)
    rw [hof] at hx0
    obtain ⟨a, hSa, hal, hav⟩ := hall.1 _ _ _ hx0
    have hle : o + P.cellsOf f.type ≤ cs.length := by
      have : ∀ (L : List Field) (o n : Nat), contig P o L n = true → o ≤ n := by
        intro L
        induction L with
        | nil => intro o n h; simp [contig] at h; omega
        | cons g r ih => intro o n h; simp only [contig, Bool.and_eq_true] at h; have := ih _ _ h.2; omega
      exact this r _ _ hc
    obtain ⟨b, hSb, hbl, hbv⟩ := cop_parts r q (o + P.cellsOf f.type) hc hle hall.2 (fun g hg => hx g (by simp [hg]))
    have hal' : a.length = P.cellsOf f.type := by rw [hal]; simp; omega
    refine ⟨a ++ b, ⟨a, b, rfl, hSa, hSb⟩, by simp; omega, fun j h h' => ?_⟩
    by_cases hj : j < a.length
    · rw [List.getElem_append_left hj]
      have := hav j hj (by omega)
      simpa using this
    · rw [List.getElem_append_right (by omega)]
      have := hbv (j - a.length) (by simp at h; omega) (by simp at h; omega)
      have e : o + P.cellsOf f.type + (j - a.length) = o + j := by omega
      simpa only [e] using this
  | [], _ :: _, _, _, _, h, _ => h.elim
  | _ :: _, [], _, _, _, h, _ => h.elim

theorem cop_struct {t : TypeId} {fs : Array Field} {Ss : List (List AV → Prop)} {S : List AV → Prop} (ht : P.underlying t = some (.struct fs)) (hc : contig P 0 fs.toList (P.cellsOf t) = true) (hall : CAll enc P w base spare held fs.toList Ss)
    (hS : ∀ avs, Parts Ss avs → S avs) : COp enc P w base spare held t S := by
  intro fuel cs x h
  obtain ⟨xs, n, _, _, hl, hxl, hx⟩ := DataW.trod_struct ht h
  obtain ⟨avs, h1, h2, h3⟩ := cop_parts (cs := cs) (n := n) fs.toList Ss 0 (by rw [hl]; exact hc) (Nat.zero_le _) hall (fun f hf => by
    obtain ⟨i, hi, rfl⟩ := List.getElem_of_mem hf
    have hi' : i < fs.size := by simpa using hi
    have := hx i fs[i] (Array.getElem?_eq_getElem hi')
    rw [List.getElem?_eq_getElem (by omega)] at this
    exact ⟨_, by simpa using this⟩)
  exact ⟨avs, hS avs h1, by simpa using h2, fun j h h' => by simpa using h3 j h (by simpa using h')⟩

/-! ### An argument -/
def gAll (w : World) : Gh := (⟨w, allD w, []⟩ : Cx).g0

theorem arg_cell {α : Type} {t : TypeId} {av : α → AV} {wf : α → Prop} (hc : COp enc P w base spare held t (SOf av wf)) (h1 : ∀ y, (av y).cells = [av y]) {v : Value} {d : DataW H} {ps : List MemPlace} (hd : DataW.Trod enc P w base spare held t v d ps) (hv : v.cells = #[v]) :
    ∃ y, wf y ∧ VR (gAll w) w (av y) v := by
  obtain ⟨fuel, hf⟩ := hd
  obtain ⟨avs, ⟨y, hy, rfl⟩, h2, h3⟩ := hc _ _ _ hf
  refine ⟨y, hy, .cl _ _ ?_⟩
  show VD (allD w) w _ _
  have := h3 0 (by rw [h1]; simp) (by rw [hv]; simp)
  simpa [h1, hv] using this
theorem arg_agg {α : Type} {t : TypeId} {av : α → AV} {wf : α → Prop} (hc : COp enc P w base spare held t (SOf av wf)) (h1 : ∀ y, av y = .agg (av y).cells) {v : Value} {d : DataW H} {ps : List MemPlace} (hd : DataW.Trod enc P w base spare held t v d ps) {arr : Array Value} (hv : v = .agg arr) :
    ∃ y, wf y ∧ VR (gAll w) w (av y) v := by
  subst hv
  obtain ⟨fuel, hf⟩ := hd
  obtain ⟨avs, ⟨y, hy, rfl⟩, h2, h3⟩ := hc _ _ _ hf
  refine ⟨y, hy, .cl _ _ ?_⟩
  rw [h1]
  refine .agg _ arr (by simpa [Value.cells] using h2) fun j h h' => ?_
  have := h3 j h (by simpa [Value.cells] using h')
  show VD (allD w) w _ _
  simpa [Value.cells] using this

/-- The call itself. -/
theorem Det.walk {f : FuncId} {args : List AV} (h : Det P f args (.ret (AV.bool true))) (hent : ∀ (args : Array Value) (w : World), (callFunc f args).run P w = .ok (.enter f args) w) {cargs : Array Value} (hl : args.length = cargs.size)
    (hv : ∀ j (h : j < args.length) (h' : j < cargs.size), VR (gAll w) w args[j] cargs[j]) : Calls P f cargs w fun e w' => e = .returned (.bool true) ∧ Below w.heap.size w w' := by
  have hc := h ⟨w, allD w, []⟩ cargs ⟨List.nodup_nil, fun b hb => by simp at hb, rfl, fun i h => by simp at h, fun b o h => h⟩ hl hv
  unfold CallsTo at hc
  rw [hent] at hc
  refine hc.mono ?_
  rintro e w' ⟨out, ext', D', rfl, hlf, ho⟩
  cases e with
  | returned x =>
    refine ⟨?_, hlf.since.os, hlf.since.tape, hlf.since.output, hlf.since.size, fun b hb => hlf.since.frame b hb (by simp)⟩
    have ho : VD D' w' (AV.bool true) x := ho
    unfold AV.bool at ho
    cases ho with
    | val _ _ => rfl
  | _ => exact ho.elim
end Go.Proofs.Eng
