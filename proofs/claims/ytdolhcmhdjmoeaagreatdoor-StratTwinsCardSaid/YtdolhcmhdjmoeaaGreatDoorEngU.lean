/- A region that ends in the text's own panic. -/
import Derived.Test.YtdolhcmhdjmoeaaGreatDoorEngT
import Derived.WalkSmall
set_option linter.unusedSimpArgs false
set_option linter.unusedVariables false
namespace Go.Proofs.Eng
open Go

def rpanOp (P : Program) (keep : Nat → Bool) (ops : Array Oper) (hs : List (Nat × AV)) (gs : List (Nat × Bool)) (m : Nat) (v : AV) (st : ASt) : Option (List Prop × ASt) :=
  match rops P keep ops hs gs (ops.toList.take m) 0 st, ops[m]? with
  | some (c1, st1), some o => match o with
    | { op := .panic x, guard := none, .. } => match st1.ev x with
      | .iface t u => some ([(.iface t u = v)] ++ c1, st1.trim [])
      | _ => none
    | _ => none
  | _, _ => none

section
variable {P : Program} {Q : Exit → ASt → Prop} {Qp : AV → ASt → Prop} {st st' : ASt} {id : Nat} {ops : Array Oper} {cs : List Prop}

theorem awp_panOp (keep : Nat → Bool) (hs : List (Nat × AV)) (gs : List (Nat × Bool)) (m : Nat) {v : AV} (h : rpanOp P keep ops hs gs m v st = some (cs, st')) (hc : allP cs) (hN : Qp v st') : awp P (.region id ops false) Q Qp st := by
  unfold rpanOp at h
  split at h
  · rename_i c1 st1 o hr ho
    split at h
    · rename_i dst x typ pos after
      split at h
      · rename_i t u hx
        cases h
        obtain ⟨rfl, hc1⟩ := hc
        refine awp_trimP [] ?_
        intro c g w a hi hm hd
        have hms : m < ops.size := (Array.getElem?_eq_some_iff.1 ho).1
        refine wp_region ?_
        rw [range_split ops hms]
        refine aops_wp2 (keep := keep) (K := fun s => s = st1) ?_ _ st g w a hi hm hd (by rw [take_fm ops (by omega)]; exact rops_ok _ _ _ hr hc1 rfl)
        rintro s g1 w1 a1 hi1 hm1 hd1 rfl
        unfold wpOps
        simp only [ho, Region.wanted, if_true]
        left
        have hv := ev_vr hm1 x
        rw [hx] at hv
        have he : ∃ y, a1.eval x = .iface t y := by
          generalize a1.eval x = z at hv
          cases hv with
          | cl _ _ hdv => cases hdv with | iface _ _ y hy => exact ⟨y, rfl⟩
        obtain ⟨y, he⟩ := he
        have hrun : (execOp a1.eval { dst := dst, op := .panic x, type := typ, pos := pos, after := after, guard := none }).run P w1 = .halt (.panic (.iface t y)) w1 := by
          simp [execOp, he, run_panic_iface]
        unfold Oper.wp
        rw [hrun]
        simp only [Oper.upon]
        rw [he] at hv
        exact ⟨_, g1, hi1, hm1, hd1, _, _, rfl, hv, hN⟩
      · cases h
    · cases h
  · cases h

def rpanT (P : Program) (keep : Nat → Bool) (ops : Array Oper) (hs : List (Nat × AV)) (gs : List (Nat × Bool)) (m : Nat) (v : AV) (st : ASt) : Option (List Prop × ASt) :=
  match rpan P keep ops hs gs m v st with
  | some (cs, st') => some (cs, st'.trim [])
  | none => none
theorem awp_panT (keep : Nat → Bool) (hs : List (Nat × AV)) (gs : List (Nat × Bool)) (m : Nat) {v : AV} (h : rpanT P keep ops hs gs m v st = some (cs, st')) (hc : allP cs) (hN : Qp v st') : awp P (.region id ops false) Q Qp st := by
  unfold rpanT at h
  split at h
  · rename_i c s hr
    cases h
    exact awp_trimP [] (awp_pan keep hs gs m hr hc hN)
  · cases h
end

/-! ### What a function that may stop comes to -/
def Res.out {α : Type} (k : TypeId) (f : α → AV) : Res α → AOut
  | .ret v => .ret (f v)
  | .stop e => .panic (.iface k (.agg [AV.int e]))
def thn {α β : Type} (x : Option (Res α)) (f : α → Option (Res β)) : Option (Res β) :=
  match x with
  | some (.ret y) => f y
  | some (.stop e) => some (.stop e)
  | none => none
theorem thn_some {α β : Type} {x : Option (Res α)} {f : α → Option (Res β)} {r : Res β} (h : thn x f = some r) : (∃ e, x = some (.stop e) ∧ r = .stop e) ∨ (∃ y, x = some (.ret y) ∧ f y = some r) := by
  unfold thn at h
  split at h
  · exact .inr ⟨_, rfl, h⟩
  · cases h; exact .inl ⟨_, rfl, rfl⟩
  · cases h
end Go.Proofs.Eng
