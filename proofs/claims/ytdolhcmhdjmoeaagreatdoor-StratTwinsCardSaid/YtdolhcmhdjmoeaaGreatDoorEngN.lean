/- The walk by reckoning: what an operation comes to, told by a program that the kernel runs. -/
import Derived.Test.YtdolhcmhdjmoeaaGreatDoorEngM
set_option linter.unusedSimpArgs false
set_option linter.unusedVariables false
namespace Go.Proofs.Eng
open Go

def allP : List Prop → Prop
  | [] => True
  | p :: r => p ∧ allP r
theorem allP_app : ∀ (a b : List Prop), allP (a ++ b) ↔ allP a ∧ allP b
  | [], b => by simp [allP]
  | p :: a, b => by simp [allP, allP_app a b, and_assoc]

def TK.isBool : TK → Bool
  | .bool => true
  | _ => false
def TK.isNone : TK → Bool
  | .none => true
  | _ => false
def TK.isIface : TK → Bool
  | .iface => true
  | _ => false

theorem toList_data (s : ByteArray) : s.toList = s.data.toList := by
  have := Go.ByteArray.toList_eq s
  exact this

/-- Two operands. -/
def rbin (P : Program) (op : BinOp) (t : TypeId) : AV → AV → Option (List Prop × AV)
  | .val (.int k a), .val (.int k' b) =>
    if k = k' then match op with
      | .add => some ([], .val (.int k (k.wrap (a + b))))
      | .sub => some ([], .val (.int k (k.wrap (a - b))))
      | .mul => some ([], .val (.int k (k.wrap (a * b))))
      | .quo => some ([b ≠ 0], .val (.int k (k.wrap (a.tdiv b))))
      | .rem => some ([b ≠ 0], .val (.int k (a.tmod b)))
      | .and => some ([], .val (.int k (andI k a b)))
      | .andNot => some ([], .val (.int k (andNotI k a b)))
      | .or => some ([], .val (.int k (orI k a b)))
      | .eql => some ([], .val (.bool (decide (a = b))))
      | .neq => some ([], .val (.bool (decide (¬ a = b))))
      | .lss => some ([], .val (.bool (decide (a < b))))
      | .leq => some ([], .val (.bool (decide (a ≤ b))))
      | .gtr => some ([], .val (.bool (decide (b < a))))
      | .geq => some ([], .val (.bool (decide (b ≤ a))))
      | _ => none
    else none
  | .val (.string a), .val (.string b) => match op with
      | .add => some ([a.data.toList.length + b.data.toList.length ≤ 9223372036854775807], AV.str (a.data.toList ++ b.data.toList))
      | .eql => some ([], .val (.bool (decide (a.data.toList = b.data.toList))))
      | .neq => some ([], .val (.bool (decide (¬ a.data.toList = b.data.toList))))
      | .lss => some ([], .val (.bool (Op.bytesLess a.data.toList b.data.toList)))
      | .leq => some ([], .val (.bool (Op.bytesLess a.data.toList b.data.toList || decide (a.data.toList = b.data.toList))))
      | .gtr => some ([], .val (.bool (!(Op.bytesLess a.data.toList b.data.toList || decide (a.data.toList = b.data.toList)))))
      | .geq => some ([], .val (.bool (!Op.bytesLess a.data.toList b.data.toList)))
      | _ => none
  | .val (.bool a), .val (.bool b) => if (ty P t).k.isBool = true then match op with
      | .eql => some ([], .val (.bool (a == b)))
      | .neq => some ([], .val (.bool (!(a == b))))
      | _ => none
    else none
  | .fl a, .fl b => if BinOp.arith op = true then some ([], .fl (flArith op a b)) else match flCmp op a b with
    | some r => some ([], .val (.bool r))
    | none => none
  | .agg xs, .agg ys => match P.underlying t with
    | some (.struct fs) => if P.stoodInHeld t = false ∧ P.eqGuardType P.depth t = false then match seqF P xs ys fs.toList with
      | some r => match op with
        | .eql => some ([], .val (.bool r))
        | .neq => some ([], .val (.bool (!r)))
        | _ => none
      | none => none else none
    | _ => none
  | _, _ => none

theorem rbin_ok {P : Program} {op : BinOp} {t : TypeId} {x y : AV} {cs : List Prop} {v : AV} (h : rbin P op t x y = some (cs, v)) (hc : allP cs) {K : AV → Prop} (hk : K v) : abin P op t x y K := by
  unfold rbin at h
  split at h
  · split at h
    · rename_i k a k' b hkk
      subst hkk
      cases op <;> simp only [Option.some.injEq, Prod.mk.injEq, reduceCtorEq] at h <;> obtain ⟨rfl, rfl⟩ := h <;> simp_all [abin, vbin, allP]
    · cases h
  · rename_i a b
    cases op <;> simp only [Option.some.injEq, Prod.mk.injEq, reduceCtorEq] at h <;> obtain ⟨rfl, rfl⟩ := h <;> simp only [abin, vbin, toList_data] <;> try exact hk
    refine ⟨?_, ?_⟩
    · have := hc.1
      rw [Array.length_toList, Array.length_toList] at this
      exact this
    · have e : a ++ b = ⟨(a.data.toList ++ b.data.toList).toArray⟩ := by
        apply ByteArray.ext
        apply Array.ext'
        simp [ByteArray.data_append]
      rw [e]; exact hk
  · split at h
    · rename_i a b hb
      have hb' : (ty P t).k = .bool := by
        cases hh : (ty P t).k <;> simp_all [TK.isBool]
      cases op <;> simp only [Option.some.injEq, Prod.mk.injEq, reduceCtorEq] at h <;> obtain ⟨rfl, rfl⟩ := h <;> exact ⟨hb', hk⟩
    · cases h
  · split at h
    · rename_i ha
      cases h
      simp only [abin, ha, if_true]; exact hk
    · rename_i ha
      split at h
      · rename_i r hr
        cases h
        simp only [abin, ha, hr]; exact hk
      · cases h
  · split at h
    · rename_i fs hfs
      split at h
      · rename_i h1
        split at h
        · rename_i r hr
          split at h
          · cases h; simp only [abin, hfs, hr]; exact ⟨h1, hk⟩
          · cases h; simp only [abin, hfs, hr]; exact ⟨h1, hk⟩
          · cases h
        · cases h
      · cases h
    · cases h
  · cases h
end Go.Proofs.Eng
