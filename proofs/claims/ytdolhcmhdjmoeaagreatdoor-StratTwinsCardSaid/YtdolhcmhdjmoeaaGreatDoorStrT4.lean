/- Printed walks and contracts. -/
import Derived.Test.YtdolhcmhdjmoeaaGreatDoorStrT3
set_option linter.unusedSimpArgs false
set_option linter.unusedVariables false
set_option maxRecDepth 100000
namespace Go.Proofs.Eng
open Go Go.Proofs Go.Sort
-- state.Used
def F55 (a0 : State) (a1 : Str) : Option ((List Amount) × Int) :=
  if (!((nodeFind a0.Nodes a1).2)) = true then (some (([] : (List Amount)), 3)) else ((onF a0 a1).bind fun x11_2 => (F153 x11_2 (fun y0 => F154 y0)).bind fun x11_3 => some (x11_3.1, x11_3.2))
/-- ballast/state.Used -/
theorem c55 (a0 : State) (a1 : Str) (r : ((List Amount) × Int)) (h : F55 a0 a1 = some r) :
    Det Tryz.prog 55 [State.av a0, AV.str a1] (.ret (.tuple [AV.lst 2 Amount.av r.1, AV.int r.2])) := by
  refine Det.of_le ?_
  refine @calls_of_body Tryz.prog 55 Tryz.f55 _ Tryz.func55 rfl (by kernel_rfl) [.tmp 4, .tmp 5] (by rw [Tryz.results55]) 23 Tryz.ntmps55 _ _ _ (by simp only [List.length_cons, List.length_nil]; decide) ?_
  unfold F55 at h
  refine awp_sr kpNone [] [] [1, 2] (cs := []) (st' := ⟨23, [(1, AV.str a1), (2, .varp 2 0)], [(2, (false, a0.cs))], [], []⟩) (by kernel_rfl) trivial ?_
  refine awp_seq fun N3 hN3 => ?_
  refine awp_sr kpNone [(3, .tuple [Node.av ((nodeFind a0.Nodes a1).1), AV.bool ((nodeFind a0.Nodes a1).2)])] [] [1, 2, 7] (cs := [(Det Tryz.prog 115 [AV.lst 5 Node.av a0.Nodes, AV.str a1] (.ret (.tuple [Node.av ((nodeFind a0.Nodes a1).1), AV.bool ((nodeFind a0.Nodes a1).2)])))]) (st' := ⟨23, [(1, AV.str a1), (2, .varp 2 0), (7, AV.bool ((nodeFind a0.Nodes a1).2))], [(6, (false, [AV.str (((nodeFind a0.Nodes a1).1).Name), AV.lst 2 Amount.av (((nodeFind a0.Nodes a1).1).Cap), AV.lst 2 Pair.av (((nodeFind a0.Nodes a1).1).Labels), AV.lst 3 Taint.av (((nodeFind a0.Nodes a1).1).Taints), AV.bool (((nodeFind a0.Nodes a1).1).Cordon)])), (2, (false, a0.cs))], [], []⟩) (by kernel_rfl) ⟨d115 a0.Nodes a1, trivial⟩ ?_
  refine awp_sr kpNone [] [] [1, 2, 16] (cs := []) (st' := ⟨23, [(1, AV.str a1), (2, .varp 2 0), (16, AV.bool (!((nodeFind a0.Nodes a1).2)))], [(6, (false, [AV.str (((nodeFind a0.Nodes a1).1).Name), AV.lst 2 Amount.av (((nodeFind a0.Nodes a1).1).Cap), AV.lst 2 Pair.av (((nodeFind a0.Nodes a1).1).Labels), AV.lst 3 Taint.av (((nodeFind a0.Nodes a1).1).Taints), AV.bool (((nodeFind a0.Nodes a1).1).Cordon)])), (2, (false, a0.cs))], [], []⟩) (by kernel_rfl) trivial ?_
  refine awp_cond (t := (!((nodeFind a0.Nodes a1).2))) rfl (fun hb => ?_) (fun hb => ?_)
  · rw [if_pos hb] at h
    refine awp_sr kpNone [] [] [4, 5] (cs := []) (st' := ⟨23, [(4, .nils), (5, AV.int 3)], [(6, (false, [AV.str (((nodeFind a0.Nodes a1).1).Name), AV.lst 2 Amount.av (((nodeFind a0.Nodes a1).1).Cap), AV.lst 2 Pair.av (((nodeFind a0.Nodes a1).1).Labels), AV.lst 3 Taint.av (((nodeFind a0.Nodes a1).1).Taints), AV.bool (((nodeFind a0.Nodes a1).1).Cordon)])), (2, (false, a0.cs))], [], []⟩) (by kernel_rfl) trivial ?_
    have h := Option.some.inj h
    subst h
    exact awp_ret ⟨[.nils, AV.int 3], by kernel_rfl, Lw.tupleL ⟨(Lw.nils _), (Lw.refl _), trivial⟩⟩
  · rw [if_false hb] at h
    refine awp_skip ?_
    refine hN3 _ ?_
    obtain ⟨x11_2, hx11_2, h⟩ := Option.bind_eq_some_iff.1 h
    obtain ⟨x11_3, hx11_3, h⟩ := Option.bind_eq_some_iff.1 h
    refine awp_sr kpNone [(2, AV.lst 11 Pod.av x11_2), (3, .tuple [AV.lst 2 Amount.av x11_3.1, AV.int x11_3.2])] [] [4, 5] (cs := [(Det Tryz.prog 50 [State.av a0, AV.str a1] (.ret (AV.lst 11 Pod.av x11_2))), (Det Tryz.prog 153 [AV.lst 11 Pod.av x11_2, .func 154 []] (.ret (.tuple [AV.lst 2 Amount.av x11_3.1, AV.int x11_3.2])))]) (st' := ⟨23, [(4, AV.lst 2 Amount.av x11_3.1), (5, AV.int x11_3.2)], [(6, (false, [AV.str (((nodeFind a0.Nodes a1).1).Name), AV.lst 2 Amount.av (((nodeFind a0.Nodes a1).1).Cap), AV.lst 2 Pair.av (((nodeFind a0.Nodes a1).1).Labels), AV.lst 3 Taint.av (((nodeFind a0.Nodes a1).1).Taints), AV.bool (((nodeFind a0.Nodes a1).1).Cordon)])), (2, (false, a0.cs))], [], []⟩) (by kernel_rfl) ⟨d50 a0 a1 _ hx11_2, c153 x11_2 (fun y0 => F154 y0) 154 (fun y0 _ hy => c154 y0 _ hy) _ hx11_3, trivial⟩ ?_
    have h := Option.some.inj h
    subst h
    exact awp_ret ⟨[AV.lst 2 Amount.av x11_3.1, AV.int x11_3.2], by kernel_rfl, Lw.refl _⟩


-- ratio.Of
def F91 (a0 : Int) (a1 : Int) : Option Nat :=
  some (flArith .quo (FloatKind.nearest .f64 a0) (FloatKind.nearest .f64 a1))
/-- ballast/ratio.Of -/
theorem c91 (a0 : Int) (a1 : Int) (r : Nat) (h : F91 a0 a1 = some r) :
    Det Tryz.prog 91 [AV.int a0, AV.int a1] (.ret (AV.fl r)) := by
  refine Det.of_le ?_
  refine @calls_of_body Tryz.prog 91 Tryz.f91 _ Tryz.func91 rfl (by kernel_rfl) [.tmp 4] (by rw [Tryz.results91]) 10 Tryz.ntmps91 _ _ _ (by simp only [List.length_cons, List.length_nil]; decide) ?_
  unfold F91 at h
  refine awp_sr kpNone [] [] [0, 1] (cs := []) (st' := ⟨10, [(0, AV.int a0), (1, AV.int a1)], [], [], []⟩) (by kernel_rfl) trivial ?_
  refine awp_sr kpNone [] [] [4] (cs := []) (st' := ⟨10, [(4, AV.fl (flArith .quo (FloatKind.nearest .f64 a0) (FloatKind.nearest .f64 a1)))], [], [], []⟩) (by kernel_rfl) trivial ?_
  have h := Option.some.inj h
  subst h
  exact awp_ret ⟨[AV.fl (flArith .quo (FloatKind.nearest .f64 a0) (FloatKind.nearest .f64 a1))], by kernel_rfl, Lw.refl _⟩


-- score.Usage
def F279 (a0 : State) (a1 : Str) (a2 : Str) : Option Nat :=
  if (!((nodeFind a0.Nodes a1).2)) = true then ((F309).bind fun x9_0 => some x9_0) else ((F55 a0 a1).bind fun x11_2 => (F78 x11_2.1 a2).bind fun x13_2 => (F78 (((nodeFind a0.Nodes a1).1).Cap) a2).bind fun x13_6 => (F91 x13_2 x13_6).bind fun x13_7 => some x13_7)
/-- ballast/score.Usage -/
theorem c279 (a0 : State) (a1 : Str) (a2 : Str) (r : Nat) (h : F279 a0 a1 a2 = some r) :
    Det Tryz.prog 279 [State.av a0, AV.str a1, AV.str a2] (.ret (AV.fl r)) := by
  refine Det.of_le ?_
  refine @calls_of_body Tryz.prog 279 Tryz.f279 _ Tryz.func279 rfl (by kernel_rfl) [.tmp 6] (by rw [Tryz.results279]) 35 Tryz.ntmps279 _ _ _ (by simp only [List.length_cons, List.length_nil]; decide) ?_
  unfold F279 at h
  refine awp_sr kpNone [] [] [1, 2, 3] (cs := []) (st' := ⟨35, [(1, AV.str a1), (2, AV.str a2), (3, .varp 3 0)], [(3, (false, a0.cs))], [], []⟩) (by kernel_rfl) trivial ?_
  refine awp_sr kpNone [(3, .tuple [Node.av ((nodeFind a0.Nodes a1).1), AV.bool ((nodeFind a0.Nodes a1).2)])] [] [1, 2, 3, 7, 8] (cs := [(Det Tryz.prog 115 [AV.lst 5 Node.av a0.Nodes, AV.str a1] (.ret (.tuple [Node.av ((nodeFind a0.Nodes a1).1), AV.bool ((nodeFind a0.Nodes a1).2)])))]) (st' := ⟨35, [(1, AV.str a1), (2, AV.str a2), (3, .varp 3 0), (7, .varp 7 0), (8, AV.bool ((nodeFind a0.Nodes a1).2))], [(7, (false, [AV.str (((nodeFind a0.Nodes a1).1).Name), AV.lst 2 Amount.av (((nodeFind a0.Nodes a1).1).Cap), AV.lst 2 Pair.av (((nodeFind a0.Nodes a1).1).Labels), AV.lst 3 Taint.av (((nodeFind a0.Nodes a1).1).Taints), AV.bool (((nodeFind a0.Nodes a1).1).Cordon)])), (3, (false, a0.cs))], [], []⟩) (by kernel_rfl) ⟨d115 a0.Nodes a1, trivial⟩ ?_
  refine awp_seq fun N5 hN5 => ?_
  refine awp_sr kpNone [] [] [1, 2, 3, 7, 19] (cs := []) (st' := ⟨35, [(1, AV.str a1), (2, AV.str a2), (3, .varp 3 0), (7, .varp 7 0), (19, AV.bool (!((nodeFind a0.Nodes a1).2)))], [(7, (false, [AV.str (((nodeFind a0.Nodes a1).1).Name), AV.lst 2 Amount.av (((nodeFind a0.Nodes a1).1).Cap), AV.lst 2 Pair.av (((nodeFind a0.Nodes a1).1).Labels), AV.lst 3 Taint.av (((nodeFind a0.Nodes a1).1).Taints), AV.bool (((nodeFind a0.Nodes a1).1).Cordon)])), (3, (false, a0.cs))], [], []⟩) (by kernel_rfl) trivial ?_
  refine awp_cond (t := (!((nodeFind a0.Nodes a1).2))) rfl (fun hb => ?_) (fun hb => ?_)
  · rw [if_pos hb] at h
    obtain ⟨x9_0, hx9_0, h⟩ := Option.bind_eq_some_iff.1 h
    refine awp_sr kpNone [(0, AV.fl x9_0)] [] [6] (cs := [(Det Tryz.prog 309 [] (.ret (AV.fl x9_0)))]) (st' := ⟨35, [(6, AV.fl x9_0)], [(7, (false, [AV.str (((nodeFind a0.Nodes a1).1).Name), AV.lst 2 Amount.av (((nodeFind a0.Nodes a1).1).Cap), AV.lst 2 Pair.av (((nodeFind a0.Nodes a1).1).Labels), AV.lst 3 Taint.av (((nodeFind a0.Nodes a1).1).Taints), AV.bool (((nodeFind a0.Nodes a1).1).Cordon)])), (3, (false, a0.cs))], [], []⟩) (by kernel_rfl) ⟨c309  _ hx9_0, trivial⟩ ?_
    have h := Option.some.inj h
    subst h
    exact awp_ret ⟨[AV.fl x9_0], by kernel_rfl, Lw.refl _⟩
  · rw [if_false hb] at h
    refine awp_skip ?_
    refine hN5 _ ?_
    obtain ⟨x11_2, hx11_2, h⟩ := Option.bind_eq_some_iff.1 h
    refine awp_sr kpNone [(2, .tuple [AV.lst 2 Amount.av x11_2.1, AV.int x11_2.2])] [] [2, 7, 9] (cs := [(Det Tryz.prog 55 [State.av a0, AV.str a1] (.ret (.tuple [AV.lst 2 Amount.av x11_2.1, AV.int x11_2.2])))]) (st' := ⟨35, [(2, AV.str a2), (7, .varp 7 0), (9, AV.lst 2 Amount.av x11_2.1)], [(7, (false, [AV.str (((nodeFind a0.Nodes a1).1).Name), AV.lst 2 Amount.av (((nodeFind a0.Nodes a1).1).Cap), AV.lst 2 Pair.av (((nodeFind a0.Nodes a1).1).Labels), AV.lst 3 Taint.av (((nodeFind a0.Nodes a1).1).Taints), AV.bool (((nodeFind a0.Nodes a1).1).Cordon)])), (3, (false, a0.cs))], [], []⟩) (by kernel_rfl) ⟨c55 a0 a1 _ hx11_2, trivial⟩ ?_
    refine awp_seq fun N12 hN12 => ?_
    obtain ⟨x13_2, hx13_2, h⟩ := Option.bind_eq_some_iff.1 h
    obtain ⟨x13_6, hx13_6, h⟩ := Option.bind_eq_some_iff.1 h
    obtain ⟨x13_7, hx13_7, h⟩ := Option.bind_eq_some_iff.1 h
    refine awp_regD mixedTryz kpNone [(2, AV.int x13_2), (6, AV.int x13_6), (7, AV.fl x13_7)] [] [6] (by kernel_rfl) (cs := [(Det Tryz.prog 78 [AV.lst 2 Amount.av x11_2.1, AV.str a2] (.ret (AV.int x13_2))), (Det Tryz.prog 78 [AV.lst 2 Amount.av (((nodeFind a0.Nodes a1).1).Cap), AV.str a2] (.ret (AV.int x13_6))), (Det Tryz.prog 91 [AV.int x13_2, AV.int x13_6] (.ret (AV.fl x13_7)))]) (st' := ⟨35, [(6, AV.fl x13_7)], [(7, (false, [AV.str (((nodeFind a0.Nodes a1).1).Name), AV.lst 2 Amount.av (((nodeFind a0.Nodes a1).1).Cap), AV.lst 2 Pair.av (((nodeFind a0.Nodes a1).1).Labels), AV.lst 3 Taint.av (((nodeFind a0.Nodes a1).1).Taints), AV.bool (((nodeFind a0.Nodes a1).1).Cordon)])), (3, (false, a0.cs))], [], []⟩) (by kernel_rfl) ⟨c78 x11_2.1 a2 _ hx13_2, c78 (((nodeFind a0.Nodes a1).1).Cap) a2 _ hx13_6, c91 x13_2 x13_6 _ hx13_7, trivial⟩ ?_
    refine hN12 _ ?_
    have h := Option.some.inj h
    subst h
    exact awp_ret ⟨[AV.fl x13_7], by kernel_rfl, Lw.refl _⟩


-- level.usages
def F200.l10 (a0 : State) (a1 : Str) (rec10 : (List Nat × Int) → Option (List Nat)) : (List Nat × Int) → Option (List Nat) := fun p10 =>
  if decide (p10.2 < (List.length (((nodeFind a0.Nodes a1).1).Cap) : Int)) = true then ((getI (((nodeFind a0.Nodes a1).1).Cap) p10.2).bind fun x16_0 => (F279 a0 a1 x16_0.Name).bind fun x17_5 => if fits 8 (List.length (p10.1 ++ [x17_5])) then (rec10 (p10.1 ++ [x17_5], w64 (p10.2 + (1 : Int)))) else none) else (some p10.1)
def F200 (l10 : (List Nat × Int) → Option (List Nat)) (a0 : State) (a1 : Str) : Option (List Nat) :=
  l10 (([] : List Nat), 0)
/-- ballast/level.usages -/
theorem c200 (a0 : State) (a1 : Str) (l10 : (List Nat × Int) → Option (List Nat)) (hl10 : Rounds (F200.l10 a0 a1) (l10)) (r : (List Nat)) (h : F200 l10 a0 a1 = some r) :
    Det Tryz.prog 200 [State.av a0, AV.str a1] (.ret (AV.lst 1 AV.fl r)) := by
  refine Det.of_le ?_
  refine @calls_of_body Tryz.prog 200 Tryz.f200 _ Tryz.func200 rfl (by kernel_rfl) [.tmp 4] (by rw [Tryz.results200]) 34 Tryz.ntmps200 _ _ _ (by simp only [List.length_cons, List.length_nil]; decide) ?_
  unfold F200 at h
  refine awp_sr kpNone [] [] [1, 2] (cs := []) (st' := ⟨34, [(1, AV.str a1), (2, .varp 2 0)], [(2, (false, a0.cs))], [], []⟩) (by kernel_rfl) trivial ?_
  refine awp_sr kpNone [(3, .tuple [Node.av ((nodeFind a0.Nodes a1).1), AV.bool ((nodeFind a0.Nodes a1).2)])] [] [1, 2, 5] (cs := [(Det Tryz.prog 115 [AV.lst 5 Node.av a0.Nodes, AV.str a1] (.ret (.tuple [Node.av ((nodeFind a0.Nodes a1).1), AV.bool ((nodeFind a0.Nodes a1).2)])))]) (st' := ⟨34, [(1, AV.str a1), (2, .varp 2 0), (5, .varp 5 0)], [(5, (false, [AV.str (((nodeFind a0.Nodes a1).1).Name), AV.lst 2 Amount.av (((nodeFind a0.Nodes a1).1).Cap), AV.lst 2 Pair.av (((nodeFind a0.Nodes a1).1).Labels), AV.lst 3 Taint.av (((nodeFind a0.Nodes a1).1).Taints), AV.bool (((nodeFind a0.Nodes a1).1).Cordon)])), (2, (false, a0.cs))], [], []⟩) (by kernel_rfl) ⟨d115 a0.Nodes a1, trivial⟩ ?_
  refine awp_sr kpNone [] [] [1, 2, 5, 7] (cs := []) (st' := ⟨34, [(1, AV.str a1), (2, .varp 2 0), (5, .varp 5 0), (7, .nils)], [(5, (false, [AV.str (((nodeFind a0.Nodes a1).1).Name), AV.lst 2 Amount.av (((nodeFind a0.Nodes a1).1).Cap), AV.lst 2 Pair.av (((nodeFind a0.Nodes a1).1).Labels), AV.lst 3 Taint.av (((nodeFind a0.Nodes a1).1).Taints), AV.bool (((nodeFind a0.Nodes a1).1).Cordon)])), (2, (false, a0.cs))], [], []⟩) (by kernel_rfl) trivial ?_
  refine awp_seq fun N7 hN7 => ?_
  refine awp_sr kpNone [(2, AV.int (List.length (((nodeFind a0.Nodes a1).1).Cap) : Int))] [] [1, 2, 7, 18, 19, 20] (cs := [((AV.int (List.length (((nodeFind a0.Nodes a1).1).Cap) : Int) = .val (.int .i64 (List.length (List.map Amount.av (((nodeFind a0.Nodes a1).1).Cap)) : Int))))]) (st' := ⟨34, [(1, AV.str a1), (2, .varp 2 0), (7, .nils), (18, AV.lst 2 Amount.av (((nodeFind a0.Nodes a1).1).Cap)), (19, AV.int (List.length (((nodeFind a0.Nodes a1).1).Cap) : Int)), (20, AV.int 0)], [(5, (false, [AV.str (((nodeFind a0.Nodes a1).1).Name), AV.lst 2 Amount.av (((nodeFind a0.Nodes a1).1).Cap), AV.lst 2 Pair.av (((nodeFind a0.Nodes a1).1).Labels), AV.lst 3 Taint.av (((nodeFind a0.Nodes a1).1).Taints), AV.bool (((nodeFind a0.Nodes a1).1).Cordon)])), (2, (false, a0.cs))], [], []⟩) (by kernel_rfl) ⟨len_map _ _, trivial⟩ ?_
  refine awp_block ?_
  refine awp_loop ?_
  refine awpL_le (st' := ⟨34, [(1, AV.str a1), (2, .varp 2 0), (7, .slice (.own 31) 1 (List.map AV.fl ([] : List Nat))), (18, AV.lst 2 Amount.av (((nodeFind a0.Nodes a1).1).Cap)), (19, AV.int (List.length (((nodeFind a0.Nodes a1).1).Cap) : Int)), (20, AV.int 0)], [(2, (false, a0.cs))], [], [(31, (27, 1, List.length (List.map AV.fl ([] : List Nat))))]⟩) ?_ ?_
  · exact Le.mk rfl ⟨rfl, ⟨rfl, rfl⟩, .inr ⟨rfl, rfl, rfl⟩, .inl rfl, rfl, rfl, trivial⟩ ⟨⟨rfl, ⟨.inl rfl, .inl rfl, .inl rfl, trivial⟩⟩, trivial⟩ ⟨⟨rfl, by decide⟩, trivial⟩ trivial
  refine awpL_fix hl10 r (fun p10 => ⟨34, [(1, AV.str a1), (2, .varp 2 0), (7, .slice (.own 31) 1 (List.map AV.fl p10.1)), (18, AV.lst 2 Amount.av (((nodeFind a0.Nodes a1).1).Cap)), (19, AV.int (List.length (((nodeFind a0.Nodes a1).1).Cap) : Int)), (20, AV.int p10.2)], [(2, (false, a0.cs))], [], [(31, (27, 1, List.length (List.map AV.fl p10.1)))]⟩) (fun rec10 hrec10 p10 h => ?_) (([] : List Nat), 0) h
  unfold F200.l10 at h
  refine awpL_round ?_
  refine awp_sr kpNone [] [] [1, 2, 7, 18, 19, 20, 21] (cs := []) (st' := ⟨34, [(1, AV.str a1), (2, .varp 2 0), (7, .slice (.own 31) 1 (List.map AV.fl p10.1)), (18, AV.lst 2 Amount.av (((nodeFind a0.Nodes a1).1).Cap)), (19, AV.int (List.length (((nodeFind a0.Nodes a1).1).Cap) : Int)), (20, AV.int p10.2), (21, AV.bool (decide (p10.2 < (List.length (((nodeFind a0.Nodes a1).1).Cap) : Int))))], [(2, (false, a0.cs))], [], [(31, (27, 1, List.length (List.map AV.fl p10.1)))]⟩) (by kernel_rfl) trivial ?_
  refine awp_seq fun N13 hN13 => ?_
  refine awp_cond (t := decide (p10.2 < (List.length (((nodeFind a0.Nodes a1).1).Cap) : Int))) rfl (fun hb => ?_) (fun hb => ?_)
  · rw [if_pos hb] at h
    refine awp_skip ?_
    refine hN13 _ ?_
    refine awp_seq fun N14 hN14 => ?_
    refine awp_block ?_
    obtain ⟨x16_0, hx16_0, h⟩ := Option.bind_eq_some_iff.1 h
    refine awp_sr kpNone [(0, Amount.av x16_0)] [] [1, 2, 7, 9, 18, 19, 20] (cs := [(0 ≤ p10.2), ((List.map Amount.av (((nodeFind a0.Nodes a1).1).Cap))[Int.toNat p10.2]? = some (Amount.av x16_0))]) (st' := ⟨34, [(1, AV.str a1), (2, .varp 2 0), (7, .slice (.own 31) 1 (List.map AV.fl p10.1)), (9, .varp 9 0), (18, AV.lst 2 Amount.av (((nodeFind a0.Nodes a1).1).Cap)), (19, AV.int (List.length (((nodeFind a0.Nodes a1).1).Cap) : Int)), (20, AV.int p10.2)], [(9, (false, [AV.str x16_0.Name, AV.int x16_0.N])), (2, (false, a0.cs))], [], [(31, (27, 1, List.length (List.map AV.fl p10.1)))]⟩) (by kernel_rfl) ⟨getI_le hx16_0, getI_map hx16_0 _, trivial⟩ ?_
    obtain ⟨x17_5, hx17_5, h⟩ := Option.bind_eq_some_iff.1 h
    obtain ⟨hp17_7, h⟩ := guardP h
    refine awp_reg kpNone [(5, AV.fl x17_5), (7, AV.lst 1 AV.fl (p10.1 ++ [x17_5]))] [] [1, 2, 7, 18, 19, 20] (cs := [(Det Tryz.prog 279 [State.av a0, AV.str a1, AV.str x16_0.Name] (.ret (AV.fl x17_5))), (List.length (List.map AV.fl p10.1) = List.length (List.map AV.fl p10.1)), (List.length (List.map AV.fl (p10.1 ++ [x17_5])) * 8 ≤ 140737488355328), (List.length (List.map AV.fl (p10.1 ++ [x17_5])) ≤ 140737488355328), (List.map AV.fl p10.1 ++ List.map AV.fl [x17_5] = List.map AV.fl (p10.1 ++ [x17_5]))]) (st' := ⟨34, [(1, AV.str a1), (2, .varp 2 0), (7, .slice (.own 31) 1 (List.map AV.fl (p10.1 ++ [x17_5]))), (18, AV.lst 2 Amount.av (((nodeFind a0.Nodes a1).1).Cap)), (19, AV.int (List.length (((nodeFind a0.Nodes a1).1).Cap) : Int)), (20, AV.int p10.2)], [(9, (false, [AV.str x16_0.Name, AV.int x16_0.N])), (2, (false, a0.cs))], [], [(31, (27, 1, List.length (List.map AV.fl (p10.1 ++ [x17_5])))), (30, (27, 1, 1))]⟩) (by kernel_rfl) ⟨c279 a0 a1 x16_0.Name _ hx17_5, by simp only [List.length_map, List.length_cons, List.length_nil], len_mul _ _ _ _ hp17_7.1, len_ge _ _ hp17_7.2, lst_app _ _ _, trivial⟩ ?_
    refine hN14 _ ?_
    refine awp_reg kpNone [] [] [1, 2, 7, 18, 19, 20] (cs := []) (st' := ⟨34, [(1, AV.str a1), (2, .varp 2 0), (7, .slice (.own 31) 1 (List.map AV.fl (p10.1 ++ [x17_5]))), (18, AV.lst 2 Amount.av (((nodeFind a0.Nodes a1).1).Cap)), (19, AV.int (List.length (((nodeFind a0.Nodes a1).1).Cap) : Int)), (20, AV.int (w64 (p10.2 + (1 : Int))))], [(9, (false, [AV.str x16_0.Name, AV.int x16_0.N])), (2, (false, a0.cs))], [], [(31, (27, 1, List.length (List.map AV.fl (p10.1 ++ [x17_5])))), (30, (27, 1, 1))]⟩) (by kernel_rfl) trivial ?_
    refine awpL_le ?_ (hrec10 _ h)
    exact Le.mk rfl ⟨rfl, ⟨rfl, rfl⟩, .inl ⟨rfl, rfl⟩, .inl rfl, rfl, rfl, trivial⟩ ⟨⟨rfl, ⟨.inl rfl, .inl rfl, .inl rfl, trivial⟩⟩, trivial⟩ ⟨rfl, trivial⟩ trivial
  · rw [if_false hb] at h
    refine awp_exit ?_
    refine hN7 _ ?_
    refine awp_sr kpNone [] [] [4] (cs := []) (st' := ⟨34, [(4, .slice (.own 31) 1 (List.map AV.fl p10.1))], [(2, (false, a0.cs))], [], [(31, (27, 1, List.length (List.map AV.fl p10.1)))]⟩) (by kernel_rfl) trivial ?_
    have h := Option.some.inj h
    subst h
    exact awp_ret ⟨[.slice (.own 31) 1 (List.map AV.fl p10.1)], by kernel_rfl, Lw.refl _⟩
def A200.l10 (a0 : State) (a1 : Str) : (List Nat × Int) → Option (List Nat) := iterL (F200.l10 a0 a1) 4096
def A200 (a0 : State) (a1 : Str) : Option (List Nat) := F200 (A200.l10 a0 a1) a0 a1
theorem d200 (a0 : State) (a1 : Str) (r : (List Nat)) (h : A200 a0 a1 = some r) :
    Det Tryz.prog 200 [State.av a0, AV.str a1] (.ret (AV.lst 1 AV.fl r)) := by
  exact c200 a0 a1 (A200.l10 a0 a1) (rounds_iter _ _) r h


-- math.IsNaN
def F96 (a0 : Nat) : Option Bool :=
  some (!fEq a0 a0)
/-- math.IsNaN -/
theorem c96 (a0 : Nat) (r : Bool) (h : F96 a0 = some r) :
    Det Tryz.prog 96 [AV.fl a0] (.ret (AV.bool r)) := by
  refine Det.of_le ?_
  refine @calls_of_body Tryz.prog 96 Tryz.f96 _ Tryz.func96 rfl (by kernel_rfl) [.tmp 2] (by rw [Tryz.results96]) 6 Tryz.ntmps96 _ _ _ (by simp only [List.length_cons, List.length_nil]; decide) ?_
  unfold F96 at h
  refine awp_sr kpNone [] [] [0] (cs := []) (st' := ⟨6, [(0, AV.fl a0)], [], [], []⟩) (by kernel_rfl) trivial ?_
  refine awp_sr kpNone [] [] [2] (cs := []) (st' := ⟨6, [(2, AV.bool (!fEq a0 a0))], [], [], []⟩) (by kernel_rfl) trivial ?_
  have h := Option.some.inj h
  subst h
  exact awp_ret ⟨[AV.bool (!fEq a0 a0)], by kernel_rfl, Lw.refl _⟩


-- math.Float64bits

-- alone
-- {"kind": "opt", "S": "bitsO", "thm": "d283"}
theorem bits_run (w : World) (b : Nat) : (callFunc 283 #[.float .f64 b]).run Tryz.prog w = .ok (.value (.int .u64 b)) w := by kernel_rfl
theorem d283 (a0 : Nat) (r : Int) (h : bitsO a0 = some r) : Det Tryz.prog 283 [AV.fl a0] (.ret (AV.ik .u64 r)) := by
  unfold bitsO at h
  split at h
  · cases h
  · rename_i hn
    cases h
    refine Det.of_value ?_
    intro g w cargs h2 h3
    obtain ⟨x, rfl, hx⟩ := one_arg h2 h3
    obtain ⟨b', rfl, hb⟩ := hx.fl_of
    rcases hb with rfl | ⟨h4, _⟩
    · exact ⟨.int .u64 b', bits_run w b', fun D => .val _ rfl⟩
    · exact absurd h4 hn


-- math.Abs
def F282 (a0 : Nat) : Option Nat :=
  (bitsO a0).bind fun x4_1 => some (frombits (andNotI .u64 x4_1 (9223372036854775808 : Int)))
/-- math.Abs -/
theorem c282 (a0 : Nat) (r : Nat) (h : F282 a0 = some r) :
    Det Tryz.prog 282 [AV.fl a0] (.ret (AV.fl r)) := by
  refine Det.of_le ?_
  refine @calls_of_body Tryz.prog 282 Tryz.f282 _ Tryz.func282 rfl (by kernel_rfl) [.tmp 2] (by rw [Tryz.results282]) 7 Tryz.ntmps282 _ _ _ (by simp only [List.length_cons, List.length_nil]; decide) ?_
  unfold F282 at h
  refine awp_sr kpNone [] [] [0] (cs := []) (st' := ⟨7, [(0, AV.fl a0)], [], [], []⟩) (by kernel_rfl) trivial ?_
  obtain ⟨x4_1, hx4_1, h⟩ := Option.bind_eq_some_iff.1 h
  refine awp_sr kpNone [(1, AV.ik .u64 x4_1), (3, AV.fl (frombits (andNotI .u64 x4_1 (9223372036854775808 : Int))))] [] [2] (cs := [(Det Tryz.prog 283 [AV.fl a0] (.ret (AV.ik .u64 x4_1))), (Det Tryz.prog 310 [AV.ik .u64 (andNotI .u64 x4_1 (9223372036854775808 : Int))] (.ret (AV.fl (frombits (andNotI .u64 x4_1 (9223372036854775808 : Int))))))]) (st' := ⟨7, [(2, AV.fl (frombits (andNotI .u64 x4_1 (9223372036854775808 : Int))))], [], [], []⟩) (by kernel_rfl) ⟨d283 a0 _ hx4_1, d310 (andNotI .u64 x4_1 (9223372036854775808 : Int)), trivial⟩ ?_
  have h := Option.some.inj h
  subst h
  exact awp_ret ⟨[AV.fl (frombits (andNotI .u64 x4_1 (9223372036854775808 : Int)))], by kernel_rfl, Lw.refl _⟩


-- math.IsInf
def F205.j6  : (Nat) → Option Bool := fun p6 =>
  some (fGt p6 9218868437227405311)
def F205.j12  : (Nat) → Option Bool := fun p12 =>
  F205.j6 p12
def F205 (a0 : Nat) (a1 : Int) : Option Bool :=
  if decide (a1 = (0 : Int)) = true then ((F282 a0).bind fun x9_1 => F205.j6 x9_1) else (if decide (a1 < (0 : Int)) = true then (F205.j12 (negF a0)) else (F205.j12 a0))
/-- math.IsInf -/
theorem c205 (a0 : Nat) (a1 : Int) (r : Bool) (h : F205 a0 a1 = some r) :
    Det Tryz.prog 205 [AV.fl a0, AV.int a1] (.ret (AV.bool r)) := by
  refine Det.of_le ?_
  refine @calls_of_body Tryz.prog 205 Tryz.f205 _ Tryz.func205 rfl (by kernel_rfl) [.tmp 4] (by rw [Tryz.results205]) 15 Tryz.ntmps205 _ _ _ (by simp only [List.length_cons, List.length_nil]; decide) ?_
  unfold F205 at h
  refine awp_sr kpNone [] [] [0, 1] (cs := []) (st' := ⟨15, [(0, AV.fl a0), (1, AV.int a1)], [], [], []⟩) (by kernel_rfl) trivial ?_
  refine awp_seq fun N3 hN3 => ?_
  refine awp_sr kpNone [] [] [0, 1, 6] (cs := []) (st' := ⟨15, [(0, AV.fl a0), (1, AV.int a1), (6, AV.bool (decide (a1 = (0 : Int))))], [], [], []⟩) (by kernel_rfl) trivial ?_
  refine awp_to (σ := Nat) (fun p6 => ⟨15, [(0, AV.fl p6)], [], [], []⟩) (fun p6 => F205.j6 p6 = some r) (fun p6 h => ?_) (fun N6 hJ6 => ?_)
  · unfold F205.j6 at h
    refine hN3 _ ?_
    refine awp_sr kpNone [] [] [4] (cs := []) (st' := ⟨15, [(4, AV.bool (fGt p6 9218868437227405311))], [], [], []⟩) (by kernel_rfl) trivial ?_
    have h := Option.some.inj h
    subst h
    exact awp_ret ⟨[AV.bool (fGt p6 9218868437227405311)], by kernel_rfl, Lw.refl _⟩
  · refine awp_cond (t := decide (a1 = (0 : Int))) rfl (fun hb => ?_) (fun hb => ?_)
    · rw [if_pos hb] at h
      obtain ⟨x9_1, hx9_1, h⟩ := Option.bind_eq_some_iff.1 h
      refine awp_reg kpNone [(1, AV.fl x9_1)] [] [0] (cs := [(Det Tryz.prog 282 [AV.fl a0] (.ret (AV.fl x9_1)))]) (st' := ⟨15, [(0, AV.fl x9_1)], [], [], []⟩) (by kernel_rfl) ⟨c282 a0 _ hx9_1, trivial⟩ ?_
      exact hJ6 x9_1 _ h (Le.rfl')
    · rw [if_false hb] at h
      refine awp_sr kpNone [] [] [0, 10] (cs := []) (st' := ⟨15, [(0, AV.fl a0), (10, AV.bool (decide (a1 < (0 : Int))))], [], [], []⟩) (by kernel_rfl) trivial ?_
      refine awp_to (σ := Nat) (fun p12 => ⟨15, [(0, AV.fl p12)], [], [], []⟩) (fun p12 => F205.j12 p12 = some r) (fun p12 h => ?_) (fun N12 hJ12 => ?_)
      · unfold F205.j12 at h
        exact hJ6 p12 _ h (Le.rfl')
      · refine awp_cond (t := decide (a1 < (0 : Int))) rfl (fun hb => ?_) (fun hb => ?_)
        · rw [if_pos hb] at h
          refine awp_reg kpNone [] [] [0] (cs := []) (st' := ⟨15, [(0, AV.fl (negF a0))], [], [], []⟩) (by kernel_rfl) trivial ?_
          exact hJ12 (negF a0) _ h (Le.rfl')
        · rw [if_false hb] at h
          refine awp_skip ?_
          exact hJ12 a0 _ h (Le.mk rfl ⟨rfl, trivial⟩ trivial trivial trivial)


-- math.Signbit
def F206 (a0 : Nat) : Option Bool :=
  (bitsO a0).bind fun x4_1 => some (decide ((IntKind.wrap .i64 x4_1) < (0 : Int)))
/-- math.Signbit -/
theorem c206 (a0 : Nat) (r : Bool) (h : F206 a0 = some r) :
    Det Tryz.prog 206 [AV.fl a0] (.ret (AV.bool r)) := by
  refine Det.of_le ?_
  refine @calls_of_body Tryz.prog 206 Tryz.f206 _ Tryz.func206 rfl (by kernel_rfl) [.tmp 2] (by rw [Tryz.results206]) 7 Tryz.ntmps206 _ _ _ (by simp only [List.length_cons, List.length_nil]; decide) ?_
  unfold F206 at h
  refine awp_sr kpNone [] [] [0] (cs := []) (st' := ⟨7, [(0, AV.fl a0)], [], [], []⟩) (by kernel_rfl) trivial ?_
  obtain ⟨x4_1, hx4_1, h⟩ := Option.bind_eq_some_iff.1 h
  refine awp_sr kpNone [(1, AV.ik .u64 x4_1)] [] [2] (cs := [(Det Tryz.prog 283 [AV.fl a0] (.ret (AV.ik .u64 x4_1)))]) (st' := ⟨7, [(2, AV.bool (decide ((IntKind.wrap .i64 x4_1) < (0 : Int))))], [], [], []⟩) (by kernel_rfl) ⟨d283 a0 _ hx4_1, trivial⟩ ?_
  have h := Option.some.inj h
  subst h
  exact awp_ret ⟨[AV.bool (decide ((IntKind.wrap .i64 x4_1) < (0 : Int)))], by kernel_rfl, Lw.refl _⟩


-- ratio.Class
def F94 (a0 : Nat) : Option Int :=
  (F96 a0).bind fun x5_1 => if x5_1 = true then (some 6) else ((F205 a0 1).bind fun x9_1 => if x9_1 = true then (some 5) else (if fGt a0 0 = true then (some 4) else ((F205 a0 (-1)).bind fun x17_1 => if x17_1 = true then (some 0) else (if fLt a0 0 = true then (some 1) else ((F206 a0).bind fun x25_1 => if x25_1 = true then (some 2) else (some 3))))))
/-- ballast/ratio.Class -/
theorem c94 (a0 : Nat) (r : Int) (h : F94 a0 = some r) :
    Det Tryz.prog 94 [AV.fl a0] (.ret (AV.int r)) := by
  refine Det.of_le ?_
  refine @calls_of_body Tryz.prog 94 Tryz.f94 _ Tryz.func94 rfl (by kernel_rfl) [.tmp 2] (by rw [Tryz.results94]) 21 Tryz.ntmps94 _ _ _ (by simp only [List.length_cons, List.length_nil]; decide) ?_
  unfold F94 at h
  refine awp_sr kpNone [] [] [0] (cs := []) (st' := ⟨21, [(0, AV.fl a0)], [], [], []⟩) (by kernel_rfl) trivial ?_
  refine awp_seq fun N3 hN3 => ?_
  refine awp_block ?_
  obtain ⟨x5_1, hx5_1, h⟩ := Option.bind_eq_some_iff.1 h
  refine awp_sr kpNone [(1, AV.bool x5_1)] [] [0, 3] (cs := [(Det Tryz.prog 96 [AV.fl a0] (.ret (AV.bool x5_1)))]) (st' := ⟨21, [(0, AV.fl a0), (3, AV.bool x5_1)], [], [], []⟩) (by kernel_rfl) ⟨c96 a0 _ hx5_1, trivial⟩ ?_
  refine awp_cond (t := x5_1) rfl (fun hb => ?_) (fun hb => ?_)
  · rw [if_pos hb] at h
    refine awp_sr kpNone [] [] [2] (cs := []) (st' := ⟨21, [(2, AV.int 6)], [], [], []⟩) (by kernel_rfl) trivial ?_
    have h := Option.some.inj h
    subst h
    exact awp_ret ⟨[AV.int 6], by kernel_rfl, Lw.refl _⟩
  · rw [if_false hb] at h
    obtain ⟨x9_1, hx9_1, h⟩ := Option.bind_eq_some_iff.1 h
    refine awp_sr kpNone [(1, AV.bool x9_1)] [] [0, 6] (cs := [(Det Tryz.prog 205 [AV.fl a0, AV.int 1] (.ret (AV.bool x9_1)))]) (st' := ⟨21, [(0, AV.fl a0), (6, AV.bool x9_1)], [], [], []⟩) (by kernel_rfl) ⟨c205 a0 1 _ hx9_1, trivial⟩ ?_
    refine awp_cond (t := x9_1) rfl (fun hb => ?_) (fun hb => ?_)
    · rw [if_pos hb] at h
      refine awp_sr kpNone [] [] [2] (cs := []) (st' := ⟨21, [(2, AV.int 5)], [], [], []⟩) (by kernel_rfl) trivial ?_
      have h := Option.some.inj h
      subst h
      exact awp_ret ⟨[AV.int 5], by kernel_rfl, Lw.refl _⟩
    · rw [if_false hb] at h
      refine awp_sr kpNone [] [] [0, 9] (cs := []) (st' := ⟨21, [(0, AV.fl a0), (9, AV.bool (fGt a0 0))], [], [], []⟩) (by kernel_rfl) trivial ?_
      refine awp_cond (t := fGt a0 0) rfl (fun hb => ?_) (fun hb => ?_)
      · rw [if_pos hb] at h
        refine awp_sr kpNone [] [] [2] (cs := []) (st' := ⟨21, [(2, AV.int 4)], [], [], []⟩) (by kernel_rfl) trivial ?_
        have h := Option.some.inj h
        subst h
        exact awp_ret ⟨[AV.int 4], by kernel_rfl, Lw.refl _⟩
      · rw [if_false hb] at h
        obtain ⟨x17_1, hx17_1, h⟩ := Option.bind_eq_some_iff.1 h
        refine awp_sr kpNone [(1, AV.bool x17_1)] [] [0, 12] (cs := [(Det Tryz.prog 205 [AV.fl a0, AV.int (-1)] (.ret (AV.bool x17_1)))]) (st' := ⟨21, [(0, AV.fl a0), (12, AV.bool x17_1)], [], [], []⟩) (by kernel_rfl) ⟨c205 a0 (-1) _ hx17_1, trivial⟩ ?_
        refine awp_cond (t := x17_1) rfl (fun hb => ?_) (fun hb => ?_)
        · rw [if_pos hb] at h
          refine awp_sr kpNone [] [] [2] (cs := []) (st' := ⟨21, [(2, AV.int 0)], [], [], []⟩) (by kernel_rfl) trivial ?_
          have h := Option.some.inj h
          subst h
          exact awp_ret ⟨[AV.int 0], by kernel_rfl, Lw.refl _⟩
        · rw [if_false hb] at h
          refine awp_sr kpNone [] [] [0, 15] (cs := []) (st' := ⟨21, [(0, AV.fl a0), (15, AV.bool (fLt a0 0))], [], [], []⟩) (by kernel_rfl) trivial ?_
          refine awp_cond (t := fLt a0 0) rfl (fun hb => ?_) (fun hb => ?_)
          · rw [if_pos hb] at h
            refine awp_sr kpNone [] [] [2] (cs := []) (st' := ⟨21, [(2, AV.int 1)], [], [], []⟩) (by kernel_rfl) trivial ?_
            have h := Option.some.inj h
            subst h
            exact awp_ret ⟨[AV.int 1], by kernel_rfl, Lw.refl _⟩
          · rw [if_false hb] at h
            obtain ⟨x25_1, hx25_1, h⟩ := Option.bind_eq_some_iff.1 h
            refine awp_sr kpNone [(1, AV.bool x25_1)] [] [18] (cs := [(Det Tryz.prog 206 [AV.fl a0] (.ret (AV.bool x25_1)))]) (st' := ⟨21, [(18, AV.bool x25_1)], [], [], []⟩) (by kernel_rfl) ⟨c206 a0 _ hx25_1, trivial⟩ ?_
            refine awp_cond (t := x25_1) rfl (fun hb => ?_) (fun hb => ?_)
            · rw [if_pos hb] at h
              refine awp_sr kpNone [] [] [2] (cs := []) (st' := ⟨21, [(2, AV.int 2)], [], [], []⟩) (by kernel_rfl) trivial ?_
              have h := Option.some.inj h
              subst h
              exact awp_ret ⟨[AV.int 2], by kernel_rfl, Lw.refl _⟩
            · rw [if_false hb] at h
              refine awp_skip ?_
              refine hN3 _ ?_
              refine awp_sr kpNone [] [] [2] (cs := []) (st' := ⟨21, [(2, AV.int 3)], [], [], []⟩) (by kernel_rfl) trivial ?_
              have h := Option.some.inj h
              subst h
              exact awp_ret ⟨[AV.int 3], by kernel_rfl, Lw.refl _⟩


-- cmp.isNaN[int]
def F207 (a0 : Int) : Option Bool :=
  some (decide (¬ a0 = a0))
/-- cmp.isNaN[int] -/
theorem c207 (a0 : Int) (r : Bool) (h : F207 a0 = some r) :
    Det Tryz.prog 207 [AV.int a0] (.ret (AV.bool r)) := by
  refine Det.of_le ?_
  refine @calls_of_body Tryz.prog 207 Tryz.f207 _ Tryz.func207 rfl (by kernel_rfl) [.tmp 2] (by rw [Tryz.results207]) 6 Tryz.ntmps207 _ _ _ (by simp only [List.length_cons, List.length_nil]; decide) ?_
  unfold F207 at h
  refine awp_sr kpNone [] [] [0] (cs := []) (st' := ⟨6, [(0, AV.int a0)], [], [], []⟩) (by kernel_rfl) trivial ?_
  refine awp_sr kpNone [] [] [2] (cs := []) (st' := ⟨6, [(2, AV.bool (decide (¬ a0 = a0)))], [], [], []⟩) (by kernel_rfl) trivial ?_
  have h := Option.some.inj h
  subst h
  exact awp_ret ⟨[AV.bool (decide (¬ a0 = a0))], by kernel_rfl, Lw.refl _⟩


-- cmp.Compare[int]
def F95 (a0 : Int) (a1 : Int) : Option Int :=
  (F207 a0).bind fun x4_1 => (F207 a1).bind fun x6_1 => if x4_1 = true then (if x6_1 = true then (some 0) else (some (-1))) else (if x6_1 = true then (some 1) else (if decide (a0 < a1) = true then (some (-1)) else (if decide (a1 < a0) = true then (some 1) else (some 0))))
/-- cmp.Compare[int] -/
theorem c95 (a0 : Int) (a1 : Int) (r : Int) (h : F95 a0 a1 = some r) :
    Det Tryz.prog 95 [AV.int a0, AV.int a1] (.ret (AV.int r)) := by
  refine Det.of_le ?_
  refine @calls_of_body Tryz.prog 95 Tryz.f95 _ Tryz.func95 rfl (by kernel_rfl) [.tmp 4] (by rw [Tryz.results95]) 20 Tryz.ntmps95 _ _ _ (by simp only [List.length_cons, List.length_nil]; decide) ?_
  unfold F95 at h
  refine awp_sr kpNone [] [] [0, 1] (cs := []) (st' := ⟨20, [(0, AV.int a0), (1, AV.int a1)], [], [], []⟩) (by kernel_rfl) trivial ?_
  obtain ⟨x4_1, hx4_1, h⟩ := Option.bind_eq_some_iff.1 h
  refine awp_sr kpNone [(1, AV.bool x4_1)] [] [0, 1, 5] (cs := [(Det Tryz.prog 207 [AV.int a0] (.ret (AV.bool x4_1)))]) (st' := ⟨20, [(0, AV.int a0), (1, AV.int a1), (5, AV.bool x4_1)], [], [], []⟩) (by kernel_rfl) ⟨c207 a0 _ hx4_1, trivial⟩ ?_
  obtain ⟨x6_1, hx6_1, h⟩ := Option.bind_eq_some_iff.1 h
  refine awp_sr kpNone [(1, AV.bool x6_1)] [] [0, 1, 5, 6] (cs := [(Det Tryz.prog 207 [AV.int a1] (.ret (AV.bool x6_1)))]) (st' := ⟨20, [(0, AV.int a0), (1, AV.int a1), (5, AV.bool x4_1), (6, AV.bool x6_1)], [], [], []⟩) (by kernel_rfl) ⟨c207 a1 _ hx6_1, trivial⟩ ?_
  refine awp_seq fun N7 hN7 => ?_
  refine awp_sr kpNone [] [] [0, 1, 6, 11] (cs := []) (st' := ⟨20, [(0, AV.int a0), (1, AV.int a1), (6, AV.bool x6_1), (11, AV.bool x4_1)], [], [], []⟩) (by kernel_rfl) trivial ?_
  refine awp_cond (t := x4_1) rfl (fun hb => ?_) (fun hb => ?_)
  · rw [if_pos hb] at h
    refine awp_seq fun N10 hN10 => ?_
    refine awp_sr kpNone [] [] [12] (cs := []) (st' := ⟨20, [(12, AV.bool x6_1)], [], [], []⟩) (by kernel_rfl) trivial ?_
    refine awp_cond (t := x6_1) rfl (fun hb => ?_) (fun hb => ?_)
    · rw [if_pos hb] at h
      refine awp_sr kpNone [] [] [4] (cs := []) (st' := ⟨20, [(4, AV.int 0)], [], [], []⟩) (by kernel_rfl) trivial ?_
      have h := Option.some.inj h
      subst h
      exact awp_ret ⟨[AV.int 0], by kernel_rfl, Lw.refl _⟩
    · rw [if_false hb] at h
      refine awp_skip ?_
      refine hN10 _ ?_
      refine awp_sr kpNone [] [] [4] (cs := []) (st' := ⟨20, [(4, AV.int (-1))], [], [], []⟩) (by kernel_rfl) trivial ?_
      have h := Option.some.inj h
      subst h
      exact awp_ret ⟨[AV.int (-1)], by kernel_rfl, Lw.refl _⟩
  · rw [if_false hb] at h
    refine awp_skip ?_
    refine hN7 _ ?_
    refine awp_seq fun N17 hN17 => ?_
    refine awp_sr kpNone [] [] [0, 1, 13] (cs := []) (st' := ⟨20, [(0, AV.int a0), (1, AV.int a1), (13, AV.bool x6_1)], [], [], []⟩) (by kernel_rfl) trivial ?_
    refine awp_cond (t := x6_1) rfl (fun hb => ?_) (fun hb => ?_)
    · rw [if_pos hb] at h
      refine awp_sr kpNone [] [] [4] (cs := []) (st' := ⟨20, [(4, AV.int 1)], [], [], []⟩) (by kernel_rfl) trivial ?_
      have h := Option.some.inj h
      subst h
      exact awp_ret ⟨[AV.int 1], by kernel_rfl, Lw.refl _⟩
    · rw [if_false hb] at h
      refine awp_skip ?_
      refine hN17 _ ?_
      refine awp_seq fun N22 hN22 => ?_
      refine awp_sr kpNone [] [] [0, 1, 16] (cs := []) (st' := ⟨20, [(0, AV.int a0), (1, AV.int a1), (16, AV.bool (decide (a0 < a1)))], [], [], []⟩) (by kernel_rfl) trivial ?_
      refine awp_cond (t := decide (a0 < a1)) rfl (fun hb => ?_) (fun hb => ?_)
      · rw [if_pos hb] at h
        refine awp_sr kpNone [] [] [4] (cs := []) (st' := ⟨20, [(4, AV.int (-1))], [], [], []⟩) (by kernel_rfl) trivial ?_
        have h := Option.some.inj h
        subst h
        exact awp_ret ⟨[AV.int (-1)], by kernel_rfl, Lw.refl _⟩
      · rw [if_false hb] at h
        refine awp_skip ?_
        refine hN22 _ ?_
        refine awp_seq fun N27 hN27 => ?_
        refine awp_sr kpNone [] [] [19] (cs := []) (st' := ⟨20, [(19, AV.bool (decide (a1 < a0)))], [], [], []⟩) (by kernel_rfl) trivial ?_
        refine awp_cond (t := decide (a1 < a0)) rfl (fun hb => ?_) (fun hb => ?_)
        · rw [if_pos hb] at h
          refine awp_sr kpNone [] [] [4] (cs := []) (st' := ⟨20, [(4, AV.int 1)], [], [], []⟩) (by kernel_rfl) trivial ?_
          have h := Option.some.inj h
          subst h
          exact awp_ret ⟨[AV.int 1], by kernel_rfl, Lw.refl _⟩
        · rw [if_false hb] at h
          refine awp_skip ?_
          refine hN27 _ ?_
          refine awp_sr kpNone [] [] [4] (cs := []) (st' := ⟨20, [(4, AV.int 0)], [], [], []⟩) (by kernel_rfl) trivial ?_
          have h := Option.some.inj h
          subst h
          exact awp_ret ⟨[AV.int 0], by kernel_rfl, Lw.refl _⟩


end Go.Proofs.Eng
