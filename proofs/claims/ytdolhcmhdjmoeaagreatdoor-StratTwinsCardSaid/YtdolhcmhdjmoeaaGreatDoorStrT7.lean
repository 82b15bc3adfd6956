/- Printed walks and contracts. -/
import Derived.Test.YtdolhcmhdjmoeaaGreatDoorStrT6
set_option linter.unusedSimpArgs false
set_option linter.unusedVariables false
set_option maxRecDepth 100000
namespace Go.Proofs.Eng
open Go Go.Proofs Go.Sort
-- strat.Check
def F45 (a0 : Conf) : Option Int :=
  (A132 a0).bind fun x4_1 => some (tryCode x4_1)
/-- ballast/strat.Check -/
theorem c45 (a0 : Conf) (r : Int) (h : F45 a0 = some r) :
    Det Tryz.prog 45 [Conf.av a0] (.ret (AV.int r)) := by
  refine Det.of_le ?_
  refine @calls_of_body Tryz.prog 45 Tryz.f45 _ Tryz.func45 rfl (by kernel_rfl) [.tmp 2] (by rw [Tryz.results45]) 5 Tryz.ntmps45 _ _ _ (by simp only [List.length_cons, List.length_nil]; decide) ?_
  unfold F45 at h
  refine awp_sr kpNone [] [] [1] (cs := []) (st' := ⟨5, [(1, .varp 1 0)], [(1, (false, a0.cs))], [], []⟩) (by kernel_rfl) trivial ?_
  obtain ⟨x4_1, hx4_1, h⟩ := Option.bind_eq_some_iff.1 h
  refine awp_sr kpNone [(1, AV.int (tryCode x4_1))] [] [2] (cs := [(Det Tryz.prog 113 [.func 132 [.inp a0.cs]] (.ret (AV.int (tryCode x4_1))))]) (st' := ⟨5, [(2, AV.int (tryCode x4_1))], [(1, (true, a0.cs))], [], []⟩) (by kernel_rfl) ⟨try_det (d132 a0 x4_1 hx4_1), trivial⟩ ?_
  have h := Option.some.inj h
  subst h
  exact awp_ret ⟨[AV.int (tryCode x4_1)], by kernel_rfl, Lw.refl _⟩


-- ballastlaw19.known
def F42.j35  : (Bool) → Option Bool := fun p35 =>
  some p35
def F42 : Option Bool :=
  (F75 [97] 10).bind fun x4_0 => (F75 [98] 10).bind fun x4_1 => (F75 [99] 10).bind fun x4_2 => (F76 [112] 5 [97]).bind fun x8_0 => (F76 [113] 4 [97]).bind fun x8_1 => (F76 [114] 1 [98]).bind fun x8_2 => (F76 [116] 5 [99]).bind fun x8_3 => (A48 (⟨[x4_0, x4_1, (⟨x4_2.Name, x4_2.Cap, x4_2.Labels, [(⟨[103, 112, 117], [121, 101, 115], true⟩ : Taint)], x4_2.Cordon⟩ : Node)], [(⟨x8_0.Name, [119, 101, 98], x8_0.Prio, x8_0.Need, x8_0.Labels, x8_0.Sel, x8_0.Tols, x8_0.Key, x8_0.Most, x8_0.Node, x8_0.Hold⟩ : Pod), (⟨x8_1.Name, [119, 101, 98], x8_1.Prio, x8_1.Need, x8_1.Labels, x8_1.Sel, x8_1.Tols, x8_1.Key, x8_1.Most, x8_1.Node, x8_1.Hold⟩ : Pod), x8_2, x8_3], ([] : (List Budget))⟩ : State) (⟨(⟨4596373779694328218, 4605380978949069210⟩ : Marks), [1, 3, 4, 5]⟩ : Conf)).bind fun x16_4 => if decide (¬ (List.length x16_4 : Int) = (4 : Int)) = true then (some false) else ((getI x16_4 (0 : Int)).bind fun x23_1 => if decide (x23_1.Pod = [116]) = true then ((getI x16_4 (0 : Int)).bind fun x23_7 => if decide (x23_7.Why = (1 : Int)) = true then ((getI x16_4 (1 : Int)).bind fun x23_14 => if decide (x23_14.Pod = [113]) = true then ((getI x16_4 (1 : Int)).bind fun x23_21 => if decide (x23_21.Why = (3 : Int)) = true then ((getI x16_4 (2 : Int)).bind fun x23_28 => if decide (x23_28.Pod = [112]) = true then ((getI x16_4 (2 : Int)).bind fun x23_35 => if decide (x23_35.Why = (4 : Int)) = true then ((getI x16_4 (3 : Int)).bind fun x23_42 => if decide (x23_42.Pod = [114]) = true then ((getI x16_4 (3 : Int)).bind fun x23_49 => if decide (x23_49.Why = (5 : Int)) = true then ((A46 (⟨[x4_0, x4_1, (⟨x4_2.Name, x4_2.Cap, x4_2.Labels, [(⟨[103, 112, 117], [121, 101, 115], true⟩ : Taint)], x4_2.Cordon⟩ : Node)], [(⟨x8_0.Name, [119, 101, 98], x8_0.Prio, x8_0.Need, x8_0.Labels, x8_0.Sel, x8_0.Tols, x8_0.Key, x8_0.Most, x8_0.Node, x8_0.Hold⟩ : Pod), (⟨x8_1.Name, [119, 101, 98], x8_1.Prio, x8_1.Need, x8_1.Labels, x8_1.Sel, x8_1.Tols, x8_1.Key, x8_1.Most, x8_1.Node, x8_1.Hold⟩ : Pod), x8_2, x8_3], ([] : (List Budget))⟩ : State) 4 (⟨4596373779694328218, 4605380978949069210⟩ : Marks)).bind fun x23_57 => (A36 x23_57 [[112], [113]]).bind fun x23_59 => if x23_59 = true then ((A46 (⟨[x4_0, x4_1, (⟨x4_2.Name, x4_2.Cap, x4_2.Labels, [(⟨[103, 112, 117], [121, 101, 115], true⟩ : Taint)], x4_2.Cordon⟩ : Node)], [(⟨x8_0.Name, [119, 101, 98], x8_0.Prio, x8_0.Need, x8_0.Labels, x8_0.Sel, x8_0.Tols, x8_0.Key, x8_0.Most, x8_0.Node, x8_0.Hold⟩ : Pod), (⟨x8_1.Name, [119, 101, 98], x8_1.Prio, x8_1.Need, x8_1.Labels, x8_1.Sel, x8_1.Tols, x8_1.Key, x8_1.Most, x8_1.Node, x8_1.Hold⟩ : Pod), x8_2, x8_3], ([] : (List Budget))⟩ : State) 9 (⟨4596373779694328218, 4605380978949069210⟩ : Marks)).bind fun x23_64 => if decide ((List.length x23_64 : Int) = (0 : Int)) = true then ((F45 (⟨(⟨0, 0⟩ : Marks), [1, 1]⟩ : Conf)).bind fun x23_71 => if decide (x23_71 = (6 : Int)) = true then ((F45 (⟨(⟨0, 0⟩ : Marks), [6]⟩ : Conf)).bind fun x23_77 => F42.j35 (decide (x23_77 = (1 : Int)))) else (F42.j35 false)) else (F42.j35 false)) else (F42.j35 false)) else (F42.j35 false)) else (F42.j35 false)) else (F42.j35 false)) else (F42.j35 false)) else (F42.j35 false)) else (F42.j35 false)) else (F42.j35 false)) else (F42.j35 false))
/-- ballast/ballastlaw19.known -/
theorem c42 (r : Bool) (h : F42  = some r) :
    Det Tryz.prog 42 [] (.ret (AV.bool r)) := by
  refine Det.of_le ?_
  refine @calls_of_body Tryz.prog 42 Tryz.f42 _ Tryz.func42 rfl (by kernel_rfl) [.tmp 0] (by rw [Tryz.results42]) 122 Tryz.ntmps42 _ _ _ (by simp only [List.length_cons, List.length_nil]; decide) ?_
  unfold F42 at h
  refine awp_sr kpNone [] [] [] (cs := []) (st' := ⟨122, [], [], [], []⟩) (by kernel_rfl) trivial ?_
  obtain ⟨x4_0, hx4_0, h⟩ := Option.bind_eq_some_iff.1 h
  obtain ⟨x4_1, hx4_1, h⟩ := Option.bind_eq_some_iff.1 h
  obtain ⟨x4_2, hx4_2, h⟩ := Option.bind_eq_some_iff.1 h
  refine awp_sr kpNone [(0, Node.av x4_0), (1, Node.av x4_1), (2, Node.av x4_2)] [] [1, 2, 3] (cs := [(Det Tryz.prog 75 [AV.str [97], AV.int 10] (.ret (Node.av x4_0))), (Det Tryz.prog 75 [AV.str [98], AV.int 10] (.ret (Node.av x4_1))), (Det Tryz.prog 75 [AV.str [99], AV.int 10] (.ret (Node.av x4_2)))]) (st' := ⟨122, [(1, .varp 1 0), (2, .varp 2 0), (3, .varp 3 0)], [(3, (false, x4_2.cs)), (2, (false, x4_1.cs)), (1, (false, x4_0.cs))], [], []⟩) (by kernel_rfl) ⟨c75 [97] 10 _ hx4_0, c75 [98] 10 _ hx4_1, c75 [99] 10 _ hx4_2, trivial⟩ ?_
  refine awp_sr kpNone [] [] [1, 2, 3] (cs := []) (st' := ⟨122, [(1, .varp 1 0), (2, .varp 2 0), (3, .varp 3 0)], [(3, (false, [AV.str x4_2.Name, AV.lst 2 Amount.av x4_2.Cap, AV.lst 2 Pair.av x4_2.Labels, .slice (.own 15) 3 (List.map Taint.av [(⟨[103, 112, 117], [121, 101, 115], true⟩ : Taint)]), AV.bool x4_2.Cordon])), (2, (false, x4_1.cs)), (1, (false, x4_0.cs))], [], [(15, (164, 3, 1))]⟩) (by kernel_rfl) trivial ?_
  obtain ⟨x8_0, hx8_0, h⟩ := Option.bind_eq_some_iff.1 h
  obtain ⟨x8_1, hx8_1, h⟩ := Option.bind_eq_some_iff.1 h
  obtain ⟨x8_2, hx8_2, h⟩ := Option.bind_eq_some_iff.1 h
  obtain ⟨x8_3, hx8_3, h⟩ := Option.bind_eq_some_iff.1 h
  refine awp_sr kpNone [(0, Pod.av x8_0), (1, Pod.av x8_1), (2, Pod.av x8_2), (3, Pod.av x8_3)] [] [1, 2, 3, 4, 5, 6, 7] (cs := [(Det Tryz.prog 76 [AV.str [112], AV.int 5, AV.str [97]] (.ret (Pod.av x8_0))), (Det Tryz.prog 76 [AV.str [113], AV.int 4, AV.str [97]] (.ret (Pod.av x8_1))), (Det Tryz.prog 76 [AV.str [114], AV.int 1, AV.str [98]] (.ret (Pod.av x8_2))), (Det Tryz.prog 76 [AV.str [116], AV.int 5, AV.str [99]] (.ret (Pod.av x8_3)))]) (st' := ⟨122, [(1, .varp 1 0), (2, .varp 2 0), (3, .varp 3 0), (4, .varp 4 0), (5, .varp 5 0), (6, .varp 6 0), (7, .varp 7 0)], [(7, (false, x8_3.cs)), (6, (false, x8_2.cs)), (5, (false, x8_1.cs)), (4, (false, x8_0.cs)), (3, (false, [AV.str x4_2.Name, AV.lst 2 Amount.av x4_2.Cap, AV.lst 2 Pair.av x4_2.Labels, .slice (.own 15) 3 (List.map Taint.av [(⟨[103, 112, 117], [121, 101, 115], true⟩ : Taint)]), AV.bool x4_2.Cordon])), (2, (false, x4_1.cs)), (1, (false, x4_0.cs))], [], [(15, (164, 3, 1))]⟩) (by kernel_rfl) ⟨c76 [112] 5 [97] _ hx8_0, c76 [113] 4 [97] _ hx8_1, c76 [114] 1 [98] _ hx8_2, c76 [116] 5 [99] _ hx8_3, trivial⟩ ?_
  refine awp_sr kpNone [] [] [1, 2, 3, 4, 5, 6, 7] (cs := []) (st' := ⟨122, [(1, .varp 1 0), (2, .varp 2 0), (3, .varp 3 0), (4, .varp 4 0), (5, .varp 5 0), (6, .varp 6 0), (7, .varp 7 0)], [(5, (false, [AV.str x8_1.Name, AV.str [119, 101, 98], AV.int x8_1.Prio, AV.lst 2 Amount.av x8_1.Need, AV.lst 2 Pair.av x8_1.Labels, AV.lst 3 Term.av x8_1.Sel, AV.lst 3 Tol.av x8_1.Tols, AV.str x8_1.Key, AV.int x8_1.Most, AV.str x8_1.Node, AV.bool x8_1.Hold])), (4, (false, [AV.str x8_0.Name, AV.str [119, 101, 98], AV.int x8_0.Prio, AV.lst 2 Amount.av x8_0.Need, AV.lst 2 Pair.av x8_0.Labels, AV.lst 3 Term.av x8_0.Sel, AV.lst 3 Tol.av x8_0.Tols, AV.str x8_0.Key, AV.int x8_0.Most, AV.str x8_0.Node, AV.bool x8_0.Hold])), (7, (false, x8_3.cs)), (6, (false, x8_2.cs)), (3, (false, [AV.str x4_2.Name, AV.lst 2 Amount.av x4_2.Cap, AV.lst 2 Pair.av x4_2.Labels, .slice (.own 15) 3 (List.map Taint.av [(⟨[103, 112, 117], [121, 101, 115], true⟩ : Taint)]), AV.bool x4_2.Cordon])), (2, (false, x4_1.cs)), (1, (false, x4_0.cs))], [], [(15, (164, 3, 1))]⟩) (by kernel_rfl) trivial ?_
  refine awp_sr kpNone [] [] [8] (cs := []) (st' := ⟨122, [(8, .varp 8 0)], [(8, (false, [.slice (.own 26) 5 (List.map Node.av [x4_0, x4_1, (⟨x4_2.Name, x4_2.Cap, x4_2.Labels, [(⟨[103, 112, 117], [121, 101, 115], true⟩ : Taint)], x4_2.Cordon⟩ : Node)]), .slice (.own 31) 11 (List.map Pod.av [(⟨x8_0.Name, [119, 101, 98], x8_0.Prio, x8_0.Need, x8_0.Labels, x8_0.Sel, x8_0.Tols, x8_0.Key, x8_0.Most, x8_0.Node, x8_0.Hold⟩ : Pod), (⟨x8_1.Name, [119, 101, 98], x8_1.Prio, x8_1.Need, x8_1.Labels, x8_1.Sel, x8_1.Tols, x8_1.Key, x8_1.Most, x8_1.Node, x8_1.Hold⟩ : Pod), x8_2, x8_3]), .nils])), (5, (false, [AV.str x8_1.Name, AV.str [119, 101, 98], AV.int x8_1.Prio, AV.lst 2 Amount.av x8_1.Need, AV.lst 2 Pair.av x8_1.Labels, AV.lst 3 Term.av x8_1.Sel, AV.lst 3 Tol.av x8_1.Tols, AV.str x8_1.Key, AV.int x8_1.Most, AV.str x8_1.Node, AV.bool x8_1.Hold])), (4, (false, [AV.str x8_0.Name, AV.str [119, 101, 98], AV.int x8_0.Prio, AV.lst 2 Amount.av x8_0.Need, AV.lst 2 Pair.av x8_0.Labels, AV.lst 3 Term.av x8_0.Sel, AV.lst 3 Tol.av x8_0.Tols, AV.str x8_0.Key, AV.int x8_0.Most, AV.str x8_0.Node, AV.bool x8_0.Hold])), (7, (false, x8_3.cs)), (6, (false, x8_2.cs)), (3, (false, [AV.str x4_2.Name, AV.lst 2 Amount.av x4_2.Cap, AV.lst 2 Pair.av x4_2.Labels, .slice (.own 15) 3 (List.map Taint.av [(⟨[103, 112, 117], [121, 101, 115], true⟩ : Taint)]), AV.bool x4_2.Cordon])), (2, (false, x4_1.cs)), (1, (false, x4_0.cs))], [], [(31, (44, 11, 4)), (26, (71, 5, 3)), (15, (164, 3, 1))]⟩) (by kernel_rfl) trivial ?_
  refine awp_sr kpNone [] [] [8, 9] (cs := []) (st' := ⟨122, [(8, .varp 8 0), (9, .varp 9 0)], [(9, (false, [AV.fl 4596373779694328218, AV.fl 4605380978949069210])), (8, (false, [.slice (.own 26) 5 (List.map Node.av [x4_0, x4_1, (⟨x4_2.Name, x4_2.Cap, x4_2.Labels, [(⟨[103, 112, 117], [121, 101, 115], true⟩ : Taint)], x4_2.Cordon⟩ : Node)]), .slice (.own 31) 11 (List.map Pod.av [(⟨x8_0.Name, [119, 101, 98], x8_0.Prio, x8_0.Need, x8_0.Labels, x8_0.Sel, x8_0.Tols, x8_0.Key, x8_0.Most, x8_0.Node, x8_0.Hold⟩ : Pod), (⟨x8_1.Name, [119, 101, 98], x8_1.Prio, x8_1.Need, x8_1.Labels, x8_1.Sel, x8_1.Tols, x8_1.Key, x8_1.Most, x8_1.Node, x8_1.Hold⟩ : Pod), x8_2, x8_3]), .nils])), (5, (false, [AV.str x8_1.Name, AV.str [119, 101, 98], AV.int x8_1.Prio, AV.lst 2 Amount.av x8_1.Need, AV.lst 2 Pair.av x8_1.Labels, AV.lst 3 Term.av x8_1.Sel, AV.lst 3 Tol.av x8_1.Tols, AV.str x8_1.Key, AV.int x8_1.Most, AV.str x8_1.Node, AV.bool x8_1.Hold])), (4, (false, [AV.str x8_0.Name, AV.str [119, 101, 98], AV.int x8_0.Prio, AV.lst 2 Amount.av x8_0.Need, AV.lst 2 Pair.av x8_0.Labels, AV.lst 3 Term.av x8_0.Sel, AV.lst 3 Tol.av x8_0.Tols, AV.str x8_0.Key, AV.int x8_0.Most, AV.str x8_0.Node, AV.bool x8_0.Hold])), (7, (false, x8_3.cs)), (6, (false, x8_2.cs)), (3, (false, [AV.str x4_2.Name, AV.lst 2 Amount.av x4_2.Cap, AV.lst 2 Pair.av x4_2.Labels, .slice (.own 15) 3 (List.map Taint.av [(⟨[103, 112, 117], [121, 101, 115], true⟩ : Taint)]), AV.bool x4_2.Cordon])), (2, (false, x4_1.cs)), (1, (false, x4_0.cs))], [], [(31, (44, 11, 4)), (26, (71, 5, 3)), (15, (164, 3, 1))]⟩) (by kernel_rfl) trivial ?_
  obtain ⟨x16_4, hx16_4, h⟩ := Option.bind_eq_some_iff.1 h
  refine awp_sr kpNone [(4, AV.lst 2 Found.av x16_4)] [] [8, 9, 10] (cs := [(Det Tryz.prog 48 [.agg [AV.lst 5 Node.av [x4_0, x4_1, (⟨x4_2.Name, x4_2.Cap, x4_2.Labels, [(⟨[103, 112, 117], [121, 101, 115], true⟩ : Taint)], x4_2.Cordon⟩ : Node)], AV.lst 11 Pod.av [(⟨x8_0.Name, [119, 101, 98], x8_0.Prio, x8_0.Need, x8_0.Labels, x8_0.Sel, x8_0.Tols, x8_0.Key, x8_0.Most, x8_0.Node, x8_0.Hold⟩ : Pod), (⟨x8_1.Name, [119, 101, 98], x8_1.Prio, x8_1.Need, x8_1.Labels, x8_1.Sel, x8_1.Tols, x8_1.Key, x8_1.Most, x8_1.Node, x8_1.Hold⟩ : Pod), x8_2, x8_3], .nils], .agg [AV.fl 4596373779694328218, AV.fl 4605380978949069210, AV.lst 1 AV.int [1, 3, 4, 5]]] (.ret (AV.lst 2 Found.av x16_4)))]) (st' := ⟨122, [(8, .varp 8 0), (9, .varp 9 0), (10, AV.lst 2 Found.av x16_4)], [(9, (false, [AV.fl 4596373779694328218, AV.fl 4605380978949069210])), (8, (false, [.slice (.own 26) 5 (List.map Node.av [x4_0, x4_1, (⟨x4_2.Name, x4_2.Cap, x4_2.Labels, [(⟨[103, 112, 117], [121, 101, 115], true⟩ : Taint)], x4_2.Cordon⟩ : Node)]), .slice (.own 31) 11 (List.map Pod.av [(⟨x8_0.Name, [119, 101, 98], x8_0.Prio, x8_0.Need, x8_0.Labels, x8_0.Sel, x8_0.Tols, x8_0.Key, x8_0.Most, x8_0.Node, x8_0.Hold⟩ : Pod), (⟨x8_1.Name, [119, 101, 98], x8_1.Prio, x8_1.Need, x8_1.Labels, x8_1.Sel, x8_1.Tols, x8_1.Key, x8_1.Most, x8_1.Node, x8_1.Hold⟩ : Pod), x8_2, x8_3]), .nils])), (5, (false, [AV.str x8_1.Name, AV.str [119, 101, 98], AV.int x8_1.Prio, AV.lst 2 Amount.av x8_1.Need, AV.lst 2 Pair.av x8_1.Labels, AV.lst 3 Term.av x8_1.Sel, AV.lst 3 Tol.av x8_1.Tols, AV.str x8_1.Key, AV.int x8_1.Most, AV.str x8_1.Node, AV.bool x8_1.Hold])), (4, (false, [AV.str x8_0.Name, AV.str [119, 101, 98], AV.int x8_0.Prio, AV.lst 2 Amount.av x8_0.Need, AV.lst 2 Pair.av x8_0.Labels, AV.lst 3 Term.av x8_0.Sel, AV.lst 3 Tol.av x8_0.Tols, AV.str x8_0.Key, AV.int x8_0.Most, AV.str x8_0.Node, AV.bool x8_0.Hold])), (7, (false, x8_3.cs)), (6, (false, x8_2.cs)), (3, (false, [AV.str x4_2.Name, AV.lst 2 Amount.av x4_2.Cap, AV.lst 2 Pair.av x4_2.Labels, .slice (.own 15) 3 (List.map Taint.av [(⟨[103, 112, 117], [121, 101, 115], true⟩ : Taint)]), AV.bool x4_2.Cordon])), (2, (false, x4_1.cs)), (1, (false, x4_0.cs))], [], [(36, (3, 1, 4)), (31, (44, 11, 4)), (26, (71, 5, 3)), (15, (164, 3, 1))]⟩) (by kernel_rfl) ⟨Det.args (d48 (⟨[x4_0, x4_1, (⟨x4_2.Name, x4_2.Cap, x4_2.Labels, [(⟨[103, 112, 117], [121, 101, 115], true⟩ : Taint)], x4_2.Cordon⟩ : Node)], [(⟨x8_0.Name, [119, 101, 98], x8_0.Prio, x8_0.Need, x8_0.Labels, x8_0.Sel, x8_0.Tols, x8_0.Key, x8_0.Most, x8_0.Node, x8_0.Hold⟩ : Pod), (⟨x8_1.Name, [119, 101, 98], x8_1.Prio, x8_1.Need, x8_1.Labels, x8_1.Sel, x8_1.Tols, x8_1.Key, x8_1.Most, x8_1.Node, x8_1.Hold⟩ : Pod), x8_2, x8_3], ([] : (List Budget))⟩ : State) (⟨(⟨4596373779694328218, 4605380978949069210⟩ : Marks), [1, 3, 4, 5]⟩ : Conf) _ hx16_4) ⟨(Lw.aggL ⟨(Lw.refl _), (Lw.refl _), (Lw.nils _), trivial⟩), (Lw.refl _), trivial⟩, trivial⟩ ?_
  refine awp_seq fun N17 hN17 => ?_
  refine awp_sr kpNone [(1, AV.int (List.length x16_4 : Int))] [] [8, 9, 10, 41] (cs := [((AV.int (List.length x16_4 : Int) = .val (.int .i64 (List.length (List.map Found.av x16_4) : Int))))]) (st' := ⟨122, [(8, .varp 8 0), (9, .varp 9 0), (10, AV.lst 2 Found.av x16_4), (41, AV.bool (decide (¬ (List.length x16_4 : Int) = (4 : Int))))], [(9, (false, [AV.fl 4596373779694328218, AV.fl 4605380978949069210])), (8, (false, [.slice (.own 26) 5 (List.map Node.av [x4_0, x4_1, (⟨x4_2.Name, x4_2.Cap, x4_2.Labels, [(⟨[103, 112, 117], [121, 101, 115], true⟩ : Taint)], x4_2.Cordon⟩ : Node)]), .slice (.own 31) 11 (List.map Pod.av [(⟨x8_0.Name, [119, 101, 98], x8_0.Prio, x8_0.Need, x8_0.Labels, x8_0.Sel, x8_0.Tols, x8_0.Key, x8_0.Most, x8_0.Node, x8_0.Hold⟩ : Pod), (⟨x8_1.Name, [119, 101, 98], x8_1.Prio, x8_1.Need, x8_1.Labels, x8_1.Sel, x8_1.Tols, x8_1.Key, x8_1.Most, x8_1.Node, x8_1.Hold⟩ : Pod), x8_2, x8_3]), .nils])), (5, (false, [AV.str x8_1.Name, AV.str [119, 101, 98], AV.int x8_1.Prio, AV.lst 2 Amount.av x8_1.Need, AV.lst 2 Pair.av x8_1.Labels, AV.lst 3 Term.av x8_1.Sel, AV.lst 3 Tol.av x8_1.Tols, AV.str x8_1.Key, AV.int x8_1.Most, AV.str x8_1.Node, AV.bool x8_1.Hold])), (4, (false, [AV.str x8_0.Name, AV.str [119, 101, 98], AV.int x8_0.Prio, AV.lst 2 Amount.av x8_0.Need, AV.lst 2 Pair.av x8_0.Labels, AV.lst 3 Term.av x8_0.Sel, AV.lst 3 Tol.av x8_0.Tols, AV.str x8_0.Key, AV.int x8_0.Most, AV.str x8_0.Node, AV.bool x8_0.Hold])), (7, (false, x8_3.cs)), (6, (false, x8_2.cs)), (3, (false, [AV.str x4_2.Name, AV.lst 2 Amount.av x4_2.Cap, AV.lst 2 Pair.av x4_2.Labels, .slice (.own 15) 3 (List.map Taint.av [(⟨[103, 112, 117], [121, 101, 115], true⟩ : Taint)]), AV.bool x4_2.Cordon])), (2, (false, x4_1.cs)), (1, (false, x4_0.cs))], [], [(36, (3, 1, 4)), (31, (44, 11, 4)), (26, (71, 5, 3)), (15, (164, 3, 1))]⟩) (by kernel_rfl) ⟨len_map _ _, trivial⟩ ?_
  refine awp_cond (t := decide (¬ (List.length x16_4 : Int) = (4 : Int))) rfl (fun hb => ?_) (fun hb => ?_)
  · rw [if_pos hb] at h
    refine awp_sr kpNone [] [] [0] (cs := []) (st' := ⟨122, [(0, AV.bool false)], [(9, (false, [AV.fl 4596373779694328218, AV.fl 4605380978949069210])), (8, (false, [.slice (.own 26) 5 (List.map Node.av [x4_0, x4_1, (⟨x4_2.Name, x4_2.Cap, x4_2.Labels, [(⟨[103, 112, 117], [121, 101, 115], true⟩ : Taint)], x4_2.Cordon⟩ : Node)]), .slice (.own 31) 11 (List.map Pod.av [(⟨x8_0.Name, [119, 101, 98], x8_0.Prio, x8_0.Need, x8_0.Labels, x8_0.Sel, x8_0.Tols, x8_0.Key, x8_0.Most, x8_0.Node, x8_0.Hold⟩ : Pod), (⟨x8_1.Name, [119, 101, 98], x8_1.Prio, x8_1.Need, x8_1.Labels, x8_1.Sel, x8_1.Tols, x8_1.Key, x8_1.Most, x8_1.Node, x8_1.Hold⟩ : Pod), x8_2, x8_3]), .nils])), (5, (false, [AV.str x8_1.Name, AV.str [119, 101, 98], AV.int x8_1.Prio, AV.lst 2 Amount.av x8_1.Need, AV.lst 2 Pair.av x8_1.Labels, AV.lst 3 Term.av x8_1.Sel, AV.lst 3 Tol.av x8_1.Tols, AV.str x8_1.Key, AV.int x8_1.Most, AV.str x8_1.Node, AV.bool x8_1.Hold])), (4, (false, [AV.str x8_0.Name, AV.str [119, 101, 98], AV.int x8_0.Prio, AV.lst 2 Amount.av x8_0.Need, AV.lst 2 Pair.av x8_0.Labels, AV.lst 3 Term.av x8_0.Sel, AV.lst 3 Tol.av x8_0.Tols, AV.str x8_0.Key, AV.int x8_0.Most, AV.str x8_0.Node, AV.bool x8_0.Hold])), (7, (false, x8_3.cs)), (6, (false, x8_2.cs)), (3, (false, [AV.str x4_2.Name, AV.lst 2 Amount.av x4_2.Cap, AV.lst 2 Pair.av x4_2.Labels, .slice (.own 15) 3 (List.map Taint.av [(⟨[103, 112, 117], [121, 101, 115], true⟩ : Taint)]), AV.bool x4_2.Cordon])), (2, (false, x4_1.cs)), (1, (false, x4_0.cs))], [], [(36, (3, 1, 4)), (31, (44, 11, 4)), (26, (71, 5, 3)), (15, (164, 3, 1))]⟩) (by kernel_rfl) trivial ?_
    have h := Option.some.inj h
    subst h
    exact awp_ret ⟨[AV.bool false], by kernel_rfl, Lw.refl _⟩
  · rw [if_false hb] at h
    refine awp_skip ?_
    refine hN17 _ ?_
    refine awp_seq fun N22 hN22 => ?_
    refine awp_to (σ := Bool) (fun p35 => ⟨122, [(0, AV.bool p35)], [(9, (false, [AV.fl 4596373779694328218, AV.fl 4605380978949069210])), (8, (false, [.slice (.own 26) 5 (List.map Node.av [x4_0, x4_1, (⟨x4_2.Name, x4_2.Cap, x4_2.Labels, [(⟨[103, 112, 117], [121, 101, 115], true⟩ : Taint)], x4_2.Cordon⟩ : Node)]), .slice (.own 31) 11 (List.map Pod.av [(⟨x8_0.Name, [119, 101, 98], x8_0.Prio, x8_0.Need, x8_0.Labels, x8_0.Sel, x8_0.Tols, x8_0.Key, x8_0.Most, x8_0.Node, x8_0.Hold⟩ : Pod), (⟨x8_1.Name, [119, 101, 98], x8_1.Prio, x8_1.Need, x8_1.Labels, x8_1.Sel, x8_1.Tols, x8_1.Key, x8_1.Most, x8_1.Node, x8_1.Hold⟩ : Pod), x8_2, x8_3]), .nils])), (5, (false, [AV.str x8_1.Name, AV.str [119, 101, 98], AV.int x8_1.Prio, AV.lst 2 Amount.av x8_1.Need, AV.lst 2 Pair.av x8_1.Labels, AV.lst 3 Term.av x8_1.Sel, AV.lst 3 Tol.av x8_1.Tols, AV.str x8_1.Key, AV.int x8_1.Most, AV.str x8_1.Node, AV.bool x8_1.Hold])), (4, (false, [AV.str x8_0.Name, AV.str [119, 101, 98], AV.int x8_0.Prio, AV.lst 2 Amount.av x8_0.Need, AV.lst 2 Pair.av x8_0.Labels, AV.lst 3 Term.av x8_0.Sel, AV.lst 3 Tol.av x8_0.Tols, AV.str x8_0.Key, AV.int x8_0.Most, AV.str x8_0.Node, AV.bool x8_0.Hold])), (7, (false, x8_3.cs)), (6, (false, x8_2.cs)), (3, (false, [AV.str x4_2.Name, AV.lst 2 Amount.av x4_2.Cap, AV.lst 2 Pair.av x4_2.Labels, .slice (.own 15) 3 (List.map Taint.av [(⟨[103, 112, 117], [121, 101, 115], true⟩ : Taint)]), AV.bool x4_2.Cordon])), (2, (false, x4_1.cs)), (1, (false, x4_0.cs))], [], [(15, (164, 3, List.length (List.map Taint.av [(⟨[103, 112, 117], [121, 101, 115], true⟩ : Taint)]))), (26, (71, 5, List.length (List.map Node.av [x4_0, x4_1, (⟨x4_2.Name, x4_2.Cap, x4_2.Labels, [(⟨[103, 112, 117], [121, 101, 115], true⟩ : Taint)], x4_2.Cordon⟩ : Node)]))), (31, (44, 11, List.length (List.map Pod.av [(⟨x8_0.Name, [119, 101, 98], x8_0.Prio, x8_0.Need, x8_0.Labels, x8_0.Sel, x8_0.Tols, x8_0.Key, x8_0.Most, x8_0.Node, x8_0.Hold⟩ : Pod), (⟨x8_1.Name, [119, 101, 98], x8_1.Prio, x8_1.Need, x8_1.Labels, x8_1.Sel, x8_1.Tols, x8_1.Key, x8_1.Most, x8_1.Node, x8_1.Hold⟩ : Pod), x8_2, x8_3])))]⟩) (fun p35 => F42.j35 p35 = some r) (fun p35 h => ?_) (fun N35 hJ35 => ?_)
    · unfold F42.j35 at h
      refine hN22 _ ?_
      have h := Option.some.inj h
      subst h
      exact awp_ret ⟨[AV.bool p35], by kernel_rfl, Lw.refl _⟩
    · obtain ⟨x23_1, hx23_1, h⟩ := Option.bind_eq_some_iff.1 h
      by_cases hg24 : decide (x23_1.Pod = [116]) = true
      · rw [if_pos hg24] at h
        obtain ⟨x23_7, hx23_7, h⟩ := Option.bind_eq_some_iff.1 h
        by_cases hg25 : decide (x23_7.Why = (1 : Int)) = true
        · rw [if_pos hg25] at h
          obtain ⟨x23_14, hx23_14, h⟩ := Option.bind_eq_some_iff.1 h
          by_cases hg26 : decide (x23_14.Pod = [113]) = true
          · rw [if_pos hg26] at h
            obtain ⟨x23_21, hx23_21, h⟩ := Option.bind_eq_some_iff.1 h
            by_cases hg27 : decide (x23_21.Why = (3 : Int)) = true
            · rw [if_pos hg27] at h
              obtain ⟨x23_28, hx23_28, h⟩ := Option.bind_eq_some_iff.1 h
              by_cases hg28 : decide (x23_28.Pod = [112]) = true
              · rw [if_pos hg28] at h
                obtain ⟨x23_35, hx23_35, h⟩ := Option.bind_eq_some_iff.1 h
                by_cases hg29 : decide (x23_35.Why = (4 : Int)) = true
                · rw [if_pos hg29] at h
                  obtain ⟨x23_42, hx23_42, h⟩ := Option.bind_eq_some_iff.1 h
                  by_cases hg30 : decide (x23_42.Pod = [114]) = true
                  · rw [if_pos hg30] at h
                    obtain ⟨x23_49, hx23_49, h⟩ := Option.bind_eq_some_iff.1 h
                    by_cases hg31 : decide (x23_49.Why = (5 : Int)) = true
                    · rw [if_pos hg31] at h
                      obtain ⟨x23_57, hx23_57, h⟩ := Option.bind_eq_some_iff.1 h
                      obtain ⟨x23_59, hx23_59, h⟩ := Option.bind_eq_some_iff.1 h
                      by_cases hg32 : x23_59 = true
                      · rw [if_pos hg32] at h
                        obtain ⟨x23_64, hx23_64, h⟩ := Option.bind_eq_some_iff.1 h
                        by_cases hg33 : decide ((List.length x23_64 : Int) = (0 : Int)) = true
                        · rw [if_pos hg33] at h
                          obtain ⟨x23_71, hx23_71, h⟩ := Option.bind_eq_some_iff.1 h
                          by_cases hg34 : decide (x23_71 = (6 : Int)) = true
                          · rw [if_pos hg34] at h
                            obtain ⟨x23_77, hx23_77, h⟩ := Option.bind_eq_some_iff.1 h
                            refine awp_reg kpNone [(1, Found.av x23_1), (7, Found.av x23_7), (14, Found.av x23_14), (21, Found.av x23_21), (28, Found.av x23_28), (35, Found.av x23_35), (42, Found.av x23_42), (49, Found.av x23_49), (57, AV.lst 1 AV.str x23_57), (59, AV.bool x23_59), (64, AV.lst 1 AV.str x23_64), (65, AV.int (List.length x23_64 : Int)), (71, AV.int x23_71), (77, AV.int x23_77)] [(5, true), (12, true), (19, true), (26, true), (33, true), (40, true), (47, true), (54, true), (61, true), (68, true), (74, true)] [0] (cs := [(0 ≤ (0 : Int)), ((List.map Found.av x16_4)[Int.toNat (0 : Int)]? = some (Found.av x23_1)), (decide (x23_1.Pod = [116]) = true), (0 ≤ (0 : Int)), ((List.map Found.av x16_4)[Int.toNat (0 : Int)]? = some (Found.av x23_7)), (decide (x23_7.Why = (1 : Int)) = true), (0 ≤ (1 : Int)), ((List.map Found.av x16_4)[Int.toNat (1 : Int)]? = some (Found.av x23_14)), (decide (x23_14.Pod = [113]) = true), (0 ≤ (1 : Int)), ((List.map Found.av x16_4)[Int.toNat (1 : Int)]? = some (Found.av x23_21)), (decide (x23_21.Why = (3 : Int)) = true), (0 ≤ (2 : Int)), ((List.map Found.av x16_4)[Int.toNat (2 : Int)]? = some (Found.av x23_28)), (decide (x23_28.Pod = [112]) = true), (0 ≤ (2 : Int)), ((List.map Found.av x16_4)[Int.toNat (2 : Int)]? = some (Found.av x23_35)), (decide (x23_35.Why = (4 : Int)) = true), (0 ≤ (3 : Int)), ((List.map Found.av x16_4)[Int.toNat (3 : Int)]? = some (Found.av x23_42)), (decide (x23_42.Pod = [114]) = true), (0 ≤ (3 : Int)), ((List.map Found.av x16_4)[Int.toNat (3 : Int)]? = some (Found.av x23_49)), (decide (x23_49.Why = (5 : Int)) = true), (Det Tryz.prog 46 [.agg [AV.lst 5 Node.av [x4_0, x4_1, (⟨x4_2.Name, x4_2.Cap, x4_2.Labels, [(⟨[103, 112, 117], [121, 101, 115], true⟩ : Taint)], x4_2.Cordon⟩ : Node)], AV.lst 11 Pod.av [(⟨x8_0.Name, [119, 101, 98], x8_0.Prio, x8_0.Need, x8_0.Labels, x8_0.Sel, x8_0.Tols, x8_0.Key, x8_0.Most, x8_0.Node, x8_0.Hold⟩ : Pod), (⟨x8_1.Name, [119, 101, 98], x8_1.Prio, x8_1.Need, x8_1.Labels, x8_1.Sel, x8_1.Tols, x8_1.Key, x8_1.Most, x8_1.Node, x8_1.Hold⟩ : Pod), x8_2, x8_3], .nils], AV.int 4, .agg [AV.fl 4596373779694328218, AV.fl 4605380978949069210]] (.ret (AV.lst 1 AV.str x23_57))), (Det Tryz.prog 36 [AV.lst 1 AV.str x23_57, AV.lst 1 AV.str [[112], [113]]] (.ret (AV.bool x23_59))), (x23_59 = true), (Det Tryz.prog 46 [.agg [AV.lst 5 Node.av [x4_0, x4_1, (⟨x4_2.Name, x4_2.Cap, x4_2.Labels, [(⟨[103, 112, 117], [121, 101, 115], true⟩ : Taint)], x4_2.Cordon⟩ : Node)], AV.lst 11 Pod.av [(⟨x8_0.Name, [119, 101, 98], x8_0.Prio, x8_0.Need, x8_0.Labels, x8_0.Sel, x8_0.Tols, x8_0.Key, x8_0.Most, x8_0.Node, x8_0.Hold⟩ : Pod), (⟨x8_1.Name, [119, 101, 98], x8_1.Prio, x8_1.Need, x8_1.Labels, x8_1.Sel, x8_1.Tols, x8_1.Key, x8_1.Most, x8_1.Node, x8_1.Hold⟩ : Pod), x8_2, x8_3], .nils], AV.int 9, .agg [AV.fl 4596373779694328218, AV.fl 4605380978949069210]] (.ret (AV.lst 1 AV.str x23_64))), ((AV.int (List.length x23_64 : Int) = .val (.int .i64 (List.length (List.map AV.str x23_64) : Int)))), (decide ((List.length x23_64 : Int) = (0 : Int)) = true), (Det Tryz.prog 45 [.agg [AV.fl 0, AV.fl 0, AV.lst 1 AV.int [1, 1]]] (.ret (AV.int x23_71))), (decide (x23_71 = (6 : Int)) = true), (Det Tryz.prog 45 [.agg [AV.fl 0, AV.fl 0, AV.lst 1 AV.int [6]]] (.ret (AV.int x23_77)))]) (st' := ⟨122, [(0, AV.bool (decide (x23_77 = (1 : Int))))], [(9, (false, [AV.fl 4596373779694328218, AV.fl 4605380978949069210])), (8, (false, [.slice (.own 26) 5 (List.map Node.av [x4_0, x4_1, (⟨x4_2.Name, x4_2.Cap, x4_2.Labels, [(⟨[103, 112, 117], [121, 101, 115], true⟩ : Taint)], x4_2.Cordon⟩ : Node)]), .slice (.own 31) 11 (List.map Pod.av [(⟨x8_0.Name, [119, 101, 98], x8_0.Prio, x8_0.Need, x8_0.Labels, x8_0.Sel, x8_0.Tols, x8_0.Key, x8_0.Most, x8_0.Node, x8_0.Hold⟩ : Pod), (⟨x8_1.Name, [119, 101, 98], x8_1.Prio, x8_1.Need, x8_1.Labels, x8_1.Sel, x8_1.Tols, x8_1.Key, x8_1.Most, x8_1.Node, x8_1.Hold⟩ : Pod), x8_2, x8_3]), .nils])), (5, (false, [AV.str x8_1.Name, AV.str [119, 101, 98], AV.int x8_1.Prio, AV.lst 2 Amount.av x8_1.Need, AV.lst 2 Pair.av x8_1.Labels, AV.lst 3 Term.av x8_1.Sel, AV.lst 3 Tol.av x8_1.Tols, AV.str x8_1.Key, AV.int x8_1.Most, AV.str x8_1.Node, AV.bool x8_1.Hold])), (4, (false, [AV.str x8_0.Name, AV.str [119, 101, 98], AV.int x8_0.Prio, AV.lst 2 Amount.av x8_0.Need, AV.lst 2 Pair.av x8_0.Labels, AV.lst 3 Term.av x8_0.Sel, AV.lst 3 Tol.av x8_0.Tols, AV.str x8_0.Key, AV.int x8_0.Most, AV.str x8_0.Node, AV.bool x8_0.Hold])), (7, (false, x8_3.cs)), (6, (false, x8_2.cs)), (3, (false, [AV.str x4_2.Name, AV.lst 2 Amount.av x4_2.Cap, AV.lst 2 Pair.av x4_2.Labels, .slice (.own 15) 3 (List.map Taint.av [(⟨[103, 112, 117], [121, 101, 115], true⟩ : Taint)]), AV.bool x4_2.Cordon])), (2, (false, x4_1.cs)), (1, (false, x4_0.cs))], [], [(117, (3, 1, 1)), (111, (3, 1, 2)), (100, (9, 1, 2)), (36, (3, 1, 4)), (31, (44, 11, 4)), (26, (71, 5, 3)), (15, (164, 3, 1))]⟩) (by kernel_rfl) ⟨getI_le hx23_1, getI_map hx23_1 _, hg24, getI_le hx23_7, getI_map hx23_7 _, hg25, getI_le hx23_14, getI_map hx23_14 _, hg26, getI_le hx23_21, getI_map hx23_21 _, hg27, getI_le hx23_28, getI_map hx23_28 _, hg28, getI_le hx23_35, getI_map hx23_35 _, hg29, getI_le hx23_42, getI_map hx23_42 _, hg30, getI_le hx23_49, getI_map hx23_49 _, hg31, Det.args (d46 (⟨[x4_0, x4_1, (⟨x4_2.Name, x4_2.Cap, x4_2.Labels, [(⟨[103, 112, 117], [121, 101, 115], true⟩ : Taint)], x4_2.Cordon⟩ : Node)], [(⟨x8_0.Name, [119, 101, 98], x8_0.Prio, x8_0.Need, x8_0.Labels, x8_0.Sel, x8_0.Tols, x8_0.Key, x8_0.Most, x8_0.Node, x8_0.Hold⟩ : Pod), (⟨x8_1.Name, [119, 101, 98], x8_1.Prio, x8_1.Need, x8_1.Labels, x8_1.Sel, x8_1.Tols, x8_1.Key, x8_1.Most, x8_1.Node, x8_1.Hold⟩ : Pod), x8_2, x8_3], ([] : (List Budget))⟩ : State) 4 (⟨4596373779694328218, 4605380978949069210⟩ : Marks) _ hx23_57) ⟨(Lw.aggL ⟨(Lw.refl _), (Lw.refl _), (Lw.nils _), trivial⟩), (Lw.refl _), (Lw.refl _), trivial⟩, d36 x23_57 [[112], [113]] _ hx23_59, hg32, Det.args (d46 (⟨[x4_0, x4_1, (⟨x4_2.Name, x4_2.Cap, x4_2.Labels, [(⟨[103, 112, 117], [121, 101, 115], true⟩ : Taint)], x4_2.Cordon⟩ : Node)], [(⟨x8_0.Name, [119, 101, 98], x8_0.Prio, x8_0.Need, x8_0.Labels, x8_0.Sel, x8_0.Tols, x8_0.Key, x8_0.Most, x8_0.Node, x8_0.Hold⟩ : Pod), (⟨x8_1.Name, [119, 101, 98], x8_1.Prio, x8_1.Need, x8_1.Labels, x8_1.Sel, x8_1.Tols, x8_1.Key, x8_1.Most, x8_1.Node, x8_1.Hold⟩ : Pod), x8_2, x8_3], ([] : (List Budget))⟩ : State) 9 (⟨4596373779694328218, 4605380978949069210⟩ : Marks) _ hx23_64) ⟨(Lw.aggL ⟨(Lw.refl _), (Lw.refl _), (Lw.nils _), trivial⟩), (Lw.refl _), (Lw.refl _), trivial⟩, len_map _ _, hg33, c45 (⟨(⟨0, 0⟩ : Marks), [1, 1]⟩ : Conf) _ hx23_71, hg34, c45 (⟨(⟨0, 0⟩ : Marks), [6]⟩ : Conf) _ hx23_77, trivial⟩ ?_
                            exact hJ35 (decide (x23_77 = (1 : Int))) _ h (Le.mk rfl ⟨rfl, trivial⟩ ⟨⟨rfl, ⟨rfl, rfl, trivial⟩⟩, ⟨rfl, ⟨.inl ⟨rfl, rfl⟩, .inl ⟨rfl, rfl⟩, rfl, trivial⟩⟩, ⟨rfl, ⟨rfl, rfl, rfl, .inl rfl, .inl rfl, .inl rfl, .inl rfl, rfl, rfl, rfl, rfl, trivial⟩⟩, ⟨rfl, ⟨rfl, rfl, rfl, .inl rfl, .inl rfl, .inl rfl, .inl rfl, rfl, rfl, rfl, rfl, trivial⟩⟩, ⟨rfl, ⟨rfl, rfl, rfl, .inl rfl, .inl rfl, .inl rfl, .inl rfl, rfl, rfl, rfl, rfl, trivial⟩⟩, ⟨rfl, ⟨rfl, rfl, rfl, .inl rfl, .inl rfl, .inl rfl, .inl rfl, rfl, rfl, rfl, rfl, trivial⟩⟩, ⟨rfl, ⟨rfl, .inl rfl, .inl rfl, .inl ⟨rfl, rfl⟩, rfl, trivial⟩⟩, ⟨rfl, ⟨rfl, .inl rfl, .inl rfl, .inl rfl, rfl, trivial⟩⟩, ⟨rfl, ⟨rfl, .inl rfl, .inl rfl, .inl rfl, rfl, trivial⟩⟩, trivial⟩ ⟨rfl, rfl, rfl, trivial⟩ trivial)
                          · rw [if_neg hg34] at h
                            have hg34 := Bool.eq_false_iff.2 hg34
                            refine awp_reg kpNone [(1, Found.av x23_1), (7, Found.av x23_7), (14, Found.av x23_14), (21, Found.av x23_21), (28, Found.av x23_28), (35, Found.av x23_35), (42, Found.av x23_42), (49, Found.av x23_49), (57, AV.lst 1 AV.str x23_57), (59, AV.bool x23_59), (64, AV.lst 1 AV.str x23_64), (65, AV.int (List.length x23_64 : Int)), (71, AV.int x23_71)] [(5, true), (12, true), (19, true), (26, true), (33, true), (40, true), (47, true), (54, true), (61, true), (68, true), (74, false)] [0] (cs := [(0 ≤ (0 : Int)), ((List.map Found.av x16_4)[Int.toNat (0 : Int)]? = some (Found.av x23_1)), (decide (x23_1.Pod = [116]) = true), (0 ≤ (0 : Int)), ((List.map Found.av x16_4)[Int.toNat (0 : Int)]? = some (Found.av x23_7)), (decide (x23_7.Why = (1 : Int)) = true), (0 ≤ (1 : Int)), ((List.map Found.av x16_4)[Int.toNat (1 : Int)]? = some (Found.av x23_14)), (decide (x23_14.Pod = [113]) = true), (0 ≤ (1 : Int)), ((List.map Found.av x16_4)[Int.toNat (1 : Int)]? = some (Found.av x23_21)), (decide (x23_21.Why = (3 : Int)) = true), (0 ≤ (2 : Int)), ((List.map Found.av x16_4)[Int.toNat (2 : Int)]? = some (Found.av x23_28)), (decide (x23_28.Pod = [112]) = true), (0 ≤ (2 : Int)), ((List.map Found.av x16_4)[Int.toNat (2 : Int)]? = some (Found.av x23_35)), (decide (x23_35.Why = (4 : Int)) = true), (0 ≤ (3 : Int)), ((List.map Found.av x16_4)[Int.toNat (3 : Int)]? = some (Found.av x23_42)), (decide (x23_42.Pod = [114]) = true), (0 ≤ (3 : Int)), ((List.map Found.av x16_4)[Int.toNat (3 : Int)]? = some (Found.av x23_49)), (decide (x23_49.Why = (5 : Int)) = true), (Det Tryz.prog 46 [.agg [AV.lst 5 Node.av [x4_0, x4_1, (⟨x4_2.Name, x4_2.Cap, x4_2.Labels, [(⟨[103, 112, 117], [121, 101, 115], true⟩ : Taint)], x4_2.Cordon⟩ : Node)], AV.lst 11 Pod.av [(⟨x8_0.Name, [119, 101, 98], x8_0.Prio, x8_0.Need, x8_0.Labels, x8_0.Sel, x8_0.Tols, x8_0.Key, x8_0.Most, x8_0.Node, x8_0.Hold⟩ : Pod), (⟨x8_1.Name, [119, 101, 98], x8_1.Prio, x8_1.Need, x8_1.Labels, x8_1.Sel, x8_1.Tols, x8_1.Key, x8_1.Most, x8_1.Node, x8_1.Hold⟩ : Pod), x8_2, x8_3], .nils], AV.int 4, .agg [AV.fl 4596373779694328218, AV.fl 4605380978949069210]] (.ret (AV.lst 1 AV.str x23_57))), (Det Tryz.prog 36 [AV.lst 1 AV.str x23_57, AV.lst 1 AV.str [[112], [113]]] (.ret (AV.bool x23_59))), (x23_59 = true), (Det Tryz.prog 46 [.agg [AV.lst 5 Node.av [x4_0, x4_1, (⟨x4_2.Name, x4_2.Cap, x4_2.Labels, [(⟨[103, 112, 117], [121, 101, 115], true⟩ : Taint)], x4_2.Cordon⟩ : Node)], AV.lst 11 Pod.av [(⟨x8_0.Name, [119, 101, 98], x8_0.Prio, x8_0.Need, x8_0.Labels, x8_0.Sel, x8_0.Tols, x8_0.Key, x8_0.Most, x8_0.Node, x8_0.Hold⟩ : Pod), (⟨x8_1.Name, [119, 101, 98], x8_1.Prio, x8_1.Need, x8_1.Labels, x8_1.Sel, x8_1.Tols, x8_1.Key, x8_1.Most, x8_1.Node, x8_1.Hold⟩ : Pod), x8_2, x8_3], .nils], AV.int 9, .agg [AV.fl 4596373779694328218, AV.fl 4605380978949069210]] (.ret (AV.lst 1 AV.str x23_64))), ((AV.int (List.length x23_64 : Int) = .val (.int .i64 (List.length (List.map AV.str x23_64) : Int)))), (decide ((List.length x23_64 : Int) = (0 : Int)) = true), (Det Tryz.prog 45 [.agg [AV.fl 0, AV.fl 0, AV.lst 1 AV.int [1, 1]]] (.ret (AV.int x23_71))), (decide (x23_71 = (6 : Int)) = false)]) (st' := ⟨122, [(0, AV.bool false)], [(9, (false, [AV.fl 4596373779694328218, AV.fl 4605380978949069210])), (8, (false, [.slice (.own 26) 5 (List.map Node.av [x4_0, x4_1, (⟨x4_2.Name, x4_2.Cap, x4_2.Labels, [(⟨[103, 112, 117], [121, 101, 115], true⟩ : Taint)], x4_2.Cordon⟩ : Node)]), .slice (.own 31) 11 (List.map Pod.av [(⟨x8_0.Name, [119, 101, 98], x8_0.Prio, x8_0.Need, x8_0.Labels, x8_0.Sel, x8_0.Tols, x8_0.Key, x8_0.Most, x8_0.Node, x8_0.Hold⟩ : Pod), (⟨x8_1.Name, [119, 101, 98], x8_1.Prio, x8_1.Need, x8_1.Labels, x8_1.Sel, x8_1.Tols, x8_1.Key, x8_1.Most, x8_1.Node, x8_1.Hold⟩ : Pod), x8_2, x8_3]), .nils])), (5, (false, [AV.str x8_1.Name, AV.str [119, 101, 98], AV.int x8_1.Prio, AV.lst 2 Amount.av x8_1.Need, AV.lst 2 Pair.av x8_1.Labels, AV.lst 3 Term.av x8_1.Sel, AV.lst 3 Tol.av x8_1.Tols, AV.str x8_1.Key, AV.int x8_1.Most, AV.str x8_1.Node, AV.bool x8_1.Hold])), (4, (false, [AV.str x8_0.Name, AV.str [119, 101, 98], AV.int x8_0.Prio, AV.lst 2 Amount.av x8_0.Need, AV.lst 2 Pair.av x8_0.Labels, AV.lst 3 Term.av x8_0.Sel, AV.lst 3 Tol.av x8_0.Tols, AV.str x8_0.Key, AV.int x8_0.Most, AV.str x8_0.Node, AV.bool x8_0.Hold])), (7, (false, x8_3.cs)), (6, (false, x8_2.cs)), (3, (false, [AV.str x4_2.Name, AV.lst 2 Amount.av x4_2.Cap, AV.lst 2 Pair.av x4_2.Labels, .slice (.own 15) 3 (List.map Taint.av [(⟨[103, 112, 117], [121, 101, 115], true⟩ : Taint)]), AV.bool x4_2.Cordon])), (2, (false, x4_1.cs)), (1, (false, x4_0.cs))], [], [(111, (3, 1, 2)), (100, (9, 1, 2)), (36, (3, 1, 4)), (31, (44, 11, 4)), (26, (71, 5, 3)), (15, (164, 3, 1))]⟩) (by kernel_rfl) ⟨getI_le hx23_1, getI_map hx23_1 _, hg24, getI_le hx23_7, getI_map hx23_7 _, hg25, getI_le hx23_14, getI_map hx23_14 _, hg26, getI_le hx23_21, getI_map hx23_21 _, hg27, getI_le hx23_28, getI_map hx23_28 _, hg28, getI_le hx23_35, getI_map hx23_35 _, hg29, getI_le hx23_42, getI_map hx23_42 _, hg30, getI_le hx23_49, getI_map hx23_49 _, hg31, Det.args (d46 (⟨[x4_0, x4_1, (⟨x4_2.Name, x4_2.Cap, x4_2.Labels, [(⟨[103, 112, 117], [121, 101, 115], true⟩ : Taint)], x4_2.Cordon⟩ : Node)], [(⟨x8_0.Name, [119, 101, 98], x8_0.Prio, x8_0.Need, x8_0.Labels, x8_0.Sel, x8_0.Tols, x8_0.Key, x8_0.Most, x8_0.Node, x8_0.Hold⟩ : Pod), (⟨x8_1.Name, [119, 101, 98], x8_1.Prio, x8_1.Need, x8_1.Labels, x8_1.Sel, x8_1.Tols, x8_1.Key, x8_1.Most, x8_1.Node, x8_1.Hold⟩ : Pod), x8_2, x8_3], ([] : (List Budget))⟩ : State) 4 (⟨4596373779694328218, 4605380978949069210⟩ : Marks) _ hx23_57) ⟨(Lw.aggL ⟨(Lw.refl _), (Lw.refl _), (Lw.nils _), trivial⟩), (Lw.refl _), (Lw.refl _), trivial⟩, d36 x23_57 [[112], [113]] _ hx23_59, hg32, Det.args (d46 (⟨[x4_0, x4_1, (⟨x4_2.Name, x4_2.Cap, x4_2.Labels, [(⟨[103, 112, 117], [121, 101, 115], true⟩ : Taint)], x4_2.Cordon⟩ : Node)], [(⟨x8_0.Name, [119, 101, 98], x8_0.Prio, x8_0.Need, x8_0.Labels, x8_0.Sel, x8_0.Tols, x8_0.Key, x8_0.Most, x8_0.Node, x8_0.Hold⟩ : Pod), (⟨x8_1.Name, [119, 101, 98], x8_1.Prio, x8_1.Need, x8_1.Labels, x8_1.Sel, x8_1.Tols, x8_1.Key, x8_1.Most, x8_1.Node, x8_1.Hold⟩ : Pod), x8_2, x8_3], ([] : (List Budget))⟩ : State) 9 (⟨4596373779694328218, 4605380978949069210⟩ : Marks) _ hx23_64) ⟨(Lw.aggL ⟨(Lw.refl _), (Lw.refl _), (Lw.nils _), trivial⟩), (Lw.refl _), (Lw.refl _), trivial⟩, len_map _ _, hg33, c45 (⟨(⟨0, 0⟩ : Marks), [1, 1]⟩ : Conf) _ hx23_71, hg34, trivial⟩ ?_
                            exact hJ35 false _ h (Le.mk rfl ⟨rfl, trivial⟩ ⟨⟨rfl, ⟨rfl, rfl, trivial⟩⟩, ⟨rfl, ⟨.inl ⟨rfl, rfl⟩, .inl ⟨rfl, rfl⟩, rfl, trivial⟩⟩, ⟨rfl, ⟨rfl, rfl, rfl, .inl rfl, .inl rfl, .inl rfl, .inl rfl, rfl, rfl, rfl, rfl, trivial⟩⟩, ⟨rfl, ⟨rfl, rfl, rfl, .inl rfl, .inl rfl, .inl rfl, .inl rfl, rfl, rfl, rfl, rfl, trivial⟩⟩, ⟨rfl, ⟨rfl, rfl, rfl, .inl rfl, .inl rfl, .inl rfl, .inl rfl, rfl, rfl, rfl, rfl, trivial⟩⟩, ⟨rfl, ⟨rfl, rfl, rfl, .inl rfl, .inl rfl, .inl rfl, .inl rfl, rfl, rfl, rfl, rfl, trivial⟩⟩, ⟨rfl, ⟨rfl, .inl rfl, .inl rfl, .inl ⟨rfl, rfl⟩, rfl, trivial⟩⟩, ⟨rfl, ⟨rfl, .inl rfl, .inl rfl, .inl rfl, rfl, trivial⟩⟩, ⟨rfl, ⟨rfl, .inl rfl, .inl rfl, .inl rfl, rfl, trivial⟩⟩, trivial⟩ ⟨rfl, rfl, rfl, trivial⟩ trivial)
                        · rw [if_neg hg33] at h
                          have hg33 := Bool.eq_false_iff.2 hg33
                          refine awp_reg kpNone [(1, Found.av x23_1), (7, Found.av x23_7), (14, Found.av x23_14), (21, Found.av x23_21), (28, Found.av x23_28), (35, Found.av x23_35), (42, Found.av x23_42), (49, Found.av x23_49), (57, AV.lst 1 AV.str x23_57), (59, AV.bool x23_59), (64, AV.lst 1 AV.str x23_64), (65, AV.int (List.length x23_64 : Int))] [(5, true), (12, true), (19, true), (26, true), (33, true), (40, true), (47, true), (54, true), (61, true), (68, false)] [0] (cs := [(0 ≤ (0 : Int)), ((List.map Found.av x16_4)[Int.toNat (0 : Int)]? = some (Found.av x23_1)), (decide (x23_1.Pod = [116]) = true), (0 ≤ (0 : Int)), ((List.map Found.av x16_4)[Int.toNat (0 : Int)]? = some (Found.av x23_7)), (decide (x23_7.Why = (1 : Int)) = true), (0 ≤ (1 : Int)), ((List.map Found.av x16_4)[Int.toNat (1 : Int)]? = some (Found.av x23_14)), (decide (x23_14.Pod = [113]) = true), (0 ≤ (1 : Int)), ((List.map Found.av x16_4)[Int.toNat (1 : Int)]? = some (Found.av x23_21)), (decide (x23_21.Why = (3 : Int)) = true), (0 ≤ (2 : Int)), ((List.map Found.av x16_4)[Int.toNat (2 : Int)]? = some (Found.av x23_28)), (decide (x23_28.Pod = [112]) = true), (0 ≤ (2 : Int)), ((List.map Found.av x16_4)[Int.toNat (2 : Int)]? = some (Found.av x23_35)), (decide (x23_35.Why = (4 : Int)) = true), (0 ≤ (3 : Int)), ((List.map Found.av x16_4)[Int.toNat (3 : Int)]? = some (Found.av x23_42)), (decide (x23_42.Pod = [114]) = true), (0 ≤ (3 : Int)), ((List.map Found.av x16_4)[Int.toNat (3 : Int)]? = some (Found.av x23_49)), (decide (x23_49.Why = (5 : Int)) = true), (Det Tryz.prog 46 [.agg [AV.lst 5 Node.av [x4_0, x4_1, (⟨x4_2.Name, x4_2.Cap, x4_2.Labels, [(⟨[103, 112, 117], [121, 101, 115], true⟩ : Taint)], x4_2.Cordon⟩ : Node)], AV.lst 11 Pod.av [(⟨x8_0.Name, [119, 101, 98], x8_0.Prio, x8_0.Need, x8_0.Labels, x8_0.Sel, x8_0.Tols, x8_0.Key, x8_0.Most, x8_0.Node, x8_0.Hold⟩ : Pod), (⟨x8_1.Name, [119, 101, 98], x8_1.Prio, x8_1.Need, x8_1.Labels, x8_1.Sel, x8_1.Tols, x8_1.Key, x8_1.Most, x8_1.Node, x8_1.Hold⟩ : Pod), x8_2, x8_3], .nils], AV.int 4, .agg [AV.fl 4596373779694328218, AV.fl 4605380978949069210]] (.ret (AV.lst 1 AV.str x23_57))), (Det Tryz.prog 36 [AV.lst 1 AV.str x23_57, AV.lst 1 AV.str [[112], [113]]] (.ret (AV.bool x23_59))), (x23_59 = true), (Det Tryz.prog 46 [.agg [AV.lst 5 Node.av [x4_0, x4_1, (⟨x4_2.Name, x4_2.Cap, x4_2.Labels, [(⟨[103, 112, 117], [121, 101, 115], true⟩ : Taint)], x4_2.Cordon⟩ : Node)], AV.lst 11 Pod.av [(⟨x8_0.Name, [119, 101, 98], x8_0.Prio, x8_0.Need, x8_0.Labels, x8_0.Sel, x8_0.Tols, x8_0.Key, x8_0.Most, x8_0.Node, x8_0.Hold⟩ : Pod), (⟨x8_1.Name, [119, 101, 98], x8_1.Prio, x8_1.Need, x8_1.Labels, x8_1.Sel, x8_1.Tols, x8_1.Key, x8_1.Most, x8_1.Node, x8_1.Hold⟩ : Pod), x8_2, x8_3], .nils], AV.int 9, .agg [AV.fl 4596373779694328218, AV.fl 4605380978949069210]] (.ret (AV.lst 1 AV.str x23_64))), ((AV.int (List.length x23_64 : Int) = .val (.int .i64 (List.length (List.map AV.str x23_64) : Int)))), (decide ((List.length x23_64 : Int) = (0 : Int)) = false)]) (st' := ⟨122, [(0, AV.bool false)], [(9, (false, [AV.fl 4596373779694328218, AV.fl 4605380978949069210])), (8, (false, [.slice (.own 26) 5 (List.map Node.av [x4_0, x4_1, (⟨x4_2.Name, x4_2.Cap, x4_2.Labels, [(⟨[103, 112, 117], [121, 101, 115], true⟩ : Taint)], x4_2.Cordon⟩ : Node)]), .slice (.own 31) 11 (List.map Pod.av [(⟨x8_0.Name, [119, 101, 98], x8_0.Prio, x8_0.Need, x8_0.Labels, x8_0.Sel, x8_0.Tols, x8_0.Key, x8_0.Most, x8_0.Node, x8_0.Hold⟩ : Pod), (⟨x8_1.Name, [119, 101, 98], x8_1.Prio, x8_1.Need, x8_1.Labels, x8_1.Sel, x8_1.Tols, x8_1.Key, x8_1.Most, x8_1.Node, x8_1.Hold⟩ : Pod), x8_2, x8_3]), .nils])), (5, (false, [AV.str x8_1.Name, AV.str [119, 101, 98], AV.int x8_1.Prio, AV.lst 2 Amount.av x8_1.Need, AV.lst 2 Pair.av x8_1.Labels, AV.lst 3 Term.av x8_1.Sel, AV.lst 3 Tol.av x8_1.Tols, AV.str x8_1.Key, AV.int x8_1.Most, AV.str x8_1.Node, AV.bool x8_1.Hold])), (4, (false, [AV.str x8_0.Name, AV.str [119, 101, 98], AV.int x8_0.Prio, AV.lst 2 Amount.av x8_0.Need, AV.lst 2 Pair.av x8_0.Labels, AV.lst 3 Term.av x8_0.Sel, AV.lst 3 Tol.av x8_0.Tols, AV.str x8_0.Key, AV.int x8_0.Most, AV.str x8_0.Node, AV.bool x8_0.Hold])), (7, (false, x8_3.cs)), (6, (false, x8_2.cs)), (3, (false, [AV.str x4_2.Name, AV.lst 2 Amount.av x4_2.Cap, AV.lst 2 Pair.av x4_2.Labels, .slice (.own 15) 3 (List.map Taint.av [(⟨[103, 112, 117], [121, 101, 115], true⟩ : Taint)]), AV.bool x4_2.Cordon])), (2, (false, x4_1.cs)), (1, (false, x4_0.cs))], [], [(100, (9, 1, 2)), (36, (3, 1, 4)), (31, (44, 11, 4)), (26, (71, 5, 3)), (15, (164, 3, 1))]⟩) (by kernel_rfl) ⟨getI_le hx23_1, getI_map hx23_1 _, hg24, getI_le hx23_7, getI_map hx23_7 _, hg25, getI_le hx23_14, getI_map hx23_14 _, hg26, getI_le hx23_21, getI_map hx23_21 _, hg27, getI_le hx23_28, getI_map hx23_28 _, hg28, getI_le hx23_35, getI_map hx23_35 _, hg29, getI_le hx23_42, getI_map hx23_42 _, hg30, getI_le hx23_49, getI_map hx23_49 _, hg31, Det.args (d46 (⟨[x4_0, x4_1, (⟨x4_2.Name, x4_2.Cap, x4_2.Labels, [(⟨[103, 112, 117], [121, 101, 115], true⟩ : Taint)], x4_2.Cordon⟩ : Node)], [(⟨x8_0.Name, [119, 101, 98], x8_0.Prio, x8_0.Need, x8_0.Labels, x8_0.Sel, x8_0.Tols, x8_0.Key, x8_0.Most, x8_0.Node, x8_0.Hold⟩ : Pod), (⟨x8_1.Name, [119, 101, 98], x8_1.Prio, x8_1.Need, x8_1.Labels, x8_1.Sel, x8_1.Tols, x8_1.Key, x8_1.Most, x8_1.Node, x8_1.Hold⟩ : Pod), x8_2, x8_3], ([] : (List Budget))⟩ : State) 4 (⟨4596373779694328218, 4605380978949069210⟩ : Marks) _ hx23_57) ⟨(Lw.aggL ⟨(Lw.refl _), (Lw.refl _), (Lw.nils _), trivial⟩), (Lw.refl _), (Lw.refl _), trivial⟩, d36 x23_57 [[112], [113]] _ hx23_59, hg32, Det.args (d46 (⟨[x4_0, x4_1, (⟨x4_2.Name, x4_2.Cap, x4_2.Labels, [(⟨[103, 112, 117], [121, 101, 115], true⟩ : Taint)], x4_2.Cordon⟩ : Node)], [(⟨x8_0.Name, [119, 101, 98], x8_0.Prio, x8_0.Need, x8_0.Labels, x8_0.Sel, x8_0.Tols, x8_0.Key, x8_0.Most, x8_0.Node, x8_0.Hold⟩ : Pod), (⟨x8_1.Name, [119, 101, 98], x8_1.Prio, x8_1.Need, x8_1.Labels, x8_1.Sel, x8_1.Tols, x8_1.Key, x8_1.Most, x8_1.Node, x8_1.Hold⟩ : Pod), x8_2, x8_3], ([] : (List Budget))⟩ : State) 9 (⟨4596373779694328218, 4605380978949069210⟩ : Marks) _ hx23_64) ⟨(Lw.aggL ⟨(Lw.refl _), (Lw.refl _), (Lw.nils _), trivial⟩), (Lw.refl _), (Lw.refl _), trivial⟩, len_map _ _, hg33, trivial⟩ ?_
                          exact hJ35 false _ h (Le.mk rfl ⟨rfl, trivial⟩ ⟨⟨rfl, ⟨rfl, rfl, trivial⟩⟩, ⟨rfl, ⟨.inl ⟨rfl, rfl⟩, .inl ⟨rfl, rfl⟩, rfl, trivial⟩⟩, ⟨rfl, ⟨rfl, rfl, rfl, .inl rfl, .inl rfl, .inl rfl, .inl rfl, rfl, rfl, rfl, rfl, trivial⟩⟩, ⟨rfl, ⟨rfl, rfl, rfl, .inl rfl, .inl rfl, .inl rfl, .inl rfl, rfl, rfl, rfl, rfl, trivial⟩⟩, ⟨rfl, ⟨rfl, rfl, rfl, .inl rfl, .inl rfl, .inl rfl, .inl rfl, rfl, rfl, rfl, rfl, trivial⟩⟩, ⟨rfl, ⟨rfl, rfl, rfl, .inl rfl, .inl rfl, .inl rfl, .inl rfl, rfl, rfl, rfl, rfl, trivial⟩⟩, ⟨rfl, ⟨rfl, .inl rfl, .inl rfl, .inl ⟨rfl, rfl⟩, rfl, trivial⟩⟩, ⟨rfl, ⟨rfl, .inl rfl, .inl rfl, .inl rfl, rfl, trivial⟩⟩, ⟨rfl, ⟨rfl, .inl rfl, .inl rfl, .inl rfl, rfl, trivial⟩⟩, trivial⟩ ⟨rfl, rfl, rfl, trivial⟩ trivial)
                      · rw [if_neg hg32] at h
                        have hg32 := Bool.eq_false_iff.2 hg32
                        refine awp_reg kpNone [(1, Found.av x23_1), (7, Found.av x23_7), (14, Found.av x23_14), (21, Found.av x23_21), (28, Found.av x23_28), (35, Found.av x23_35), (42, Found.av x23_42), (49, Found.av x23_49), (57, AV.lst 1 AV.str x23_57), (59, AV.bool x23_59)] [(5, true), (12, true), (19, true), (26, true), (33, true), (40, true), (47, true), (54, true), (61, false)] [0] (cs := [(0 ≤ (0 : Int)), ((List.map Found.av x16_4)[Int.toNat (0 : Int)]? = some (Found.av x23_1)), (decide (x23_1.Pod = [116]) = true), (0 ≤ (0 : Int)), ((List.map Found.av x16_4)[Int.toNat (0 : Int)]? = some (Found.av x23_7)), (decide (x23_7.Why = (1 : Int)) = true), (0 ≤ (1 : Int)), ((List.map Found.av x16_4)[Int.toNat (1 : Int)]? = some (Found.av x23_14)), (decide (x23_14.Pod = [113]) = true), (0 ≤ (1 : Int)), ((List.map Found.av x16_4)[Int.toNat (1 : Int)]? = some (Found.av x23_21)), (decide (x23_21.Why = (3 : Int)) = true), (0 ≤ (2 : Int)), ((List.map Found.av x16_4)[Int.toNat (2 : Int)]? = some (Found.av x23_28)), (decide (x23_28.Pod = [112]) = true), (0 ≤ (2 : Int)), ((List.map Found.av x16_4)[Int.toNat (2 : Int)]? = some (Found.av x23_35)), (decide (x23_35.Why = (4 : Int)) = true), (0 ≤ (3 : Int)), ((List.map Found.av x16_4)[Int.toNat (3 : Int)]? = some (Found.av x23_42)), (decide (x23_42.Pod = [114]) = true), (0 ≤ (3 : Int)), ((List.map Found.av x16_4)[Int.toNat (3 : Int)]? = some (Found.av x23_49)), (decide (x23_49.Why = (5 : Int)) = true), (Det Tryz.prog 46 [.agg [AV.lst 5 Node.av [x4_0, x4_1, (⟨x4_2.Name, x4_2.Cap, x4_2.Labels, [(⟨[103, 112, 117], [121, 101, 115], true⟩ : Taint)], x4_2.Cordon⟩ : Node)], AV.lst 11 Pod.av [(⟨x8_0.Name, [119, 101, 98], x8_0.Prio, x8_0.Need, x8_0.Labels, x8_0.Sel, x8_0.Tols, x8_0.Key, x8_0.Most, x8_0.Node, x8_0.Hold⟩ : Pod), (⟨x8_1.Name, [119, 101, 98], x8_1.Prio, x8_1.Need, x8_1.Labels, x8_1.Sel, x8_1.Tols, x8_1.Key, x8_1.Most, x8_1.Node, x8_1.Hold⟩ : Pod), x8_2, x8_3], .nils], AV.int 4, .agg [AV.fl 4596373779694328218, AV.fl 4605380978949069210]] (.ret (AV.lst 1 AV.str x23_57))), (Det Tryz.prog 36 [AV.lst 1 AV.str x23_57, AV.lst 1 AV.str [[112], [113]]] (.ret (AV.bool x23_59))), (x23_59 = false)]) (st' := ⟨122, [(0, AV.bool false)], [(9, (false, [AV.fl 4596373779694328218, AV.fl 4605380978949069210])), (8, (false, [.slice (.own 26) 5 (List.map Node.av [x4_0, x4_1, (⟨x4_2.Name, x4_2.Cap, x4_2.Labels, [(⟨[103, 112, 117], [121, 101, 115], true⟩ : Taint)], x4_2.Cordon⟩ : Node)]), .slice (.own 31) 11 (List.map Pod.av [(⟨x8_0.Name, [119, 101, 98], x8_0.Prio, x8_0.Need, x8_0.Labels, x8_0.Sel, x8_0.Tols, x8_0.Key, x8_0.Most, x8_0.Node, x8_0.Hold⟩ : Pod), (⟨x8_1.Name, [119, 101, 98], x8_1.Prio, x8_1.Need, x8_1.Labels, x8_1.Sel, x8_1.Tols, x8_1.Key, x8_1.Most, x8_1.Node, x8_1.Hold⟩ : Pod), x8_2, x8_3]), .nils])), (5, (false, [AV.str x8_1.Name, AV.str [119, 101, 98], AV.int x8_1.Prio, AV.lst 2 Amount.av x8_1.Need, AV.lst 2 Pair.av x8_1.Labels, AV.lst 3 Term.av x8_1.Sel, AV.lst 3 Tol.av x8_1.Tols, AV.str x8_1.Key, AV.int x8_1.Most, AV.str x8_1.Node, AV.bool x8_1.Hold])), (4, (false, [AV.str x8_0.Name, AV.str [119, 101, 98], AV.int x8_0.Prio, AV.lst 2 Amount.av x8_0.Need, AV.lst 2 Pair.av x8_0.Labels, AV.lst 3 Term.av x8_0.Sel, AV.lst 3 Tol.av x8_0.Tols, AV.str x8_0.Key, AV.int x8_0.Most, AV.str x8_0.Node, AV.bool x8_0.Hold])), (7, (false, x8_3.cs)), (6, (false, x8_2.cs)), (3, (false, [AV.str x4_2.Name, AV.lst 2 Amount.av x4_2.Cap, AV.lst 2 Pair.av x4_2.Labels, .slice (.own 15) 3 (List.map Taint.av [(⟨[103, 112, 117], [121, 101, 115], true⟩ : Taint)]), AV.bool x4_2.Cordon])), (2, (false, x4_1.cs)), (1, (false, x4_0.cs))], [], [(100, (9, 1, 2)), (36, (3, 1, 4)), (31, (44, 11, 4)), (26, (71, 5, 3)), (15, (164, 3, 1))]⟩) (by kernel_rfl) ⟨getI_le hx23_1, getI_map hx23_1 _, hg24, getI_le hx23_7, getI_map hx23_7 _, hg25, getI_le hx23_14, getI_map hx23_14 _, hg26, getI_le hx23_21, getI_map hx23_21 _, hg27, getI_le hx23_28, getI_map hx23_28 _, hg28, getI_le hx23_35, getI_map hx23_35 _, hg29, getI_le hx23_42, getI_map hx23_42 _, hg30, getI_le hx23_49, getI_map hx23_49 _, hg31, Det.args (d46 (⟨[x4_0, x4_1, (⟨x4_2.Name, x4_2.Cap, x4_2.Labels, [(⟨[103, 112, 117], [121, 101, 115], true⟩ : Taint)], x4_2.Cordon⟩ : Node)], [(⟨x8_0.Name, [119, 101, 98], x8_0.Prio, x8_0.Need, x8_0.Labels, x8_0.Sel, x8_0.Tols, x8_0.Key, x8_0.Most, x8_0.Node, x8_0.Hold⟩ : Pod), (⟨x8_1.Name, [119, 101, 98], x8_1.Prio, x8_1.Need, x8_1.Labels, x8_1.Sel, x8_1.Tols, x8_1.Key, x8_1.Most, x8_1.Node, x8_1.Hold⟩ : Pod), x8_2, x8_3], ([] : (List Budget))⟩ : State) 4 (⟨4596373779694328218, 4605380978949069210⟩ : Marks) _ hx23_57) ⟨(Lw.aggL ⟨(Lw.refl _), (Lw.refl _), (Lw.nils _), trivial⟩), (Lw.refl _), (Lw.refl _), trivial⟩, d36 x23_57 [[112], [113]] _ hx23_59, hg32, trivial⟩ ?_
                        exact hJ35 false _ h (Le.mk rfl ⟨rfl, trivial⟩ ⟨⟨rfl, ⟨rfl, rfl, trivial⟩⟩, ⟨rfl, ⟨.inl ⟨rfl, rfl⟩, .inl ⟨rfl, rfl⟩, rfl, trivial⟩⟩, ⟨rfl, ⟨rfl, rfl, rfl, .inl rfl, .inl rfl, .inl rfl, .inl rfl, rfl, rfl, rfl, rfl, trivial⟩⟩, ⟨rfl, ⟨rfl, rfl, rfl, .inl rfl, .inl rfl, .inl rfl, .inl rfl, rfl, rfl, rfl, rfl, trivial⟩⟩, ⟨rfl, ⟨rfl, rfl, rfl, .inl rfl, .inl rfl, .inl rfl, .inl rfl, rfl, rfl, rfl, rfl, trivial⟩⟩, ⟨rfl, ⟨rfl, rfl, rfl, .inl rfl, .inl rfl, .inl rfl, .inl rfl, rfl, rfl, rfl, rfl, trivial⟩⟩, ⟨rfl, ⟨rfl, .inl rfl, .inl rfl, .inl ⟨rfl, rfl⟩, rfl, trivial⟩⟩, ⟨rfl, ⟨rfl, .inl rfl, .inl rfl, .inl rfl, rfl, trivial⟩⟩, ⟨rfl, ⟨rfl, .inl rfl, .inl rfl, .inl rfl, rfl, trivial⟩⟩, trivial⟩ ⟨rfl, rfl, rfl, trivial⟩ trivial)
                    · rw [if_neg hg31] at h
                      have hg31 := Bool.eq_false_iff.2 hg31
                      refine awp_reg kpNone [(1, Found.av x23_1), (7, Found.av x23_7), (14, Found.av x23_14), (21, Found.av x23_21), (28, Found.av x23_28), (35, Found.av x23_35), (42, Found.av x23_42), (49, Found.av x23_49)] [(5, true), (12, true), (19, true), (26, true), (33, true), (40, true), (47, true), (54, false)] [0] (cs := [(0 ≤ (0 : Int)), ((List.map Found.av x16_4)[Int.toNat (0 : Int)]? = some (Found.av x23_1)), (decide (x23_1.Pod = [116]) = true), (0 ≤ (0 : Int)), ((List.map Found.av x16_4)[Int.toNat (0 : Int)]? = some (Found.av x23_7)), (decide (x23_7.Why = (1 : Int)) = true), (0 ≤ (1 : Int)), ((List.map Found.av x16_4)[Int.toNat (1 : Int)]? = some (Found.av x23_14)), (decide (x23_14.Pod = [113]) = true), (0 ≤ (1 : Int)), ((List.map Found.av x16_4)[Int.toNat (1 : Int)]? = some (Found.av x23_21)), (decide (x23_21.Why = (3 : Int)) = true), (0 ≤ (2 : Int)), ((List.map Found.av x16_4)[Int.toNat (2 : Int)]? = some (Found.av x23_28)), (decide (x23_28.Pod = [112]) = true), (0 ≤ (2 : Int)), ((List.map Found.av x16_4)[Int.toNat (2 : Int)]? = some (Found.av x23_35)), (decide (x23_35.Why = (4 : Int)) = true), (0 ≤ (3 : Int)), ((List.map Found.av x16_4)[Int.toNat (3 : Int)]? = some (Found.av x23_42)), (decide (x23_42.Pod = [114]) = true), (0 ≤ (3 : Int)), ((List.map Found.av x16_4)[Int.toNat (3 : Int)]? = some (Found.av x23_49)), (decide (x23_49.Why = (5 : Int)) = false)]) (st' := ⟨122, [(0, AV.bool false)], [(9, (false, [AV.fl 4596373779694328218, AV.fl 4605380978949069210])), (8, (false, [.slice (.own 26) 5 (List.map Node.av [x4_0, x4_1, (⟨x4_2.Name, x4_2.Cap, x4_2.Labels, [(⟨[103, 112, 117], [121, 101, 115], true⟩ : Taint)], x4_2.Cordon⟩ : Node)]), .slice (.own 31) 11 (List.map Pod.av [(⟨x8_0.Name, [119, 101, 98], x8_0.Prio, x8_0.Need, x8_0.Labels, x8_0.Sel, x8_0.Tols, x8_0.Key, x8_0.Most, x8_0.Node, x8_0.Hold⟩ : Pod), (⟨x8_1.Name, [119, 101, 98], x8_1.Prio, x8_1.Need, x8_1.Labels, x8_1.Sel, x8_1.Tols, x8_1.Key, x8_1.Most, x8_1.Node, x8_1.Hold⟩ : Pod), x8_2, x8_3]), .nils])), (5, (false, [AV.str x8_1.Name, AV.str [119, 101, 98], AV.int x8_1.Prio, AV.lst 2 Amount.av x8_1.Need, AV.lst 2 Pair.av x8_1.Labels, AV.lst 3 Term.av x8_1.Sel, AV.lst 3 Tol.av x8_1.Tols, AV.str x8_1.Key, AV.int x8_1.Most, AV.str x8_1.Node, AV.bool x8_1.Hold])), (4, (false, [AV.str x8_0.Name, AV.str [119, 101, 98], AV.int x8_0.Prio, AV.lst 2 Amount.av x8_0.Need, AV.lst 2 Pair.av x8_0.Labels, AV.lst 3 Term.av x8_0.Sel, AV.lst 3 Tol.av x8_0.Tols, AV.str x8_0.Key, AV.int x8_0.Most, AV.str x8_0.Node, AV.bool x8_0.Hold])), (7, (false, x8_3.cs)), (6, (false, x8_2.cs)), (3, (false, [AV.str x4_2.Name, AV.lst 2 Amount.av x4_2.Cap, AV.lst 2 Pair.av x4_2.Labels, .slice (.own 15) 3 (List.map Taint.av [(⟨[103, 112, 117], [121, 101, 115], true⟩ : Taint)]), AV.bool x4_2.Cordon])), (2, (false, x4_1.cs)), (1, (false, x4_0.cs))], [], [(36, (3, 1, 4)), (31, (44, 11, 4)), (26, (71, 5, 3)), (15, (164, 3, 1))]⟩) (by kernel_rfl) ⟨getI_le hx23_1, getI_map hx23_1 _, hg24, getI_le hx23_7, getI_map hx23_7 _, hg25, getI_le hx23_14, getI_map hx23_14 _, hg26, getI_le hx23_21, getI_map hx23_21 _, hg27, getI_le hx23_28, getI_map hx23_28 _, hg28, getI_le hx23_35, getI_map hx23_35 _, hg29, getI_le hx23_42, getI_map hx23_42 _, hg30, getI_le hx23_49, getI_map hx23_49 _, hg31, trivial⟩ ?_
                      exact hJ35 false _ h (Le.mk rfl ⟨rfl, trivial⟩ ⟨⟨rfl, ⟨rfl, rfl, trivial⟩⟩, ⟨rfl, ⟨.inl ⟨rfl, rfl⟩, .inl ⟨rfl, rfl⟩, rfl, trivial⟩⟩, ⟨rfl, ⟨rfl, rfl, rfl, .inl rfl, .inl rfl, .inl rfl, .inl rfl, rfl, rfl, rfl, rfl, trivial⟩⟩, ⟨rfl, ⟨rfl, rfl, rfl, .inl rfl, .inl rfl, .inl rfl, .inl rfl, rfl, rfl, rfl, rfl, trivial⟩⟩, ⟨rfl, ⟨rfl, rfl, rfl, .inl rfl, .inl rfl, .inl rfl, .inl rfl, rfl, rfl, rfl, rfl, trivial⟩⟩, ⟨rfl, ⟨rfl, rfl, rfl, .inl rfl, .inl rfl, .inl rfl, .inl rfl, rfl, rfl, rfl, rfl, trivial⟩⟩, ⟨rfl, ⟨rfl, .inl rfl, .inl rfl, .inl ⟨rfl, rfl⟩, rfl, trivial⟩⟩, ⟨rfl, ⟨rfl, .inl rfl, .inl rfl, .inl rfl, rfl, trivial⟩⟩, ⟨rfl, ⟨rfl, .inl rfl, .inl rfl, .inl rfl, rfl, trivial⟩⟩, trivial⟩ ⟨rfl, rfl, rfl, trivial⟩ trivial)
                  · rw [if_neg hg30] at h
                    have hg30 := Bool.eq_false_iff.2 hg30
                    refine awp_reg kpNone [(1, Found.av x23_1), (7, Found.av x23_7), (14, Found.av x23_14), (21, Found.av x23_21), (28, Found.av x23_28), (35, Found.av x23_35), (42, Found.av x23_42)] [(5, true), (12, true), (19, true), (26, true), (33, true), (40, true), (47, false)] [0] (cs := [(0 ≤ (0 : Int)), ((List.map Found.av x16_4)[Int.toNat (0 : Int)]? = some (Found.av x23_1)), (decide (x23_1.Pod = [116]) = true), (0 ≤ (0 : Int)), ((List.map Found.av x16_4)[Int.toNat (0 : Int)]? = some (Found.av x23_7)), (decide (x23_7.Why = (1 : Int)) = true), (0 ≤ (1 : Int)), ((List.map Found.av x16_4)[Int.toNat (1 : Int)]? = some (Found.av x23_14)), (decide (x23_14.Pod = [113]) = true), (0 ≤ (1 : Int)), ((List.map Found.av x16_4)[Int.toNat (1 : Int)]? = some (Found.av x23_21)), (decide (x23_21.Why = (3 : Int)) = true), (0 ≤ (2 : Int)), ((List.map Found.av x16_4)[Int.toNat (2 : Int)]? = some (Found.av x23_28)), (decide (x23_28.Pod = [112]) = true), (0 ≤ (2 : Int)), ((List.map Found.av x16_4)[Int.toNat (2 : Int)]? = some (Found.av x23_35)), (decide (x23_35.Why = (4 : Int)) = true), (0 ≤ (3 : Int)), ((List.map Found.av x16_4)[Int.toNat (3 : Int)]? = some (Found.av x23_42)), (decide (x23_42.Pod = [114]) = false)]) (st' := ⟨122, [(0, AV.bool false)], [(9, (false, [AV.fl 4596373779694328218, AV.fl 4605380978949069210])), (8, (false, [.slice (.own 26) 5 (List.map Node.av [x4_0, x4_1, (⟨x4_2.Name, x4_2.Cap, x4_2.Labels, [(⟨[103, 112, 117], [121, 101, 115], true⟩ : Taint)], x4_2.Cordon⟩ : Node)]), .slice (.own 31) 11 (List.map Pod.av [(⟨x8_0.Name, [119, 101, 98], x8_0.Prio, x8_0.Need, x8_0.Labels, x8_0.Sel, x8_0.Tols, x8_0.Key, x8_0.Most, x8_0.Node, x8_0.Hold⟩ : Pod), (⟨x8_1.Name, [119, 101, 98], x8_1.Prio, x8_1.Need, x8_1.Labels, x8_1.Sel, x8_1.Tols, x8_1.Key, x8_1.Most, x8_1.Node, x8_1.Hold⟩ : Pod), x8_2, x8_3]), .nils])), (5, (false, [AV.str x8_1.Name, AV.str [119, 101, 98], AV.int x8_1.Prio, AV.lst 2 Amount.av x8_1.Need, AV.lst 2 Pair.av x8_1.Labels, AV.lst 3 Term.av x8_1.Sel, AV.lst 3 Tol.av x8_1.Tols, AV.str x8_1.Key, AV.int x8_1.Most, AV.str x8_1.Node, AV.bool x8_1.Hold])), (4, (false, [AV.str x8_0.Name, AV.str [119, 101, 98], AV.int x8_0.Prio, AV.lst 2 Amount.av x8_0.Need, AV.lst 2 Pair.av x8_0.Labels, AV.lst 3 Term.av x8_0.Sel, AV.lst 3 Tol.av x8_0.Tols, AV.str x8_0.Key, AV.int x8_0.Most, AV.str x8_0.Node, AV.bool x8_0.Hold])), (7, (false, x8_3.cs)), (6, (false, x8_2.cs)), (3, (false, [AV.str x4_2.Name, AV.lst 2 Amount.av x4_2.Cap, AV.lst 2 Pair.av x4_2.Labels, .slice (.own 15) 3 (List.map Taint.av [(⟨[103, 112, 117], [121, 101, 115], true⟩ : Taint)]), AV.bool x4_2.Cordon])), (2, (false, x4_1.cs)), (1, (false, x4_0.cs))], [], [(36, (3, 1, 4)), (31, (44, 11, 4)), (26, (71, 5, 3)), (15, (164, 3, 1))]⟩) (by kernel_rfl) ⟨getI_le hx23_1, getI_map hx23_1 _, hg24, getI_le hx23_7, getI_map hx23_7 _, hg25, getI_le hx23_14, getI_map hx23_14 _, hg26, getI_le hx23_21, getI_map hx23_21 _, hg27, getI_le hx23_28, getI_map hx23_28 _, hg28, getI_le hx23_35, getI_map hx23_35 _, hg29, getI_le hx23_42, getI_map hx23_42 _, hg30, trivial⟩ ?_
                    exact hJ35 false _ h (Le.mk rfl ⟨rfl, trivial⟩ ⟨⟨rfl, ⟨rfl, rfl, trivial⟩⟩, ⟨rfl, ⟨.inl ⟨rfl, rfl⟩, .inl ⟨rfl, rfl⟩, rfl, trivial⟩⟩, ⟨rfl, ⟨rfl, rfl, rfl, .inl rfl, .inl rfl, .inl rfl, .inl rfl, rfl, rfl, rfl, rfl, trivial⟩⟩, ⟨rfl, ⟨rfl, rfl, rfl, .inl rfl, .inl rfl, .inl rfl, .inl rfl, rfl, rfl, rfl, rfl, trivial⟩⟩, ⟨rfl, ⟨rfl, rfl, rfl, .inl rfl, .inl rfl, .inl rfl, .inl rfl, rfl, rfl, rfl, rfl, trivial⟩⟩, ⟨rfl, ⟨rfl, rfl, rfl, .inl rfl, .inl rfl, .inl rfl, .inl rfl, rfl, rfl, rfl, rfl, trivial⟩⟩, ⟨rfl, ⟨rfl, .inl rfl, .inl rfl, .inl ⟨rfl, rfl⟩, rfl, trivial⟩⟩, ⟨rfl, ⟨rfl, .inl rfl, .inl rfl, .inl rfl, rfl, trivial⟩⟩, ⟨rfl, ⟨rfl, .inl rfl, .inl rfl, .inl rfl, rfl, trivial⟩⟩, trivial⟩ ⟨rfl, rfl, rfl, trivial⟩ trivial)
                · rw [if_neg hg29] at h
                  have hg29 := Bool.eq_false_iff.2 hg29
                  refine awp_reg kpNone [(1, Found.av x23_1), (7, Found.av x23_7), (14, Found.av x23_14), (21, Found.av x23_21), (28, Found.av x23_28), (35, Found.av x23_35)] [(5, true), (12, true), (19, true), (26, true), (33, true), (40, false)] [0] (cs := [(0 ≤ (0 : Int)), ((List.map Found.av x16_4)[Int.toNat (0 : Int)]? = some (Found.av x23_1)), (decide (x23_1.Pod = [116]) = true), (0 ≤ (0 : Int)), ((List.map Found.av x16_4)[Int.toNat (0 : Int)]? = some (Found.av x23_7)), (decide (x23_7.Why = (1 : Int)) = true), (0 ≤ (1 : Int)), ((List.map Found.av x16_4)[Int.toNat (1 : Int)]? = some (Found.av x23_14)), (decide (x23_14.Pod = [113]) = true), (0 ≤ (1 : Int)), ((List.map Found.av x16_4)[Int.toNat (1 : Int)]? = some (Found.av x23_21)), (decide (x23_21.Why = (3 : Int)) = true), (0 ≤ (2 : Int)), ((List.map Found.av x16_4)[Int.toNat (2 : Int)]? = some (Found.av x23_28)), (decide (x23_28.Pod = [112]) = true), (0 ≤ (2 : Int)), ((List.map Found.av x16_4)[Int.toNat (2 : Int)]? = some (Found.av x23_35)), (decide (x23_35.Why = (4 : Int)) = false)]) (st' := ⟨122, [(0, AV.bool false)], [(9, (false, [AV.fl 4596373779694328218, AV.fl 4605380978949069210])), (8, (false, [.slice (.own 26) 5 (List.map Node.av [x4_0, x4_1, (⟨x4_2.Name, x4_2.Cap, x4_2.Labels, [(⟨[103, 112, 117], [121, 101, 115], true⟩ : Taint)], x4_2.Cordon⟩ : Node)]), .slice (.own 31) 11 (List.map Pod.av [(⟨x8_0.Name, [119, 101, 98], x8_0.Prio, x8_0.Need, x8_0.Labels, x8_0.Sel, x8_0.Tols, x8_0.Key, x8_0.Most, x8_0.Node, x8_0.Hold⟩ : Pod), (⟨x8_1.Name, [119, 101, 98], x8_1.Prio, x8_1.Need, x8_1.Labels, x8_1.Sel, x8_1.Tols, x8_1.Key, x8_1.Most, x8_1.Node, x8_1.Hold⟩ : Pod), x8_2, x8_3]), .nils])), (5, (false, [AV.str x8_1.Name, AV.str [119, 101, 98], AV.int x8_1.Prio, AV.lst 2 Amount.av x8_1.Need, AV.lst 2 Pair.av x8_1.Labels, AV.lst 3 Term.av x8_1.Sel, AV.lst 3 Tol.av x8_1.Tols, AV.str x8_1.Key, AV.int x8_1.Most, AV.str x8_1.Node, AV.bool x8_1.Hold])), (4, (false, [AV.str x8_0.Name, AV.str [119, 101, 98], AV.int x8_0.Prio, AV.lst 2 Amount.av x8_0.Need, AV.lst 2 Pair.av x8_0.Labels, AV.lst 3 Term.av x8_0.Sel, AV.lst 3 Tol.av x8_0.Tols, AV.str x8_0.Key, AV.int x8_0.Most, AV.str x8_0.Node, AV.bool x8_0.Hold])), (7, (false, x8_3.cs)), (6, (false, x8_2.cs)), (3, (false, [AV.str x4_2.Name, AV.lst 2 Amount.av x4_2.Cap, AV.lst 2 Pair.av x4_2.Labels, .slice (.own 15) 3 (List.map Taint.av [(⟨[103, 112, 117], [121, 101, 115], true⟩ : Taint)]), AV.bool x4_2.Cordon])), (2, (false, x4_1.cs)), (1, (false, x4_0.cs))], [], [(36, (3, 1, 4)), (31, (44, 11, 4)), (26, (71, 5, 3)), (15, (164, 3, 1))]⟩) (by kernel_rfl) ⟨getI_le hx23_1, getI_map hx23_1 _, hg24, getI_le hx23_7, getI_map hx23_7 _, hg25, getI_le hx23_14, getI_map hx23_14 _, hg26, getI_le hx23_21, getI_map hx23_21 _, hg27, getI_le hx23_28, getI_map hx23_28 _, hg28, getI_le hx23_35, getI_map hx23_35 _, hg29, trivial⟩ ?_
                  exact hJ35 false _ h (Le.mk rfl ⟨rfl, trivial⟩ ⟨⟨rfl, ⟨rfl, rfl, trivial⟩⟩, ⟨rfl, ⟨.inl ⟨rfl, rfl⟩, .inl ⟨rfl, rfl⟩, rfl, trivial⟩⟩, ⟨rfl, ⟨rfl, rfl, rfl, .inl rfl, .inl rfl, .inl rfl, .inl rfl, rfl, rfl, rfl, rfl, trivial⟩⟩, ⟨rfl, ⟨rfl, rfl, rfl, .inl rfl, .inl rfl, .inl rfl, .inl rfl, rfl, rfl, rfl, rfl, trivial⟩⟩, ⟨rfl, ⟨rfl, rfl, rfl, .inl rfl, .inl rfl, .inl rfl, .inl rfl, rfl, rfl, rfl, rfl, trivial⟩⟩, ⟨rfl, ⟨rfl, rfl, rfl, .inl rfl, .inl rfl, .inl rfl, .inl rfl, rfl, rfl, rfl, rfl, trivial⟩⟩, ⟨rfl, ⟨rfl, .inl rfl, .inl rfl, .inl ⟨rfl, rfl⟩, rfl, trivial⟩⟩, ⟨rfl, ⟨rfl, .inl rfl, .inl rfl, .inl rfl, rfl, trivial⟩⟩, ⟨rfl, ⟨rfl, .inl rfl, .inl rfl, .inl rfl, rfl, trivial⟩⟩, trivial⟩ ⟨rfl, rfl, rfl, trivial⟩ trivial)
              · rw [if_neg hg28] at h
                have hg28 := Bool.eq_false_iff.2 hg28
                refine awp_reg kpNone [(1, Found.av x23_1), (7, Found.av x23_7), (14, Found.av x23_14), (21, Found.av x23_21), (28, Found.av x23_28)] [(5, true), (12, true), (19, true), (26, true), (33, false)] [0] (cs := [(0 ≤ (0 : Int)), ((List.map Found.av x16_4)[Int.toNat (0 : Int)]? = some (Found.av x23_1)), (decide (x23_1.Pod = [116]) = true), (0 ≤ (0 : Int)), ((List.map Found.av x16_4)[Int.toNat (0 : Int)]? = some (Found.av x23_7)), (decide (x23_7.Why = (1 : Int)) = true), (0 ≤ (1 : Int)), ((List.map Found.av x16_4)[Int.toNat (1 : Int)]? = some (Found.av x23_14)), (decide (x23_14.Pod = [113]) = true), (0 ≤ (1 : Int)), ((List.map Found.av x16_4)[Int.toNat (1 : Int)]? = some (Found.av x23_21)), (decide (x23_21.Why = (3 : Int)) = true), (0 ≤ (2 : Int)), ((List.map Found.av x16_4)[Int.toNat (2 : Int)]? = some (Found.av x23_28)), (decide (x23_28.Pod = [112]) = false)]) (st' := ⟨122, [(0, AV.bool false)], [(9, (false, [AV.fl 4596373779694328218, AV.fl 4605380978949069210])), (8, (false, [.slice (.own 26) 5 (List.map Node.av [x4_0, x4_1, (⟨x4_2.Name, x4_2.Cap, x4_2.Labels, [(⟨[103, 112, 117], [121, 101, 115], true⟩ : Taint)], x4_2.Cordon⟩ : Node)]), .slice (.own 31) 11 (List.map Pod.av [(⟨x8_0.Name, [119, 101, 98], x8_0.Prio, x8_0.Need, x8_0.Labels, x8_0.Sel, x8_0.Tols, x8_0.Key, x8_0.Most, x8_0.Node, x8_0.Hold⟩ : Pod), (⟨x8_1.Name, [119, 101, 98], x8_1.Prio, x8_1.Need, x8_1.Labels, x8_1.Sel, x8_1.Tols, x8_1.Key, x8_1.Most, x8_1.Node, x8_1.Hold⟩ : Pod), x8_2, x8_3]), .nils])), (5, (false, [AV.str x8_1.Name, AV.str [119, 101, 98], AV.int x8_1.Prio, AV.lst 2 Amount.av x8_1.Need, AV.lst 2 Pair.av x8_1.Labels, AV.lst 3 Term.av x8_1.Sel, AV.lst 3 Tol.av x8_1.Tols, AV.str x8_1.Key, AV.int x8_1.Most, AV.str x8_1.Node, AV.bool x8_1.Hold])), (4, (false, [AV.str x8_0.Name, AV.str [119, 101, 98], AV.int x8_0.Prio, AV.lst 2 Amount.av x8_0.Need, AV.lst 2 Pair.av x8_0.Labels, AV.lst 3 Term.av x8_0.Sel, AV.lst 3 Tol.av x8_0.Tols, AV.str x8_0.Key, AV.int x8_0.Most, AV.str x8_0.Node, AV.bool x8_0.Hold])), (7, (false, x8_3.cs)), (6, (false, x8_2.cs)), (3, (false, [AV.str x4_2.Name, AV.lst 2 Amount.av x4_2.Cap, AV.lst 2 Pair.av x4_2.Labels, .slice (.own 15) 3 (List.map Taint.av [(⟨[103, 112, 117], [121, 101, 115], true⟩ : Taint)]), AV.bool x4_2.Cordon])), (2, (false, x4_1.cs)), (1, (false, x4_0.cs))], [], [(36, (3, 1, 4)), (31, (44, 11, 4)), (26, (71, 5, 3)), (15, (164, 3, 1))]⟩) (by kernel_rfl) ⟨getI_le hx23_1, getI_map hx23_1 _, hg24, getI_le hx23_7, getI_map hx23_7 _, hg25, getI_le hx23_14, getI_map hx23_14 _, hg26, getI_le hx23_21, getI_map hx23_21 _, hg27, getI_le hx23_28, getI_map hx23_28 _, hg28, trivial⟩ ?_
                exact hJ35 false _ h (Le.mk rfl ⟨rfl, trivial⟩ ⟨⟨rfl, ⟨rfl, rfl, trivial⟩⟩, ⟨rfl, ⟨.inl ⟨rfl, rfl⟩, .inl ⟨rfl, rfl⟩, rfl, trivial⟩⟩, ⟨rfl, ⟨rfl, rfl, rfl, .inl rfl, .inl rfl, .inl rfl, .inl rfl, rfl, rfl, rfl, rfl, trivial⟩⟩, ⟨rfl, ⟨rfl, rfl, rfl, .inl rfl, .inl rfl, .inl rfl, .inl rfl, rfl, rfl, rfl, rfl, trivial⟩⟩, ⟨rfl, ⟨rfl, rfl, rfl, .inl rfl, .inl rfl, .inl rfl, .inl rfl, rfl, rfl, rfl, rfl, trivial⟩⟩, ⟨rfl, ⟨rfl, rfl, rfl, .inl rfl, .inl rfl, .inl rfl, .inl rfl, rfl, rfl, rfl, rfl, trivial⟩⟩, ⟨rfl, ⟨rfl, .inl rfl, .inl rfl, .inl ⟨rfl, rfl⟩, rfl, trivial⟩⟩, ⟨rfl, ⟨rfl, .inl rfl, .inl rfl, .inl rfl, rfl, trivial⟩⟩, ⟨rfl, ⟨rfl, .inl rfl, .inl rfl, .inl rfl, rfl, trivial⟩⟩, trivial⟩ ⟨rfl, rfl, rfl, trivial⟩ trivial)
            · rw [if_neg hg27] at h
              have hg27 := Bool.eq_false_iff.2 hg27
              refine awp_reg kpNone [(1, Found.av x23_1), (7, Found.av x23_7), (14, Found.av x23_14), (21, Found.av x23_21)] [(5, true), (12, true), (19, true), (26, false)] [0] (cs := [(0 ≤ (0 : Int)), ((List.map Found.av x16_4)[Int.toNat (0 : Int)]? = some (Found.av x23_1)), (decide (x23_1.Pod = [116]) = true), (0 ≤ (0 : Int)), ((List.map Found.av x16_4)[Int.toNat (0 : Int)]? = some (Found.av x23_7)), (decide (x23_7.Why = (1 : Int)) = true), (0 ≤ (1 : Int)), ((List.map Found.av x16_4)[Int.toNat (1 : Int)]? = some (Found.av x23_14)), (decide (x23_14.Pod = [113]) = true), (0 ≤ (1 : Int)), ((List.map Found.av x16_4)[Int.toNat (1 : Int)]? = some (Found.av x23_21)), (decide (x23_21.Why = (3 : Int)) = false)]) (st' := ⟨122, [(0, AV.bool false)], [(9, (false, [AV.fl 4596373779694328218, AV.fl 4605380978949069210])), (8, (false, [.slice (.own 26) 5 (List.map Node.av [x4_0, x4_1, (⟨x4_2.Name, x4_2.Cap, x4_2.Labels, [(⟨[103, 112, 117], [121, 101, 115], true⟩ : Taint)], x4_2.Cordon⟩ : Node)]), .slice (.own 31) 11 (List.map Pod.av [(⟨x8_0.Name, [119, 101, 98], x8_0.Prio, x8_0.Need, x8_0.Labels, x8_0.Sel, x8_0.Tols, x8_0.Key, x8_0.Most, x8_0.Node, x8_0.Hold⟩ : Pod), (⟨x8_1.Name, [119, 101, 98], x8_1.Prio, x8_1.Need, x8_1.Labels, x8_1.Sel, x8_1.Tols, x8_1.Key, x8_1.Most, x8_1.Node, x8_1.Hold⟩ : Pod), x8_2, x8_3]), .nils])), (5, (false, [AV.str x8_1.Name, AV.str [119, 101, 98], AV.int x8_1.Prio, AV.lst 2 Amount.av x8_1.Need, AV.lst 2 Pair.av x8_1.Labels, AV.lst 3 Term.av x8_1.Sel, AV.lst 3 Tol.av x8_1.Tols, AV.str x8_1.Key, AV.int x8_1.Most, AV.str x8_1.Node, AV.bool x8_1.Hold])), (4, (false, [AV.str x8_0.Name, AV.str [119, 101, 98], AV.int x8_0.Prio, AV.lst 2 Amount.av x8_0.Need, AV.lst 2 Pair.av x8_0.Labels, AV.lst 3 Term.av x8_0.Sel, AV.lst 3 Tol.av x8_0.Tols, AV.str x8_0.Key, AV.int x8_0.Most, AV.str x8_0.Node, AV.bool x8_0.Hold])), (7, (false, x8_3.cs)), (6, (false, x8_2.cs)), (3, (false, [AV.str x4_2.Name, AV.lst 2 Amount.av x4_2.Cap, AV.lst 2 Pair.av x4_2.Labels, .slice (.own 15) 3 (List.map Taint.av [(⟨[103, 112, 117], [121, 101, 115], true⟩ : Taint)]), AV.bool x4_2.Cordon])), (2, (false, x4_1.cs)), (1, (false, x4_0.cs))], [], [(36, (3, 1, 4)), (31, (44, 11, 4)), (26, (71, 5, 3)), (15, (164, 3, 1))]⟩) (by kernel_rfl) ⟨getI_le hx23_1, getI_map hx23_1 _, hg24, getI_le hx23_7, getI_map hx23_7 _, hg25, getI_le hx23_14, getI_map hx23_14 _, hg26, getI_le hx23_21, getI_map hx23_21 _, hg27, trivial⟩ ?_
              exact hJ35 false _ h (Le.mk rfl ⟨rfl, trivial⟩ ⟨⟨rfl, ⟨rfl, rfl, trivial⟩⟩, ⟨rfl, ⟨.inl ⟨rfl, rfl⟩, .inl ⟨rfl, rfl⟩, rfl, trivial⟩⟩, ⟨rfl, ⟨rfl, rfl, rfl, .inl rfl, .inl rfl, .inl rfl, .inl rfl, rfl, rfl, rfl, rfl, trivial⟩⟩, ⟨rfl, ⟨rfl, rfl, rfl, .inl rfl, .inl rfl, .inl rfl, .inl rfl, rfl, rfl, rfl, rfl, trivial⟩⟩, ⟨rfl, ⟨rfl, rfl, rfl, .inl rfl, .inl rfl, .inl rfl, .inl rfl, rfl, rfl, rfl, rfl, trivial⟩⟩, ⟨rfl, ⟨rfl, rfl, rfl, .inl rfl, .inl rfl, .inl rfl, .inl rfl, rfl, rfl, rfl, rfl, trivial⟩⟩, ⟨rfl, ⟨rfl, .inl rfl, .inl rfl, .inl ⟨rfl, rfl⟩, rfl, trivial⟩⟩, ⟨rfl, ⟨rfl, .inl rfl, .inl rfl, .inl rfl, rfl, trivial⟩⟩, ⟨rfl, ⟨rfl, .inl rfl, .inl rfl, .inl rfl, rfl, trivial⟩⟩, trivial⟩ ⟨rfl, rfl, rfl, trivial⟩ trivial)
          · rw [if_neg hg26] at h
            have hg26 := Bool.eq_false_iff.2 hg26
            refine awp_reg kpNone [(1, Found.av x23_1), (7, Found.av x23_7), (14, Found.av x23_14)] [(5, true), (12, true), (19, false)] [0] (cs := [(0 ≤ (0 : Int)), ((List.map Found.av x16_4)[Int.toNat (0 : Int)]? = some (Found.av x23_1)), (decide (x23_1.Pod = [116]) = true), (0 ≤ (0 : Int)), ((List.map Found.av x16_4)[Int.toNat (0 : Int)]? = some (Found.av x23_7)), (decide (x23_7.Why = (1 : Int)) = true), (0 ≤ (1 : Int)), ((List.map Found.av x16_4)[Int.toNat (1 : Int)]? = some (Found.av x23_14)), (decide (x23_14.Pod = [113]) = false)]) (st' := ⟨122, [(0, AV.bool false)], [(9, (false, [AV.fl 4596373779694328218, AV.fl 4605380978949069210])), (8, (false, [.slice (.own 26) 5 (List.map Node.av [x4_0, x4_1, (⟨x4_2.Name, x4_2.Cap, x4_2.Labels, [(⟨[103, 112, 117], [121, 101, 115], true⟩ : Taint)], x4_2.Cordon⟩ : Node)]), .slice (.own 31) 11 (List.map Pod.av [(⟨x8_0.Name, [119, 101, 98], x8_0.Prio, x8_0.Need, x8_0.Labels, x8_0.Sel, x8_0.Tols, x8_0.Key, x8_0.Most, x8_0.Node, x8_0.Hold⟩ : Pod), (⟨x8_1.Name, [119, 101, 98], x8_1.Prio, x8_1.Need, x8_1.Labels, x8_1.Sel, x8_1.Tols, x8_1.Key, x8_1.Most, x8_1.Node, x8_1.Hold⟩ : Pod), x8_2, x8_3]), .nils])), (5, (false, [AV.str x8_1.Name, AV.str [119, 101, 98], AV.int x8_1.Prio, AV.lst 2 Amount.av x8_1.Need, AV.lst 2 Pair.av x8_1.Labels, AV.lst 3 Term.av x8_1.Sel, AV.lst 3 Tol.av x8_1.Tols, AV.str x8_1.Key, AV.int x8_1.Most, AV.str x8_1.Node, AV.bool x8_1.Hold])), (4, (false, [AV.str x8_0.Name, AV.str [119, 101, 98], AV.int x8_0.Prio, AV.lst 2 Amount.av x8_0.Need, AV.lst 2 Pair.av x8_0.Labels, AV.lst 3 Term.av x8_0.Sel, AV.lst 3 Tol.av x8_0.Tols, AV.str x8_0.Key, AV.int x8_0.Most, AV.str x8_0.Node, AV.bool x8_0.Hold])), (7, (false, x8_3.cs)), (6, (false, x8_2.cs)), (3, (false, [AV.str x4_2.Name, AV.lst 2 Amount.av x4_2.Cap, AV.lst 2 Pair.av x4_2.Labels, .slice (.own 15) 3 (List.map Taint.av [(⟨[103, 112, 117], [121, 101, 115], true⟩ : Taint)]), AV.bool x4_2.Cordon])), (2, (false, x4_1.cs)), (1, (false, x4_0.cs))], [], [(36, (3, 1, 4)), (31, (44, 11, 4)), (26, (71, 5, 3)), (15, (164, 3, 1))]⟩) (by kernel_rfl) ⟨getI_le hx23_1, getI_map hx23_1 _, hg24, getI_le hx23_7, getI_map hx23_7 _, hg25, getI_le hx23_14, getI_map hx23_14 _, hg26, trivial⟩ ?_
            exact hJ35 false _ h (Le.mk rfl ⟨rfl, trivial⟩ ⟨⟨rfl, ⟨rfl, rfl, trivial⟩⟩, ⟨rfl, ⟨.inl ⟨rfl, rfl⟩, .inl ⟨rfl, rfl⟩, rfl, trivial⟩⟩, ⟨rfl, ⟨rfl, rfl, rfl, .inl rfl, .inl rfl, .inl rfl, .inl rfl, rfl, rfl, rfl, rfl, trivial⟩⟩, ⟨rfl, ⟨rfl, rfl, rfl, .inl rfl, .inl rfl, .inl rfl, .inl rfl, rfl, rfl, rfl, rfl, trivial⟩⟩, ⟨rfl, ⟨rfl, rfl, rfl, .inl rfl, .inl rfl, .inl rfl, .inl rfl, rfl, rfl, rfl, rfl, trivial⟩⟩, ⟨rfl, ⟨rfl, rfl, rfl, .inl rfl, .inl rfl, .inl rfl, .inl rfl, rfl, rfl, rfl, rfl, trivial⟩⟩, ⟨rfl, ⟨rfl, .inl rfl, .inl rfl, .inl ⟨rfl, rfl⟩, rfl, trivial⟩⟩, ⟨rfl, ⟨rfl, .inl rfl, .inl rfl, .inl rfl, rfl, trivial⟩⟩, ⟨rfl, ⟨rfl, .inl rfl, .inl rfl, .inl rfl, rfl, trivial⟩⟩, trivial⟩ ⟨rfl, rfl, rfl, trivial⟩ trivial)
        · rw [if_neg hg25] at h
          have hg25 := Bool.eq_false_iff.2 hg25
          refine awp_reg kpNone [(1, Found.av x23_1), (7, Found.av x23_7)] [(5, true), (12, false)] [0] (cs := [(0 ≤ (0 : Int)), ((List.map Found.av x16_4)[Int.toNat (0 : Int)]? = some (Found.av x23_1)), (decide (x23_1.Pod = [116]) = true), (0 ≤ (0 : Int)), ((List.map Found.av x16_4)[Int.toNat (0 : Int)]? = some (Found.av x23_7)), (decide (x23_7.Why = (1 : Int)) = false)]) (st' := ⟨122, [(0, AV.bool false)], [(9, (false, [AV.fl 4596373779694328218, AV.fl 4605380978949069210])), (8, (false, [.slice (.own 26) 5 (List.map Node.av [x4_0, x4_1, (⟨x4_2.Name, x4_2.Cap, x4_2.Labels, [(⟨[103, 112, 117], [121, 101, 115], true⟩ : Taint)], x4_2.Cordon⟩ : Node)]), .slice (.own 31) 11 (List.map Pod.av [(⟨x8_0.Name, [119, 101, 98], x8_0.Prio, x8_0.Need, x8_0.Labels, x8_0.Sel, x8_0.Tols, x8_0.Key, x8_0.Most, x8_0.Node, x8_0.Hold⟩ : Pod), (⟨x8_1.Name, [119, 101, 98], x8_1.Prio, x8_1.Need, x8_1.Labels, x8_1.Sel, x8_1.Tols, x8_1.Key, x8_1.Most, x8_1.Node, x8_1.Hold⟩ : Pod), x8_2, x8_3]), .nils])), (5, (false, [AV.str x8_1.Name, AV.str [119, 101, 98], AV.int x8_1.Prio, AV.lst 2 Amount.av x8_1.Need, AV.lst 2 Pair.av x8_1.Labels, AV.lst 3 Term.av x8_1.Sel, AV.lst 3 Tol.av x8_1.Tols, AV.str x8_1.Key, AV.int x8_1.Most, AV.str x8_1.Node, AV.bool x8_1.Hold])), (4, (false, [AV.str x8_0.Name, AV.str [119, 101, 98], AV.int x8_0.Prio, AV.lst 2 Amount.av x8_0.Need, AV.lst 2 Pair.av x8_0.Labels, AV.lst 3 Term.av x8_0.Sel, AV.lst 3 Tol.av x8_0.Tols, AV.str x8_0.Key, AV.int x8_0.Most, AV.str x8_0.Node, AV.bool x8_0.Hold])), (7, (false, x8_3.cs)), (6, (false, x8_2.cs)), (3, (false, [AV.str x4_2.Name, AV.lst 2 Amount.av x4_2.Cap, AV.lst 2 Pair.av x4_2.Labels, .slice (.own 15) 3 (List.map Taint.av [(⟨[103, 112, 117], [121, 101, 115], true⟩ : Taint)]), AV.bool x4_2.Cordon])), (2, (false, x4_1.cs)), (1, (false, x4_0.cs))], [], [(36, (3, 1, 4)), (31, (44, 11, 4)), (26, (71, 5, 3)), (15, (164, 3, 1))]⟩) (by kernel_rfl) ⟨getI_le hx23_1, getI_map hx23_1 _, hg24, getI_le hx23_7, getI_map hx23_7 _, hg25, trivial⟩ ?_
          exact hJ35 false _ h (Le.mk rfl ⟨rfl, trivial⟩ ⟨⟨rfl, ⟨rfl, rfl, trivial⟩⟩, ⟨rfl, ⟨.inl ⟨rfl, rfl⟩, .inl ⟨rfl, rfl⟩, rfl, trivial⟩⟩, ⟨rfl, ⟨rfl, rfl, rfl, .inl rfl, .inl rfl, .inl rfl, .inl rfl, rfl, rfl, rfl, rfl, trivial⟩⟩, ⟨rfl, ⟨rfl, rfl, rfl, .inl rfl, .inl rfl, .inl rfl, .inl rfl, rfl, rfl, rfl, rfl, trivial⟩⟩, ⟨rfl, ⟨rfl, rfl, rfl, .inl rfl, .inl rfl, .inl rfl, .inl rfl, rfl, rfl, rfl, rfl, trivial⟩⟩, ⟨rfl, ⟨rfl, rfl, rfl, .inl rfl, .inl rfl, .inl rfl, .inl rfl, rfl, rfl, rfl, rfl, trivial⟩⟩, ⟨rfl, ⟨rfl, .inl rfl, .inl rfl, .inl ⟨rfl, rfl⟩, rfl, trivial⟩⟩, ⟨rfl, ⟨rfl, .inl rfl, .inl rfl, .inl rfl, rfl, trivial⟩⟩, ⟨rfl, ⟨rfl, .inl rfl, .inl rfl, .inl rfl, rfl, trivial⟩⟩, trivial⟩ ⟨rfl, rfl, rfl, trivial⟩ trivial)
      · rw [if_neg hg24] at h
        have hg24 := Bool.eq_false_iff.2 hg24
        refine awp_reg kpNone [(1, Found.av x23_1)] [(5, false)] [0] (cs := [(0 ≤ (0 : Int)), ((List.map Found.av x16_4)[Int.toNat (0 : Int)]? = some (Found.av x23_1)), (decide (x23_1.Pod = [116]) = false)]) (st' := ⟨122, [(0, AV.bool false)], [(9, (false, [AV.fl 4596373779694328218, AV.fl 4605380978949069210])), (8, (false, [.slice (.own 26) 5 (List.map Node.av [x4_0, x4_1, (⟨x4_2.Name, x4_2.Cap, x4_2.Labels, [(⟨[103, 112, 117], [121, 101, 115], true⟩ : Taint)], x4_2.Cordon⟩ : Node)]), .slice (.own 31) 11 (List.map Pod.av [(⟨x8_0.Name, [119, 101, 98], x8_0.Prio, x8_0.Need, x8_0.Labels, x8_0.Sel, x8_0.Tols, x8_0.Key, x8_0.Most, x8_0.Node, x8_0.Hold⟩ : Pod), (⟨x8_1.Name, [119, 101, 98], x8_1.Prio, x8_1.Need, x8_1.Labels, x8_1.Sel, x8_1.Tols, x8_1.Key, x8_1.Most, x8_1.Node, x8_1.Hold⟩ : Pod), x8_2, x8_3]), .nils])), (5, (false, [AV.str x8_1.Name, AV.str [119, 101, 98], AV.int x8_1.Prio, AV.lst 2 Amount.av x8_1.Need, AV.lst 2 Pair.av x8_1.Labels, AV.lst 3 Term.av x8_1.Sel, AV.lst 3 Tol.av x8_1.Tols, AV.str x8_1.Key, AV.int x8_1.Most, AV.str x8_1.Node, AV.bool x8_1.Hold])), (4, (false, [AV.str x8_0.Name, AV.str [119, 101, 98], AV.int x8_0.Prio, AV.lst 2 Amount.av x8_0.Need, AV.lst 2 Pair.av x8_0.Labels, AV.lst 3 Term.av x8_0.Sel, AV.lst 3 Tol.av x8_0.Tols, AV.str x8_0.Key, AV.int x8_0.Most, AV.str x8_0.Node, AV.bool x8_0.Hold])), (7, (false, x8_3.cs)), (6, (false, x8_2.cs)), (3, (false, [AV.str x4_2.Name, AV.lst 2 Amount.av x4_2.Cap, AV.lst 2 Pair.av x4_2.Labels, .slice (.own 15) 3 (List.map Taint.av [(⟨[103, 112, 117], [121, 101, 115], true⟩ : Taint)]), AV.bool x4_2.Cordon])), (2, (false, x4_1.cs)), (1, (false, x4_0.cs))], [], [(36, (3, 1, 4)), (31, (44, 11, 4)), (26, (71, 5, 3)), (15, (164, 3, 1))]⟩) (by kernel_rfl) ⟨getI_le hx23_1, getI_map hx23_1 _, hg24, trivial⟩ ?_
        exact hJ35 false _ h (Le.mk rfl ⟨rfl, trivial⟩ ⟨⟨rfl, ⟨rfl, rfl, trivial⟩⟩, ⟨rfl, ⟨.inl ⟨rfl, rfl⟩, .inl ⟨rfl, rfl⟩, rfl, trivial⟩⟩, ⟨rfl, ⟨rfl, rfl, rfl, .inl rfl, .inl rfl, .inl rfl, .inl rfl, rfl, rfl, rfl, rfl, trivial⟩⟩, ⟨rfl, ⟨rfl, rfl, rfl, .inl rfl, .inl rfl, .inl rfl, .inl rfl, rfl, rfl, rfl, rfl, trivial⟩⟩, ⟨rfl, ⟨rfl, rfl, rfl, .inl rfl, .inl rfl, .inl rfl, .inl rfl, rfl, rfl, rfl, rfl, trivial⟩⟩, ⟨rfl, ⟨rfl, rfl, rfl, .inl rfl, .inl rfl, .inl rfl, .inl rfl, rfl, rfl, rfl, rfl, trivial⟩⟩, ⟨rfl, ⟨rfl, .inl rfl, .inl rfl, .inl ⟨rfl, rfl⟩, rfl, trivial⟩⟩, ⟨rfl, ⟨rfl, .inl rfl, .inl rfl, .inl rfl, rfl, trivial⟩⟩, ⟨rfl, ⟨rfl, .inl rfl, .inl rfl, .inl rfl, rfl, trivial⟩⟩, trivial⟩ ⟨rfl, rfl, rfl, trivial⟩ trivial)


-- ballastlaw4.FewSel
def F100.j19 (rec11 : (Int) → Option Bool) (p11 : Int) : (Bool) → Option Bool := fun p19 =>
  if p19 = true then (some false) else (rec11 (w64 (p11 + (1 : Int))))
def F100.l11 (a0 : (List Term)) (rec11 : (Int) → Option Bool) : (Int) → Option Bool := fun p11 =>
  if decide (p11 < (List.length a0 : Int)) = true then ((getI a0 p11).bind fun x17_2 => if decide ((50 : Int) < (List.length x17_2.Key : Int)) = true then (F100.j19 rec11 p11 true) else ((getI a0 p11).bind fun x17_10 => F100.j19 rec11 p11 (decide ((50 : Int) < (List.length x17_10.Val : Int))))) else (some true)
def F100 (l11 : (Int) → Option Bool) (a0 : (List Term)) : Option Bool :=
  if decide ((20 : Int) < (List.length a0 : Int)) = true then (some false) else (l11 0)
/-- ballast/ballastlaw4.FewSel -/
theorem c100 (a0 : (List Term)) (l11 : (Int) → Option Bool) (hl11 : Rounds (F100.l11 a0) (l11)) (r : Bool) (h : F100 l11 a0 = some r) :
    Det Tryz.prog 100 [AV.lst 3 Term.av a0] (.ret (AV.bool r)) := by
  refine Det.of_le ?_
  refine @calls_of_body Tryz.prog 100 Tryz.f100 _ Tryz.func100 rfl (by kernel_rfl) [.tmp 2] (by rw [Tryz.results100]) 29 Tryz.ntmps100 _ _ _ (by simp only [List.length_cons, List.length_nil]; decide) ?_
  unfold F100 at h
  refine awp_sr kpNone [] [] [0] (cs := []) (st' := ⟨29, [(0, AV.lst 3 Term.av a0)], [], [], []⟩) (by kernel_rfl) trivial ?_
  refine awp_seq fun N3 hN3 => ?_
  refine awp_sr kpNone [(1, AV.int (List.length a0 : Int))] [] [0, 6] (cs := [((AV.int (List.length a0 : Int) = .val (.int .i64 (List.length (List.map Term.av a0) : Int))))]) (st' := ⟨29, [(0, AV.lst 3 Term.av a0), (6, AV.bool (decide ((20 : Int) < (List.length a0 : Int))))], [], [], []⟩) (by kernel_rfl) ⟨len_map _ _, trivial⟩ ?_
  refine awp_cond (t := decide ((20 : Int) < (List.length a0 : Int))) rfl (fun hb => ?_) (fun hb => ?_)
  · rw [if_pos hb] at h
    refine awp_sr kpNone [] [] [2] (cs := []) (st' := ⟨29, [(2, AV.bool false)], [], [], []⟩) (by kernel_rfl) trivial ?_
    have h := Option.some.inj h
    subst h
    exact awp_ret ⟨[AV.bool false], by kernel_rfl, Lw.refl _⟩
  · rw [if_false hb] at h
    refine awp_skip ?_
    refine hN3 _ ?_
    refine awp_seq fun N8 hN8 => ?_
    refine awp_sr kpNone [] [] [0, 3] (cs := []) (st' := ⟨29, [(0, AV.lst 3 Term.av a0), (3, AV.int 0)], [], [], []⟩) (by kernel_rfl) trivial ?_
    refine awp_block ?_
    refine awp_loop ?_
    refine awpL_le (st' := ⟨29, [(0, AV.lst 3 Term.av a0), (3, AV.int 0)], [], [], []⟩) ?_ ?_
    · exact Le.rfl'
    refine awpL_fix hl11 r (fun p11 => ⟨29, [(0, AV.lst 3 Term.av a0), (3, AV.int p11)], [], [], []⟩) (fun rec11 hrec11 p11 h => ?_) 0 h
    unfold F100.l11 at h
    refine awpL_round ?_
    refine awp_seq fun N12 hN12 => ?_
    refine awp_sr kpNone [(2, AV.int (List.length a0 : Int))] [] [0, 3, 10] (cs := [((AV.int (List.length a0 : Int) = .val (.int .i64 (List.length (List.map Term.av a0) : Int))))]) (st' := ⟨29, [(0, AV.lst 3 Term.av a0), (3, AV.int p11), (10, AV.bool (decide (p11 < (List.length a0 : Int))))], [], [], []⟩) (by kernel_rfl) ⟨len_map _ _, trivial⟩ ?_
    refine awp_cond (t := decide (p11 < (List.length a0 : Int))) rfl (fun hb => ?_) (fun hb => ?_)
    · rw [if_pos hb] at h
      refine awp_skip ?_
      refine hN12 _ ?_
      refine awp_seq fun N15 hN15 => ?_
      refine awp_block ?_
      refine awp_seq fun N16 hN16 => ?_
      refine awp_to (σ := Bool) (fun p19 => ⟨29, [(0, AV.lst 3 Term.av a0), (3, AV.int p11), (28, AV.bool p19)], [], [], []⟩) (fun p19 => F100.j19 rec11 p11 p19 = some r) (fun p19 h => ?_) (fun N19 hJ19 => ?_)
      · unfold F100.j19 at h
        refine hN16 _ ?_
        refine awp_cond (t := p19) rfl (fun hb => ?_) (fun hb => ?_)
        · rw [if_pos hb] at h
          refine awp_sr kpNone [] [] [2] (cs := []) (st' := ⟨29, [(2, AV.bool false)], [], [], []⟩) (by kernel_rfl) trivial ?_
          have h := Option.some.inj h
          subst h
          exact awp_ret ⟨[AV.bool false], by kernel_rfl, Lw.refl _⟩
        · rw [if_false hb] at h
          refine awp_skip ?_
          refine hN15 _ ?_
          refine awp_reg kpNone [] [] [0, 3] (cs := []) (st' := ⟨29, [(0, AV.lst 3 Term.av a0), (3, AV.int (w64 (p11 + (1 : Int))))], [], [], []⟩) (by kernel_rfl) trivial ?_
          refine awpL_le ?_ (hrec11 _ h)
          exact Le.rfl'
      · obtain ⟨x17_2, hx17_2, h⟩ := Option.bind_eq_some_iff.1 h
        by_cases hg18 : decide ((50 : Int) < (List.length x17_2.Key : Int)) = true
        · rw [if_pos hg18] at h
          refine awp_reg kpNone [(2, Term.av x17_2)] [(7, true)] [0, 3, 28] (cs := [(0 ≤ p11), ((List.map Term.av a0)[Int.toNat p11]? = some (Term.av x17_2)), (decide ((50 : Int) < (List.length x17_2.Key : Int)) = true)]) (st' := ⟨29, [(0, AV.lst 3 Term.av a0), (3, AV.int p11), (28, AV.bool true)], [], [], []⟩) (by kernel_rfl) ⟨getI_le hx17_2, getI_map hx17_2 _, hg18, trivial⟩ ?_
          exact hJ19 true _ h (Le.rfl')
        · rw [if_neg hg18] at h
          have hg18 := Bool.eq_false_iff.2 hg18
          obtain ⟨x17_10, hx17_10, h⟩ := Option.bind_eq_some_iff.1 h
          refine awp_reg kpNone [(2, Term.av x17_2), (10, Term.av x17_10)] [(7, false)] [0, 3, 28] (cs := [(0 ≤ p11), ((List.map Term.av a0)[Int.toNat p11]? = some (Term.av x17_2)), (decide ((50 : Int) < (List.length x17_2.Key : Int)) = false), (0 ≤ p11), ((List.map Term.av a0)[Int.toNat p11]? = some (Term.av x17_10))]) (st' := ⟨29, [(0, AV.lst 3 Term.av a0), (3, AV.int p11), (28, AV.bool (decide ((50 : Int) < (List.length x17_10.Val : Int))))], [], [], []⟩) (by kernel_rfl) ⟨getI_le hx17_2, getI_map hx17_2 _, hg18, getI_le hx17_10, getI_map hx17_10 _, trivial⟩ ?_
          exact hJ19 (decide ((50 : Int) < (List.length x17_10.Val : Int))) _ h (Le.rfl')
    · rw [if_false hb] at h
      refine awp_exit ?_
      refine hN8 _ ?_
      refine awp_sr kpNone [] [] [2] (cs := []) (st' := ⟨29, [(2, AV.bool true)], [], [], []⟩) (by kernel_rfl) trivial ?_
      have h := Option.some.inj h
      subst h
      exact awp_ret ⟨[AV.bool true], by kernel_rfl, Lw.refl _⟩
-- {"kind": "tot", "S": "few Term.short", "thm": "d100"}
theorem d100 (a0 : List Term) : Det Tryz.prog 100 [AV.lst 3 Term.av a0] (.ret (AV.bool (few Term.short a0))) := by
  refine Det.len 0 rfl fun hl => c100 a0 _ (rounds_list a0 hl (fun t => some (t.all Term.short)) _ ?_ ?_) _ ?_
  · intro rec
    simp [F100.l11]
  · intro rec p x t h0 h1 hx hd hr hw
    simp only [F100.l11, F100.j19, hx, hw, hr, h1, decide_true, if_true, Option.bind_some, List.all_cons, Term.short, decide_eq_true_eq]
    by_cases h : x.Key.length ≤ 50
    · rw [if_neg (by omega)]
      by_cases h' : x.Val.length ≤ 50
      · rw [if_neg (by omega)]; simp [h, h']
      · rw [if_pos (by omega)]; simp [h, h']
    · rw [if_pos (by omega)]; simp [h]
  · simp only [F100, few, decide_eq_true_eq]
    by_cases h : a0.length ≤ 20
    · rw [if_neg (by omega)]; simp [h]
    · rw [if_pos (by omega)]; simp [h]


-- ballastlaw8.Few
def F143.j19 (rec11 : (Int) → Option Bool) (p11 : Int) : (Bool) → Option Bool := fun p19 =>
  if p19 = true then (some false) else (rec11 (w64 (p11 + (1 : Int))))
def F143.l11 (a0 : (List Budget)) (rec11 : (Int) → Option Bool) : (Int) → Option Bool := fun p11 =>
  if decide (p11 < (List.length a0 : Int)) = true then ((getI a0 p11).bind fun x17_2 => if decide ((50 : Int) < (List.length x17_2.Name : Int)) = true then (F143.j19 rec11 p11 true) else ((getI a0 p11).bind fun x17_10 => F143.j19 rec11 p11 (!(few Term.short x17_10.Sel)))) else (some true)
def F143 (l11 : (Int) → Option Bool) (a0 : (List Budget)) : Option Bool :=
  if decide ((20 : Int) < (List.length a0 : Int)) = true then (some false) else (l11 0)
/-- ballast/ballastlaw8.Few -/
theorem c143 (a0 : (List Budget)) (l11 : (Int) → Option Bool) (hl11 : Rounds (F143.l11 a0) (l11)) (r : Bool) (h : F143 l11 a0 = some r) :
    Det Tryz.prog 143 [AV.lst 3 Budget.av a0] (.ret (AV.bool r)) := by
  refine Det.of_le ?_
  refine @calls_of_body Tryz.prog 143 Tryz.f143 _ Tryz.func143 rfl (by kernel_rfl) [.tmp 2] (by rw [Tryz.results143]) 29 Tryz.ntmps143 _ _ _ (by simp only [List.length_cons, List.length_nil]; decide) ?_
  unfold F143 at h
  refine awp_sr kpNone [] [] [0] (cs := []) (st' := ⟨29, [(0, AV.lst 3 Budget.av a0)], [], [], []⟩) (by kernel_rfl) trivial ?_
  refine awp_seq fun N3 hN3 => ?_
  refine awp_sr kpNone [(1, AV.int (List.length a0 : Int))] [] [0, 6] (cs := [((AV.int (List.length a0 : Int) = .val (.int .i64 (List.length (List.map Budget.av a0) : Int))))]) (st' := ⟨29, [(0, AV.lst 3 Budget.av a0), (6, AV.bool (decide ((20 : Int) < (List.length a0 : Int))))], [], [], []⟩) (by kernel_rfl) ⟨len_map _ _, trivial⟩ ?_
  refine awp_cond (t := decide ((20 : Int) < (List.length a0 : Int))) rfl (fun hb => ?_) (fun hb => ?_)
  · rw [if_pos hb] at h
    refine awp_sr kpNone [] [] [2] (cs := []) (st' := ⟨29, [(2, AV.bool false)], [], [], []⟩) (by kernel_rfl) trivial ?_
    have h := Option.some.inj h
    subst h
    exact awp_ret ⟨[AV.bool false], by kernel_rfl, Lw.refl _⟩
  · rw [if_false hb] at h
    refine awp_skip ?_
    refine hN3 _ ?_
    refine awp_seq fun N8 hN8 => ?_
    refine awp_sr kpNone [] [] [0, 3] (cs := []) (st' := ⟨29, [(0, AV.lst 3 Budget.av a0), (3, AV.int 0)], [], [], []⟩) (by kernel_rfl) trivial ?_
    refine awp_block ?_
    refine awp_loop ?_
    refine awpL_le (st' := ⟨29, [(0, AV.lst 3 Budget.av a0), (3, AV.int 0)], [], [], []⟩) ?_ ?_
    · exact Le.rfl'
    refine awpL_fix hl11 r (fun p11 => ⟨29, [(0, AV.lst 3 Budget.av a0), (3, AV.int p11)], [], [], []⟩) (fun rec11 hrec11 p11 h => ?_) 0 h
    unfold F143.l11 at h
    refine awpL_round ?_
    refine awp_seq fun N12 hN12 => ?_
    refine awp_sr kpNone [(2, AV.int (List.length a0 : Int))] [] [0, 3, 10] (cs := [((AV.int (List.length a0 : Int) = .val (.int .i64 (List.length (List.map Budget.av a0) : Int))))]) (st' := ⟨29, [(0, AV.lst 3 Budget.av a0), (3, AV.int p11), (10, AV.bool (decide (p11 < (List.length a0 : Int))))], [], [], []⟩) (by kernel_rfl) ⟨len_map _ _, trivial⟩ ?_
    refine awp_cond (t := decide (p11 < (List.length a0 : Int))) rfl (fun hb => ?_) (fun hb => ?_)
    · rw [if_pos hb] at h
      refine awp_skip ?_
      refine hN12 _ ?_
      refine awp_seq fun N15 hN15 => ?_
      refine awp_block ?_
      refine awp_seq fun N16 hN16 => ?_
      refine awp_to (σ := Bool) (fun p19 => ⟨29, [(0, AV.lst 3 Budget.av a0), (3, AV.int p11), (28, AV.bool p19)], [], [], []⟩) (fun p19 => F143.j19 rec11 p11 p19 = some r) (fun p19 h => ?_) (fun N19 hJ19 => ?_)
      · unfold F143.j19 at h
        refine hN16 _ ?_
        refine awp_cond (t := p19) rfl (fun hb => ?_) (fun hb => ?_)
        · rw [if_pos hb] at h
          refine awp_sr kpNone [] [] [2] (cs := []) (st' := ⟨29, [(2, AV.bool false)], [], [], []⟩) (by kernel_rfl) trivial ?_
          have h := Option.some.inj h
          subst h
          exact awp_ret ⟨[AV.bool false], by kernel_rfl, Lw.refl _⟩
        · rw [if_false hb] at h
          refine awp_skip ?_
          refine hN15 _ ?_
          refine awp_reg kpNone [] [] [0, 3] (cs := []) (st' := ⟨29, [(0, AV.lst 3 Budget.av a0), (3, AV.int (w64 (p11 + (1 : Int))))], [], [], []⟩) (by kernel_rfl) trivial ?_
          refine awpL_le ?_ (hrec11 _ h)
          exact Le.rfl'
      · obtain ⟨x17_2, hx17_2, h⟩ := Option.bind_eq_some_iff.1 h
        by_cases hg18 : decide ((50 : Int) < (List.length x17_2.Name : Int)) = true
        · rw [if_pos hg18] at h
          refine awp_reg kpNone [(2, Budget.av x17_2)] [(7, true)] [0, 3, 28] (cs := [(0 ≤ p11), ((List.map Budget.av a0)[Int.toNat p11]? = some (Budget.av x17_2)), (decide ((50 : Int) < (List.length x17_2.Name : Int)) = true)]) (st' := ⟨29, [(0, AV.lst 3 Budget.av a0), (3, AV.int p11), (28, AV.bool true)], [], [], []⟩) (by kernel_rfl) ⟨getI_le hx17_2, getI_map hx17_2 _, hg18, trivial⟩ ?_
          exact hJ19 true _ h (Le.rfl')
        · rw [if_neg hg18] at h
          have hg18 := Bool.eq_false_iff.2 hg18
          obtain ⟨x17_10, hx17_10, h⟩ := Option.bind_eq_some_iff.1 h
          refine awp_reg kpNone [(2, Budget.av x17_2), (10, Budget.av x17_10), (13, AV.bool (few Term.short x17_10.Sel))] [(7, false)] [0, 3, 28] (cs := [(0 ≤ p11), ((List.map Budget.av a0)[Int.toNat p11]? = some (Budget.av x17_2)), (decide ((50 : Int) < (List.length x17_2.Name : Int)) = false), (0 ≤ p11), ((List.map Budget.av a0)[Int.toNat p11]? = some (Budget.av x17_10)), (Det Tryz.prog 100 [AV.lst 3 Term.av x17_10.Sel] (.ret (AV.bool (few Term.short x17_10.Sel))))]) (st' := ⟨29, [(0, AV.lst 3 Budget.av a0), (3, AV.int p11), (28, AV.bool (!(few Term.short x17_10.Sel)))], [], [], []⟩) (by kernel_rfl) ⟨getI_le hx17_2, getI_map hx17_2 _, hg18, getI_le hx17_10, getI_map hx17_10 _, d100 x17_10.Sel, trivial⟩ ?_
          exact hJ19 (!(few Term.short x17_10.Sel)) _ h (Le.rfl')
    · rw [if_false hb] at h
      refine awp_exit ?_
      refine hN8 _ ?_
      refine awp_sr kpNone [] [] [2] (cs := []) (st' := ⟨29, [(2, AV.bool true)], [], [], []⟩) (by kernel_rfl) trivial ?_
      have h := Option.some.inj h
      subst h
      exact awp_ret ⟨[AV.bool true], by kernel_rfl, Lw.refl _⟩
-- {"kind": "tot", "S": "few Budget.short", "thm": "d143"}
theorem d143 (a0 : List Budget) : Det Tryz.prog 143 [AV.lst 3 Budget.av a0] (.ret (AV.bool (few Budget.short a0))) := by
  refine Det.len 0 rfl fun hl => c143 a0 _ (rounds_list a0 hl (fun t => some (t.all Budget.short)) _ ?_ ?_) _ ?_
  · intro rec
    simp [F143.l11]
  · intro rec p x t h0 h1 hx hd hr hw
    simp only [F143.l11, F143.j19, hx, hw, hr, h1, decide_true, if_true, Option.bind_some, List.all_cons, Budget.short, decide_eq_true_eq]
    by_cases h : x.Name.length ≤ 50
    · rw [if_neg (by omega)]
      rcases Bool.eq_false_or_eq_true (few Term.short x.Sel) with q | q <;> simp [h, q]
    · rw [if_pos (by omega)]; simp [h]
  · simp only [F143, few, decide_eq_true_eq]
    by_cases h : a0.length ≤ 20
    · rw [if_neg (by omega)]; simp [h]
    · rw [if_pos (by omega)]; simp [h]


-- ballastlaw2.Few
def F98.l11 (a0 : (List Amount)) (rec11 : (Int) → Option Bool) : (Int) → Option Bool := fun p11 =>
  if decide (p11 < (List.length a0 : Int)) = true then ((getI a0 p11).bind fun x17_2 => if decide ((50 : Int) < (List.length x17_2.Name : Int)) = true then (some false) else (rec11 (w64 (p11 + (1 : Int))))) else (some true)
def F98 (l11 : (Int) → Option Bool) (a0 : (List Amount)) : Option Bool :=
  if decide ((20 : Int) < (List.length a0 : Int)) = true then (some false) else (l11 0)
/-- ballast/ballastlaw2.Few -/
theorem c98 (a0 : (List Amount)) (l11 : (Int) → Option Bool) (hl11 : Rounds (F98.l11 a0) (l11)) (r : Bool) (h : F98 l11 a0 = some r) :
    Det Tryz.prog 98 [AV.lst 2 Amount.av a0] (.ret (AV.bool r)) := by
  refine Det.of_le ?_
  refine @calls_of_body Tryz.prog 98 Tryz.f98 _ Tryz.func98 rfl (by kernel_rfl) [.tmp 2] (by rw [Tryz.results98]) 20 Tryz.ntmps98 _ _ _ (by simp only [List.length_cons, List.length_nil]; decide) ?_
  unfold F98 at h
  refine awp_sr kpNone [] [] [0] (cs := []) (st' := ⟨20, [(0, AV.lst 2 Amount.av a0)], [], [], []⟩) (by kernel_rfl) trivial ?_
  refine awp_seq fun N3 hN3 => ?_
  refine awp_sr kpNone [(1, AV.int (List.length a0 : Int))] [] [0, 6] (cs := [((AV.int (List.length a0 : Int) = .val (.int .i64 (List.length (List.map Amount.av a0) : Int))))]) (st' := ⟨20, [(0, AV.lst 2 Amount.av a0), (6, AV.bool (decide ((20 : Int) < (List.length a0 : Int))))], [], [], []⟩) (by kernel_rfl) ⟨len_map _ _, trivial⟩ ?_
  refine awp_cond (t := decide ((20 : Int) < (List.length a0 : Int))) rfl (fun hb => ?_) (fun hb => ?_)
  · rw [if_pos hb] at h
    refine awp_sr kpNone [] [] [2] (cs := []) (st' := ⟨20, [(2, AV.bool false)], [], [], []⟩) (by kernel_rfl) trivial ?_
    have h := Option.some.inj h
    subst h
    exact awp_ret ⟨[AV.bool false], by kernel_rfl, Lw.refl _⟩
  · rw [if_false hb] at h
    refine awp_skip ?_
    refine hN3 _ ?_
    refine awp_seq fun N8 hN8 => ?_
    refine awp_sr kpNone [] [] [0, 3] (cs := []) (st' := ⟨20, [(0, AV.lst 2 Amount.av a0), (3, AV.int 0)], [], [], []⟩) (by kernel_rfl) trivial ?_
    refine awp_block ?_
    refine awp_loop ?_
    refine awpL_le (st' := ⟨20, [(0, AV.lst 2 Amount.av a0), (3, AV.int 0)], [], [], []⟩) ?_ ?_
    · exact Le.rfl'
    refine awpL_fix hl11 r (fun p11 => ⟨20, [(0, AV.lst 2 Amount.av a0), (3, AV.int p11)], [], [], []⟩) (fun rec11 hrec11 p11 h => ?_) 0 h
    unfold F98.l11 at h
    refine awpL_round ?_
    refine awp_seq fun N12 hN12 => ?_
    refine awp_sr kpNone [(2, AV.int (List.length a0 : Int))] [] [0, 3, 10] (cs := [((AV.int (List.length a0 : Int) = .val (.int .i64 (List.length (List.map Amount.av a0) : Int))))]) (st' := ⟨20, [(0, AV.lst 2 Amount.av a0), (3, AV.int p11), (10, AV.bool (decide (p11 < (List.length a0 : Int))))], [], [], []⟩) (by kernel_rfl) ⟨len_map _ _, trivial⟩ ?_
    refine awp_cond (t := decide (p11 < (List.length a0 : Int))) rfl (fun hb => ?_) (fun hb => ?_)
    · rw [if_pos hb] at h
      refine awp_skip ?_
      refine hN12 _ ?_
      refine awp_seq fun N15 hN15 => ?_
      refine awp_block ?_
      obtain ⟨x17_2, hx17_2, h⟩ := Option.bind_eq_some_iff.1 h
      refine awp_sr kpNone [(2, Amount.av x17_2)] [] [0, 3, 19] (cs := [(0 ≤ p11), ((List.map Amount.av a0)[Int.toNat p11]? = some (Amount.av x17_2))]) (st' := ⟨20, [(0, AV.lst 2 Amount.av a0), (3, AV.int p11), (19, AV.bool (decide ((50 : Int) < (List.length x17_2.Name : Int))))], [], [], []⟩) (by kernel_rfl) ⟨getI_le hx17_2, getI_map hx17_2 _, trivial⟩ ?_
      refine awp_cond (t := decide ((50 : Int) < (List.length x17_2.Name : Int))) rfl (fun hb => ?_) (fun hb => ?_)
      · rw [if_pos hb] at h
        refine awp_sr kpNone [] [] [2] (cs := []) (st' := ⟨20, [(2, AV.bool false)], [], [], []⟩) (by kernel_rfl) trivial ?_
        have h := Option.some.inj h
        subst h
        exact awp_ret ⟨[AV.bool false], by kernel_rfl, Lw.refl _⟩
      · rw [if_false hb] at h
        refine awp_skip ?_
        refine hN15 _ ?_
        refine awp_reg kpNone [] [] [0, 3] (cs := []) (st' := ⟨20, [(0, AV.lst 2 Amount.av a0), (3, AV.int (w64 (p11 + (1 : Int))))], [], [], []⟩) (by kernel_rfl) trivial ?_
        refine awpL_le ?_ (hrec11 _ h)
        exact Le.rfl'
    · rw [if_false hb] at h
      refine awp_exit ?_
      refine hN8 _ ?_
      refine awp_sr kpNone [] [] [2] (cs := []) (st' := ⟨20, [(2, AV.bool true)], [], [], []⟩) (by kernel_rfl) trivial ?_
      have h := Option.some.inj h
      subst h
      exact awp_ret ⟨[AV.bool true], by kernel_rfl, Lw.refl _⟩
-- {"kind": "tot", "S": "few Amount.short", "thm": "d98"}
theorem d98 (a0 : List Amount) : Det Tryz.prog 98 [AV.lst 2 Amount.av a0] (.ret (AV.bool (few Amount.short a0))) := by
  refine Det.len 0 rfl fun hl => c98 a0 _ (rounds_list a0 hl (fun t => some (t.all Amount.short)) _ ?_ ?_) _ ?_
  · intro rec
    simp [F98.l11]
  · intro rec p x t h0 h1 hx hd hr hw
    simp only [F98.l11, hx, hw, hr, h1, decide_true, if_true, Option.bind_some, List.all_cons, Amount.short, decide_eq_true_eq]
    by_cases h : x.Name.length ≤ 50
    · rw [if_neg (by omega)]; simp [h]
    · rw [if_pos (by omega)]; simp [h]
  · simp only [F98, few, decide_eq_true_eq]
    by_cases h : a0.length ≤ 20
    · rw [if_neg (by omega)]; simp [h]
    · rw [if_pos (by omega)]; simp [h]


-- ballastlaw4.Few
def F99.j19 (rec11 : (Int) → Option Bool) (p11 : Int) : (Bool) → Option Bool := fun p19 =>
  if p19 = true then (some false) else (rec11 (w64 (p11 + (1 : Int))))
def F99.l11 (a0 : (List Pair)) (rec11 : (Int) → Option Bool) : (Int) → Option Bool := fun p11 =>
  if decide (p11 < (List.length a0 : Int)) = true then ((getI a0 p11).bind fun x17_2 => if decide ((50 : Int) < (List.length x17_2.Key : Int)) = true then (F99.j19 rec11 p11 true) else ((getI a0 p11).bind fun x17_10 => F99.j19 rec11 p11 (decide ((50 : Int) < (List.length x17_10.Val : Int))))) else (some true)
def F99 (l11 : (Int) → Option Bool) (a0 : (List Pair)) : Option Bool :=
  if decide ((20 : Int) < (List.length a0 : Int)) = true then (some false) else (l11 0)
/-- ballast/ballastlaw4.Few -/
theorem c99 (a0 : (List Pair)) (l11 : (Int) → Option Bool) (hl11 : Rounds (F99.l11 a0) (l11)) (r : Bool) (h : F99 l11 a0 = some r) :
    Det Tryz.prog 99 [AV.lst 2 Pair.av a0] (.ret (AV.bool r)) := by
  refine Det.of_le ?_
  refine @calls_of_body Tryz.prog 99 Tryz.f99 _ Tryz.func99 rfl (by kernel_rfl) [.tmp 2] (by rw [Tryz.results99]) 29 Tryz.ntmps99 _ _ _ (by simp only [List.length_cons, List.length_nil]; decide) ?_
  unfold F99 at h
  refine awp_sr kpNone [] [] [0] (cs := []) (st' := ⟨29, [(0, AV.lst 2 Pair.av a0)], [], [], []⟩) (by kernel_rfl) trivial ?_
  refine awp_seq fun N3 hN3 => ?_
  refine awp_sr kpNone [(1, AV.int (List.length a0 : Int))] [] [0, 6] (cs := [((AV.int (List.length a0 : Int) = .val (.int .i64 (List.length (List.map Pair.av a0) : Int))))]) (st' := ⟨29, [(0, AV.lst 2 Pair.av a0), (6, AV.bool (decide ((20 : Int) < (List.length a0 : Int))))], [], [], []⟩) (by kernel_rfl) ⟨len_map _ _, trivial⟩ ?_
  refine awp_cond (t := decide ((20 : Int) < (List.length a0 : Int))) rfl (fun hb => ?_) (fun hb => ?_)
  · rw [if_pos hb] at h
    refine awp_sr kpNone [] [] [2] (cs := []) (st' := ⟨29, [(2, AV.bool false)], [], [], []⟩) (by kernel_rfl) trivial ?_
    have h := Option.some.inj h
    subst h
    exact awp_ret ⟨[AV.bool false], by kernel_rfl, Lw.refl _⟩
  · rw [if_false hb] at h
    refine awp_skip ?_
    refine hN3 _ ?_
    refine awp_seq fun N8 hN8 => ?_
    refine awp_sr kpNone [] [] [0, 3] (cs := []) (st' := ⟨29, [(0, AV.lst 2 Pair.av a0), (3, AV.int 0)], [], [], []⟩) (by kernel_rfl) trivial ?_
    refine awp_block ?_
    refine awp_loop ?_
    refine awpL_le (st' := ⟨29, [(0, AV.lst 2 Pair.av a0), (3, AV.int 0)], [], [], []⟩) ?_ ?_
    · exact Le.rfl'
    refine awpL_fix hl11 r (fun p11 => ⟨29, [(0, AV.lst 2 Pair.av a0), (3, AV.int p11)], [], [], []⟩) (fun rec11 hrec11 p11 h => ?_) 0 h
    unfold F99.l11 at h
    refine awpL_round ?_
    refine awp_seq fun N12 hN12 => ?_
    refine awp_sr kpNone [(2, AV.int (List.length a0 : Int))] [] [0, 3, 10] (cs := [((AV.int (List.length a0 : Int) = .val (.int .i64 (List.length (List.map Pair.av a0) : Int))))]) (st' := ⟨29, [(0, AV.lst 2 Pair.av a0), (3, AV.int p11), (10, AV.bool (decide (p11 < (List.length a0 : Int))))], [], [], []⟩) (by kernel_rfl) ⟨len_map _ _, trivial⟩ ?_
    refine awp_cond (t := decide (p11 < (List.length a0 : Int))) rfl (fun hb => ?_) (fun hb => ?_)
    · rw [if_pos hb] at h
      refine awp_skip ?_
      refine hN12 _ ?_
      refine awp_seq fun N15 hN15 => ?_
      refine awp_block ?_
      refine awp_seq fun N16 hN16 => ?_
      refine awp_to (σ := Bool) (fun p19 => ⟨29, [(0, AV.lst 2 Pair.av a0), (3, AV.int p11), (28, AV.bool p19)], [], [], []⟩) (fun p19 => F99.j19 rec11 p11 p19 = some r) (fun p19 h => ?_) (fun N19 hJ19 => ?_)
      · unfold F99.j19 at h
        refine hN16 _ ?_
        refine awp_cond (t := p19) rfl (fun hb => ?_) (fun hb => ?_)
        · rw [if_pos hb] at h
          refine awp_sr kpNone [] [] [2] (cs := []) (st' := ⟨29, [(2, AV.bool false)], [], [], []⟩) (by kernel_rfl) trivial ?_
          have h := Option.some.inj h
          subst h
          exact awp_ret ⟨[AV.bool false], by kernel_rfl, Lw.refl _⟩
        · rw [if_false hb] at h
          refine awp_skip ?_
          refine hN15 _ ?_
          refine awp_reg kpNone [] [] [0, 3] (cs := []) (st' := ⟨29, [(0, AV.lst 2 Pair.av a0), (3, AV.int (w64 (p11 + (1 : Int))))], [], [], []⟩) (by kernel_rfl) trivial ?_
          refine awpL_le ?_ (hrec11 _ h)
          exact Le.rfl'
      · obtain ⟨x17_2, hx17_2, h⟩ := Option.bind_eq_some_iff.1 h
        by_cases hg18 : decide ((50 : Int) < (List.length x17_2.Key : Int)) = true
        · rw [if_pos hg18] at h
          refine awp_reg kpNone [(2, Pair.av x17_2)] [(7, true)] [0, 3, 28] (cs := [(0 ≤ p11), ((List.map Pair.av a0)[Int.toNat p11]? = some (Pair.av x17_2)), (decide ((50 : Int) < (List.length x17_2.Key : Int)) = true)]) (st' := ⟨29, [(0, AV.lst 2 Pair.av a0), (3, AV.int p11), (28, AV.bool true)], [], [], []⟩) (by kernel_rfl) ⟨getI_le hx17_2, getI_map hx17_2 _, hg18, trivial⟩ ?_
          exact hJ19 true _ h (Le.rfl')
        · rw [if_neg hg18] at h
          have hg18 := Bool.eq_false_iff.2 hg18
          obtain ⟨x17_10, hx17_10, h⟩ := Option.bind_eq_some_iff.1 h
          refine awp_reg kpNone [(2, Pair.av x17_2), (10, Pair.av x17_10)] [(7, false)] [0, 3, 28] (cs := [(0 ≤ p11), ((List.map Pair.av a0)[Int.toNat p11]? = some (Pair.av x17_2)), (decide ((50 : Int) < (List.length x17_2.Key : Int)) = false), (0 ≤ p11), ((List.map Pair.av a0)[Int.toNat p11]? = some (Pair.av x17_10))]) (st' := ⟨29, [(0, AV.lst 2 Pair.av a0), (3, AV.int p11), (28, AV.bool (decide ((50 : Int) < (List.length x17_10.Val : Int))))], [], [], []⟩) (by kernel_rfl) ⟨getI_le hx17_2, getI_map hx17_2 _, hg18, getI_le hx17_10, getI_map hx17_10 _, trivial⟩ ?_
          exact hJ19 (decide ((50 : Int) < (List.length x17_10.Val : Int))) _ h (Le.rfl')
    · rw [if_false hb] at h
      refine awp_exit ?_
      refine hN8 _ ?_
      refine awp_sr kpNone [] [] [2] (cs := []) (st' := ⟨29, [(2, AV.bool true)], [], [], []⟩) (by kernel_rfl) trivial ?_
      have h := Option.some.inj h
      subst h
      exact awp_ret ⟨[AV.bool true], by kernel_rfl, Lw.refl _⟩
-- {"kind": "tot", "S": "few Pair.short", "thm": "d99"}
theorem d99 (a0 : List Pair) : Det Tryz.prog 99 [AV.lst 2 Pair.av a0] (.ret (AV.bool (few Pair.short a0))) := by
  refine Det.len 0 rfl fun hl => c99 a0 _ (rounds_list a0 hl (fun t => some (t.all Pair.short)) _ ?_ ?_) _ ?_
  · intro rec
    simp [F99.l11]
  · intro rec p x t h0 h1 hx hd hr hw
    simp only [F99.l11, F99.j19, hx, hw, hr, h1, decide_true, if_true, Option.bind_some, List.all_cons, Pair.short, decide_eq_true_eq]
    by_cases h : x.Key.length ≤ 50
    · rw [if_neg (by omega)]
      by_cases h' : x.Val.length ≤ 50
      · rw [if_neg (by omega)]; simp [h, h']
      · rw [if_pos (by omega)]; simp [h, h']
    · rw [if_pos (by omega)]; simp [h]
  · simp only [F99, few, decide_eq_true_eq]
    by_cases h : a0.length ≤ 20
    · rw [if_neg (by omega)]; simp [h]
    · rw [if_pos (by omega)]; simp [h]


-- ballastlaw5.Few
def F244.j19 (rec11 : (Int) → Option Bool) (p11 : Int) : (Bool) → Option Bool := fun p19 =>
  if p19 = true then (some false) else (rec11 (w64 (p11 + (1 : Int))))
def F244.l11 (a0 : (List Taint)) (rec11 : (Int) → Option Bool) : (Int) → Option Bool := fun p11 =>
  if decide (p11 < (List.length a0 : Int)) = true then ((getI a0 p11).bind fun x17_2 => if decide ((50 : Int) < (List.length x17_2.Key : Int)) = true then (F244.j19 rec11 p11 true) else ((getI a0 p11).bind fun x17_10 => F244.j19 rec11 p11 (decide ((50 : Int) < (List.length x17_10.Val : Int))))) else (some true)
def F244 (l11 : (Int) → Option Bool) (a0 : (List Taint)) : Option Bool :=
  if decide ((20 : Int) < (List.length a0 : Int)) = true then (some false) else (l11 0)
/-- ballast/ballastlaw5.Few -/
theorem c244 (a0 : (List Taint)) (l11 : (Int) → Option Bool) (hl11 : Rounds (F244.l11 a0) (l11)) (r : Bool) (h : F244 l11 a0 = some r) :
    Det Tryz.prog 244 [AV.lst 3 Taint.av a0] (.ret (AV.bool r)) := by
  refine Det.of_le ?_
  refine @calls_of_body Tryz.prog 244 Tryz.f244 _ Tryz.func244 rfl (by kernel_rfl) [.tmp 2] (by rw [Tryz.results244]) 29 Tryz.ntmps244 _ _ _ (by simp only [List.length_cons, List.length_nil]; decide) ?_
  unfold F244 at h
  refine awp_sr kpNone [] [] [0] (cs := []) (st' := ⟨29, [(0, AV.lst 3 Taint.av a0)], [], [], []⟩) (by kernel_rfl) trivial ?_
  refine awp_seq fun N3 hN3 => ?_
  refine awp_sr kpNone [(1, AV.int (List.length a0 : Int))] [] [0, 6] (cs := [((AV.int (List.length a0 : Int) = .val (.int .i64 (List.length (List.map Taint.av a0) : Int))))]) (st' := ⟨29, [(0, AV.lst 3 Taint.av a0), (6, AV.bool (decide ((20 : Int) < (List.length a0 : Int))))], [], [], []⟩) (by kernel_rfl) ⟨len_map _ _, trivial⟩ ?_
  refine awp_cond (t := decide ((20 : Int) < (List.length a0 : Int))) rfl (fun hb => ?_) (fun hb => ?_)
  · rw [if_pos hb] at h
    refine awp_sr kpNone [] [] [2] (cs := []) (st' := ⟨29, [(2, AV.bool false)], [], [], []⟩) (by kernel_rfl) trivial ?_
    have h := Option.some.inj h
    subst h
    exact awp_ret ⟨[AV.bool false], by kernel_rfl, Lw.refl _⟩
  · rw [if_false hb] at h
    refine awp_skip ?_
    refine hN3 _ ?_
    refine awp_seq fun N8 hN8 => ?_
    refine awp_sr kpNone [] [] [0, 3] (cs := []) (st' := ⟨29, [(0, AV.lst 3 Taint.av a0), (3, AV.int 0)], [], [], []⟩) (by kernel_rfl) trivial ?_
    refine awp_block ?_
    refine awp_loop ?_
    refine awpL_le (st' := ⟨29, [(0, AV.lst 3 Taint.av a0), (3, AV.int 0)], [], [], []⟩) ?_ ?_
    · exact Le.rfl'
    refine awpL_fix hl11 r (fun p11 => ⟨29, [(0, AV.lst 3 Taint.av a0), (3, AV.int p11)], [], [], []⟩) (fun rec11 hrec11 p11 h => ?_) 0 h
    unfold F244.l11 at h
    refine awpL_round ?_
    refine awp_seq fun N12 hN12 => ?_
    refine awp_sr kpNone [(2, AV.int (List.length a0 : Int))] [] [0, 3, 10] (cs := [((AV.int (List.length a0 : Int) = .val (.int .i64 (List.length (List.map Taint.av a0) : Int))))]) (st' := ⟨29, [(0, AV.lst 3 Taint.av a0), (3, AV.int p11), (10, AV.bool (decide (p11 < (List.length a0 : Int))))], [], [], []⟩) (by kernel_rfl) ⟨len_map _ _, trivial⟩ ?_
    refine awp_cond (t := decide (p11 < (List.length a0 : Int))) rfl (fun hb => ?_) (fun hb => ?_)
    · rw [if_pos hb] at h
      refine awp_skip ?_
      refine hN12 _ ?_
      refine awp_seq fun N15 hN15 => ?_
      refine awp_block ?_
      refine awp_seq fun N16 hN16 => ?_
      refine awp_to (σ := Bool) (fun p19 => ⟨29, [(0, AV.lst 3 Taint.av a0), (3, AV.int p11), (28, AV.bool p19)], [], [], []⟩) (fun p19 => F244.j19 rec11 p11 p19 = some r) (fun p19 h => ?_) (fun N19 hJ19 => ?_)
      · unfold F244.j19 at h
        refine hN16 _ ?_
        refine awp_cond (t := p19) rfl (fun hb => ?_) (fun hb => ?_)
        · rw [if_pos hb] at h
          refine awp_sr kpNone [] [] [2] (cs := []) (st' := ⟨29, [(2, AV.bool false)], [], [], []⟩) (by kernel_rfl) trivial ?_
          have h := Option.some.inj h
          subst h
          exact awp_ret ⟨[AV.bool false], by kernel_rfl, Lw.refl _⟩
        · rw [if_false hb] at h
          refine awp_skip ?_
          refine hN15 _ ?_
          refine awp_reg kpNone [] [] [0, 3] (cs := []) (st' := ⟨29, [(0, AV.lst 3 Taint.av a0), (3, AV.int (w64 (p11 + (1 : Int))))], [], [], []⟩) (by kernel_rfl) trivial ?_
          refine awpL_le ?_ (hrec11 _ h)
          exact Le.rfl'
      · obtain ⟨x17_2, hx17_2, h⟩ := Option.bind_eq_some_iff.1 h
        by_cases hg18 : decide ((50 : Int) < (List.length x17_2.Key : Int)) = true
        · rw [if_pos hg18] at h
          refine awp_reg kpNone [(2, Taint.av x17_2)] [(7, true)] [0, 3, 28] (cs := [(0 ≤ p11), ((List.map Taint.av a0)[Int.toNat p11]? = some (Taint.av x17_2)), (decide ((50 : Int) < (List.length x17_2.Key : Int)) = true)]) (st' := ⟨29, [(0, AV.lst 3 Taint.av a0), (3, AV.int p11), (28, AV.bool true)], [], [], []⟩) (by kernel_rfl) ⟨getI_le hx17_2, getI_map hx17_2 _, hg18, trivial⟩ ?_
          exact hJ19 true _ h (Le.rfl')
        · rw [if_neg hg18] at h
          have hg18 := Bool.eq_false_iff.2 hg18
          obtain ⟨x17_10, hx17_10, h⟩ := Option.bind_eq_some_iff.1 h
          refine awp_reg kpNone [(2, Taint.av x17_2), (10, Taint.av x17_10)] [(7, false)] [0, 3, 28] (cs := [(0 ≤ p11), ((List.map Taint.av a0)[Int.toNat p11]? = some (Taint.av x17_2)), (decide ((50 : Int) < (List.length x17_2.Key : Int)) = false), (0 ≤ p11), ((List.map Taint.av a0)[Int.toNat p11]? = some (Taint.av x17_10))]) (st' := ⟨29, [(0, AV.lst 3 Taint.av a0), (3, AV.int p11), (28, AV.bool (decide ((50 : Int) < (List.length x17_10.Val : Int))))], [], [], []⟩) (by kernel_rfl) ⟨getI_le hx17_2, getI_map hx17_2 _, hg18, getI_le hx17_10, getI_map hx17_10 _, trivial⟩ ?_
          exact hJ19 (decide ((50 : Int) < (List.length x17_10.Val : Int))) _ h (Le.rfl')
    · rw [if_false hb] at h
      refine awp_exit ?_
      refine hN8 _ ?_
      refine awp_sr kpNone [] [] [2] (cs := []) (st' := ⟨29, [(2, AV.bool true)], [], [], []⟩) (by kernel_rfl) trivial ?_
      have h := Option.some.inj h
      subst h
      exact awp_ret ⟨[AV.bool true], by kernel_rfl, Lw.refl _⟩
-- {"kind": "tot", "S": "few Taint.short", "thm": "d244"}
theorem d244 (a0 : List Taint) : Det Tryz.prog 244 [AV.lst 3 Taint.av a0] (.ret (AV.bool (few Taint.short a0))) := by
  refine Det.len 0 rfl fun hl => c244 a0 _ (rounds_list a0 hl (fun t => some (t.all Taint.short)) _ ?_ ?_) _ ?_
  · intro rec
    simp [F244.l11]
  · intro rec p x t h0 h1 hx hd hr hw
    simp only [F244.l11, F244.j19, hx, hw, hr, h1, decide_true, if_true, Option.bind_some, List.all_cons, Taint.short, decide_eq_true_eq]
    by_cases h : x.Key.length ≤ 50
    · rw [if_neg (by omega)]
      by_cases h' : x.Val.length ≤ 50
      · rw [if_neg (by omega)]; simp [h, h']
      · rw [if_pos (by omega)]; simp [h, h']
    · rw [if_pos (by omega)]; simp [h]
  · simp only [F244, few, decide_eq_true_eq]
    by_cases h : a0.length ≤ 20
    · rw [if_neg (by omega)]; simp [h]
    · rw [if_pos (by omega)]; simp [h]


-- ballastlaw6.Few
def F144 (a0 : Node) : Option Bool :=
  some ((decide ((List.length a0.Name : Int) ≤ (50 : Int))) && ((few Amount.short a0.Cap) && ((few Pair.short a0.Labels) && (few Taint.short a0.Taints))))
/-- ballast/ballastlaw6.Few -/
theorem c144 (a0 : Node) (r : Bool) (h : F144 a0 = some r) :
    Det Tryz.prog 144 [Node.av a0] (.ret (AV.bool r)) := by
  refine Det.of_le ?_
  refine @calls_of_body Tryz.prog 144 Tryz.f144 _ Tryz.func144 rfl (by kernel_rfl) [.tmp 2] (by rw [Tryz.results144]) 22 Tryz.ntmps144 _ _ _ (by simp only [List.length_cons, List.length_nil]; decide) ?_
  unfold F144 at h
  refine awp_sr kpNone [] [] [1] (cs := []) (st' := ⟨22, [(1, .varp 1 0)], [(1, (false, a0.cs))], [], []⟩) (by kernel_rfl) trivial ?_
  refine awp_seq fun N3 hN3 => ?_
  refine awp_to (σ := Bool) (fun p => ⟨22, [(2, AV.bool p)], [(1, (false, a0.cs))], [], []⟩) (fun p => p = ((decide ((List.length a0.Name : Int) ≤ (50 : Int))) && ((few Amount.short a0.Cap) && ((few Pair.short a0.Labels) && (few Taint.short a0.Taints))))) (fun p hp => ?_) (fun N8 hJ8 => ?_)
  · subst hp
    refine hN3 _ ?_
    have h := Option.some.inj h
    subst h
    exact awp_ret ⟨[AV.bool ((decide ((List.length a0.Name : Int) ≤ (50 : Int))) && ((few Amount.short a0.Cap) && ((few Pair.short a0.Labels) && (few Taint.short a0.Taints))))], by kernel_rfl, Lw.refl _⟩
  · by_cases hg5 : decide ((List.length a0.Name : Int) ≤ (50 : Int)) = true
    · by_cases hg6 : (few Amount.short a0.Cap) = true
      · by_cases hg7 : (few Pair.short a0.Labels) = true
        · refine awp_reg kpNone [(7, AV.bool (few Amount.short a0.Cap)), (12, AV.bool (few Pair.short a0.Labels)), (17, AV.bool (few Taint.short a0.Taints))] [(4, true), (9, true), (14, true)] [2] (cs := [(decide ((List.length a0.Name : Int) ≤ (50 : Int)) = true), (Det Tryz.prog 98 [AV.lst 2 Amount.av a0.Cap] (.ret (AV.bool (few Amount.short a0.Cap)))), ((few Amount.short a0.Cap) = true), (Det Tryz.prog 99 [AV.lst 2 Pair.av a0.Labels] (.ret (AV.bool (few Pair.short a0.Labels)))), ((few Pair.short a0.Labels) = true), (Det Tryz.prog 244 [AV.lst 3 Taint.av a0.Taints] (.ret (AV.bool (few Taint.short a0.Taints))))]) (st' := ⟨22, [(2, AV.bool (few Taint.short a0.Taints))], [(1, (false, a0.cs))], [], []⟩) (by kernel_rfl) ⟨hg5, d98 a0.Cap, hg6, d99 a0.Labels, hg7, d244 a0.Taints, trivial⟩ ?_
          exact hJ8 (few Taint.short a0.Taints) _ (by first | rfl | (rw [hg5, hg6, hg7]; done) | (rw [hg5, hg6, hg7]; rfl) | (simp [hg5, hg6, hg7]; done) | (exfalso; revert hg5 hg6 hg7; simp; done) | (exfalso; revert hg5 hg6 hg7; simp; intros; assumption)) (Le.rfl')
        · have hg7 := Bool.eq_false_iff.2 hg7
          refine awp_reg kpNone [(7, AV.bool (few Amount.short a0.Cap)), (12, AV.bool (few Pair.short a0.Labels))] [(4, true), (9, true), (14, false)] [2] (cs := [(decide ((List.length a0.Name : Int) ≤ (50 : Int)) = true), (Det Tryz.prog 98 [AV.lst 2 Amount.av a0.Cap] (.ret (AV.bool (few Amount.short a0.Cap)))), ((few Amount.short a0.Cap) = true), (Det Tryz.prog 99 [AV.lst 2 Pair.av a0.Labels] (.ret (AV.bool (few Pair.short a0.Labels)))), ((few Pair.short a0.Labels) = false)]) (st' := ⟨22, [(2, AV.bool false)], [(1, (false, a0.cs))], [], []⟩) (by kernel_rfl) ⟨hg5, d98 a0.Cap, hg6, d99 a0.Labels, hg7, trivial⟩ ?_
          exact hJ8 false _ (by first | rfl | (rw [hg5, hg6, hg7]; done) | (rw [hg5, hg6, hg7]; rfl) | (simp [hg5, hg6, hg7]; done) | (exfalso; revert hg5 hg6 hg7; simp; done) | (exfalso; revert hg5 hg6 hg7; simp; intros; assumption)) (Le.rfl')
      · have hg6 := Bool.eq_false_iff.2 hg6
        refine awp_reg kpNone [(7, AV.bool (few Amount.short a0.Cap))] [(4, true), (9, false)] [2] (cs := [(decide ((List.length a0.Name : Int) ≤ (50 : Int)) = true), (Det Tryz.prog 98 [AV.lst 2 Amount.av a0.Cap] (.ret (AV.bool (few Amount.short a0.Cap)))), ((few Amount.short a0.Cap) = false)]) (st' := ⟨22, [(2, AV.bool false)], [(1, (false, a0.cs))], [], []⟩) (by kernel_rfl) ⟨hg5, d98 a0.Cap, hg6, trivial⟩ ?_
        exact hJ8 false _ (by first | rfl | (rw [hg5, hg6]; done) | (rw [hg5, hg6]; rfl) | (simp [hg5, hg6]; done) | (exfalso; revert hg5 hg6; simp; done) | (exfalso; revert hg5 hg6; simp; intros; assumption)) (Le.rfl')
    · have hg5 := Bool.eq_false_iff.2 hg5
      refine awp_reg kpNone [] [(4, false)] [2] (cs := [(decide ((List.length a0.Name : Int) ≤ (50 : Int)) = false)]) (st' := ⟨22, [(2, AV.bool false)], [(1, (false, a0.cs))], [], []⟩) (by kernel_rfl) ⟨hg5, trivial⟩ ?_
      exact hJ8 false _ (by first | rfl | (rw [hg5]; done) | (rw [hg5]; rfl) | (simp [hg5]; done) | (exfalso; revert hg5; simp; done) | (exfalso; revert hg5; simp; intros; assumption)) (Le.rfl')
-- {"kind": "tot", "S": "Node.few", "thm": "d144"}
theorem d144 (a0 : Node) : Det Tryz.prog 144 [Node.av a0] (.ret (AV.bool (Node.few a0))) := by
  refine c144 a0 _ ?_
  have e : ∀ n : Nat, (decide ((n : Int) ≤ 50)) = decide (n ≤ 50) := fun n => by
    by_cases h : n ≤ 50
    · have : (n : Int) ≤ 50 := by omega
      simp [h, this]
    · have : ¬ (n : Int) ≤ 50 := by omega
      simp [h, this]
  simp only [F144, Node.few, Option.some.injEq, e, Bool.and_assoc]


-- ballastlaw5.FewTols
def F101.j19 (rec11 : (Int) → Option Bool) (p11 : Int) : (Bool) → Option Bool := fun p19 =>
  if p19 = true then (some false) else (rec11 (w64 (p11 + (1 : Int))))
def F101.l11 (a0 : (List Tol)) (rec11 : (Int) → Option Bool) : (Int) → Option Bool := fun p11 =>
  if decide (p11 < (List.length a0 : Int)) = true then ((getI a0 p11).bind fun x17_2 => if decide ((50 : Int) < (List.length x17_2.Key : Int)) = true then (F101.j19 rec11 p11 true) else ((getI a0 p11).bind fun x17_10 => F101.j19 rec11 p11 (decide ((50 : Int) < (List.length x17_10.Val : Int))))) else (some true)
def F101 (l11 : (Int) → Option Bool) (a0 : (List Tol)) : Option Bool :=
  if decide ((20 : Int) < (List.length a0 : Int)) = true then (some false) else (l11 0)
/-- ballast/ballastlaw5.FewTols -/
theorem c101 (a0 : (List Tol)) (l11 : (Int) → Option Bool) (hl11 : Rounds (F101.l11 a0) (l11)) (r : Bool) (h : F101 l11 a0 = some r) :
    Det Tryz.prog 101 [AV.lst 3 Tol.av a0] (.ret (AV.bool r)) := by
  refine Det.of_le ?_
  refine @calls_of_body Tryz.prog 101 Tryz.f101 _ Tryz.func101 rfl (by kernel_rfl) [.tmp 2] (by rw [Tryz.results101]) 29 Tryz.ntmps101 _ _ _ (by simp only [List.length_cons, List.length_nil]; decide) ?_
  unfold F101 at h
  refine awp_sr kpNone [] [] [0] (cs := []) (st' := ⟨29, [(0, AV.lst 3 Tol.av a0)], [], [], []⟩) (by kernel_rfl) trivial ?_
  refine awp_seq fun N3 hN3 => ?_
  refine awp_sr kpNone [(1, AV.int (List.length a0 : Int))] [] [0, 6] (cs := [((AV.int (List.length a0 : Int) = .val (.int .i64 (List.length (List.map Tol.av a0) : Int))))]) (st' := ⟨29, [(0, AV.lst 3 Tol.av a0), (6, AV.bool (decide ((20 : Int) < (List.length a0 : Int))))], [], [], []⟩) (by kernel_rfl) ⟨len_map _ _, trivial⟩ ?_
  refine awp_cond (t := decide ((20 : Int) < (List.length a0 : Int))) rfl (fun hb => ?_) (fun hb => ?_)
  · rw [if_pos hb] at h
    refine awp_sr kpNone [] [] [2] (cs := []) (st' := ⟨29, [(2, AV.bool false)], [], [], []⟩) (by kernel_rfl) trivial ?_
    have h := Option.some.inj h
    subst h
    exact awp_ret ⟨[AV.bool false], by kernel_rfl, Lw.refl _⟩
  · rw [if_false hb] at h
    refine awp_skip ?_
    refine hN3 _ ?_
    refine awp_seq fun N8 hN8 => ?_
    refine awp_sr kpNone [] [] [0, 3] (cs := []) (st' := ⟨29, [(0, AV.lst 3 Tol.av a0), (3, AV.int 0)], [], [], []⟩) (by kernel_rfl) trivial ?_
    refine awp_block ?_
    refine awp_loop ?_
    refine awpL_le (st' := ⟨29, [(0, AV.lst 3 Tol.av a0), (3, AV.int 0)], [], [], []⟩) ?_ ?_
    · exact Le.rfl'
    refine awpL_fix hl11 r (fun p11 => ⟨29, [(0, AV.lst 3 Tol.av a0), (3, AV.int p11)], [], [], []⟩) (fun rec11 hrec11 p11 h => ?_) 0 h
    unfold F101.l11 at h
    refine awpL_round ?_
    refine awp_seq fun N12 hN12 => ?_
    refine awp_sr kpNone [(2, AV.int (List.length a0 : Int))] [] [0, 3, 10] (cs := [((AV.int (List.length a0 : Int) = .val (.int .i64 (List.length (List.map Tol.av a0) : Int))))]) (st' := ⟨29, [(0, AV.lst 3 Tol.av a0), (3, AV.int p11), (10, AV.bool (decide (p11 < (List.length a0 : Int))))], [], [], []⟩) (by kernel_rfl) ⟨len_map _ _, trivial⟩ ?_
    refine awp_cond (t := decide (p11 < (List.length a0 : Int))) rfl (fun hb => ?_) (fun hb => ?_)
    · rw [if_pos hb] at h
      refine awp_skip ?_
      refine hN12 _ ?_
      refine awp_seq fun N15 hN15 => ?_
      refine awp_block ?_
      refine awp_seq fun N16 hN16 => ?_
      refine awp_to (σ := Bool) (fun p19 => ⟨29, [(0, AV.lst 3 Tol.av a0), (3, AV.int p11), (28, AV.bool p19)], [], [], []⟩) (fun p19 => F101.j19 rec11 p11 p19 = some r) (fun p19 h => ?_) (fun N19 hJ19 => ?_)
      · unfold F101.j19 at h
        refine hN16 _ ?_
        refine awp_cond (t := p19) rfl (fun hb => ?_) (fun hb => ?_)
        · rw [if_pos hb] at h
          refine awp_sr kpNone [] [] [2] (cs := []) (st' := ⟨29, [(2, AV.bool false)], [], [], []⟩) (by kernel_rfl) trivial ?_
          have h := Option.some.inj h
          subst h
          exact awp_ret ⟨[AV.bool false], by kernel_rfl, Lw.refl _⟩
        · rw [if_false hb] at h
          refine awp_skip ?_
          refine hN15 _ ?_
          refine awp_reg kpNone [] [] [0, 3] (cs := []) (st' := ⟨29, [(0, AV.lst 3 Tol.av a0), (3, AV.int (w64 (p11 + (1 : Int))))], [], [], []⟩) (by kernel_rfl) trivial ?_
          refine awpL_le ?_ (hrec11 _ h)
          exact Le.rfl'
      · obtain ⟨x17_2, hx17_2, h⟩ := Option.bind_eq_some_iff.1 h
        by_cases hg18 : decide ((50 : Int) < (List.length x17_2.Key : Int)) = true
        · rw [if_pos hg18] at h
          refine awp_reg kpNone [(2, Tol.av x17_2)] [(7, true)] [0, 3, 28] (cs := [(0 ≤ p11), ((List.map Tol.av a0)[Int.toNat p11]? = some (Tol.av x17_2)), (decide ((50 : Int) < (List.length x17_2.Key : Int)) = true)]) (st' := ⟨29, [(0, AV.lst 3 Tol.av a0), (3, AV.int p11), (28, AV.bool true)], [], [], []⟩) (by kernel_rfl) ⟨getI_le hx17_2, getI_map hx17_2 _, hg18, trivial⟩ ?_
          exact hJ19 true _ h (Le.rfl')
        · rw [if_neg hg18] at h
          have hg18 := Bool.eq_false_iff.2 hg18
          obtain ⟨x17_10, hx17_10, h⟩ := Option.bind_eq_some_iff.1 h
          refine awp_reg kpNone [(2, Tol.av x17_2), (10, Tol.av x17_10)] [(7, false)] [0, 3, 28] (cs := [(0 ≤ p11), ((List.map Tol.av a0)[Int.toNat p11]? = some (Tol.av x17_2)), (decide ((50 : Int) < (List.length x17_2.Key : Int)) = false), (0 ≤ p11), ((List.map Tol.av a0)[Int.toNat p11]? = some (Tol.av x17_10))]) (st' := ⟨29, [(0, AV.lst 3 Tol.av a0), (3, AV.int p11), (28, AV.bool (decide ((50 : Int) < (List.length x17_10.Val : Int))))], [], [], []⟩) (by kernel_rfl) ⟨getI_le hx17_2, getI_map hx17_2 _, hg18, getI_le hx17_10, getI_map hx17_10 _, trivial⟩ ?_
          exact hJ19 (decide ((50 : Int) < (List.length x17_10.Val : Int))) _ h (Le.rfl')
    · rw [if_false hb] at h
      refine awp_exit ?_
      refine hN8 _ ?_
      refine awp_sr kpNone [] [] [2] (cs := []) (st' := ⟨29, [(2, AV.bool true)], [], [], []⟩) (by kernel_rfl) trivial ?_
      have h := Option.some.inj h
      subst h
      exact awp_ret ⟨[AV.bool true], by kernel_rfl, Lw.refl _⟩
-- {"kind": "tot", "S": "few Tol.short", "thm": "d101"}
theorem d101 (a0 : List Tol) : Det Tryz.prog 101 [AV.lst 3 Tol.av a0] (.ret (AV.bool (few Tol.short a0))) := by
  refine Det.len 0 rfl fun hl => c101 a0 _ (rounds_list a0 hl (fun t => some (t.all Tol.short)) _ ?_ ?_) _ ?_
  · intro rec
    simp [F101.l11]
  · intro rec p x t h0 h1 hx hd hr hw
    simp only [F101.l11, F101.j19, hx, hw, hr, h1, decide_true, if_true, Option.bind_some, List.all_cons, Tol.short, decide_eq_true_eq]
    by_cases h : x.Key.length ≤ 50
    · rw [if_neg (by omega)]
      by_cases h' : x.Val.length ≤ 50
      · rw [if_neg (by omega)]; simp [h, h']
      · rw [if_pos (by omega)]; simp [h, h']
    · rw [if_pos (by omega)]; simp [h]
  · simp only [F101, few, decide_eq_true_eq]
    by_cases h : a0.length ≤ 20
    · rw [if_neg (by omega)]; simp [h]
    · rw [if_pos (by omega)]; simp [h]


-- ballastlaw7.Few
def F30 (a0 : Pod) : Option Bool :=
  some ((decide ((List.length a0.Name : Int) ≤ (50 : Int))) && ((decide ((List.length a0.Owner : Int) ≤ (50 : Int))) && ((decide ((List.length a0.Key : Int) ≤ (50 : Int))) && ((decide ((List.length a0.Node : Int) ≤ (50 : Int))) && ((few Amount.short a0.Need) && ((few Pair.short a0.Labels) && ((few Term.short a0.Sel) && (few Tol.short a0.Tols))))))))
/-- ballast/ballastlaw7.Few -/
theorem c30 (a0 : Pod) (r : Bool) (h : F30 a0 = some r) :
    Det Tryz.prog 30 [Pod.av a0] (.ret (AV.bool r)) := by
  refine Det.of_le ?_
  refine @calls_of_body Tryz.prog 30 Tryz.f30 _ Tryz.func30 rfl (by kernel_rfl) [.tmp 2] (by rw [Tryz.results30]) 45 Tryz.ntmps30 _ _ _ (by simp only [List.length_cons, List.length_nil]; decide) ?_
  unfold F30 at h
  refine awp_sr kpNone [] [] [1] (cs := []) (st' := ⟨45, [(1, .varp 1 0)], [(1, (false, a0.cs))], [], []⟩) (by kernel_rfl) trivial ?_
  refine awp_seq fun N3 hN3 => ?_
  refine awp_to (σ := Bool) (fun p => ⟨45, [(2, AV.bool p)], [(1, (false, a0.cs))], [], []⟩) (fun p => p = ((decide ((List.length a0.Name : Int) ≤ (50 : Int))) && ((decide ((List.length a0.Owner : Int) ≤ (50 : Int))) && ((decide ((List.length a0.Key : Int) ≤ (50 : Int))) && ((decide ((List.length a0.Node : Int) ≤ (50 : Int))) && ((few Amount.short a0.Need) && ((few Pair.short a0.Labels) && ((few Term.short a0.Sel) && (few Tol.short a0.Tols))))))))) (fun p hp => ?_) (fun N12 hJ12 => ?_)
  · subst hp
    refine hN3 _ ?_
    have h := Option.some.inj h
    subst h
    exact awp_ret ⟨[AV.bool ((decide ((List.length a0.Name : Int) ≤ (50 : Int))) && ((decide ((List.length a0.Owner : Int) ≤ (50 : Int))) && ((decide ((List.length a0.Key : Int) ≤ (50 : Int))) && ((decide ((List.length a0.Node : Int) ≤ (50 : Int))) && ((few Amount.short a0.Need) && ((few Pair.short a0.Labels) && ((few Term.short a0.Sel) && (few Tol.short a0.Tols))))))))], by kernel_rfl, Lw.refl _⟩
  · by_cases hg5 : decide ((List.length a0.Name : Int) ≤ (50 : Int)) = true
    · by_cases hg6 : decide ((List.length a0.Owner : Int) ≤ (50 : Int)) = true
      · by_cases hg7 : decide ((List.length a0.Key : Int) ≤ (50 : Int)) = true
        · by_cases hg8 : decide ((List.length a0.Node : Int) ≤ (50 : Int)) = true
          · by_cases hg9 : (few Amount.short a0.Need) = true
            · by_cases hg10 : (few Pair.short a0.Labels) = true
              · by_cases hg11 : (few Term.short a0.Sel) = true
                · refine awp_reg kpNone [(25, AV.bool (few Amount.short a0.Need)), (30, AV.bool (few Pair.short a0.Labels)), (35, AV.bool (few Term.short a0.Sel)), (40, AV.bool (few Tol.short a0.Tols))] [(4, true), (10, true), (16, true), (22, true), (27, true), (32, true), (37, true)] [2] (cs := [(decide ((List.length a0.Name : Int) ≤ (50 : Int)) = true), (decide ((List.length a0.Owner : Int) ≤ (50 : Int)) = true), (decide ((List.length a0.Key : Int) ≤ (50 : Int)) = true), (decide ((List.length a0.Node : Int) ≤ (50 : Int)) = true), (Det Tryz.prog 98 [AV.lst 2 Amount.av a0.Need] (.ret (AV.bool (few Amount.short a0.Need)))), ((few Amount.short a0.Need) = true), (Det Tryz.prog 99 [AV.lst 2 Pair.av a0.Labels] (.ret (AV.bool (few Pair.short a0.Labels)))), ((few Pair.short a0.Labels) = true), (Det Tryz.prog 100 [AV.lst 3 Term.av a0.Sel] (.ret (AV.bool (few Term.short a0.Sel)))), ((few Term.short a0.Sel) = true), (Det Tryz.prog 101 [AV.lst 3 Tol.av a0.Tols] (.ret (AV.bool (few Tol.short a0.Tols))))]) (st' := ⟨45, [(2, AV.bool (few Tol.short a0.Tols))], [(1, (false, a0.cs))], [], []⟩) (by kernel_rfl) ⟨hg5, hg6, hg7, hg8, d98 a0.Need, hg9, d99 a0.Labels, hg10, d100 a0.Sel, hg11, d101 a0.Tols, trivial⟩ ?_
                  exact hJ12 (few Tol.short a0.Tols) _ (by first | rfl | (rw [hg5, hg6, hg7, hg8, hg9, hg10, hg11]; done) | (rw [hg5, hg6, hg7, hg8, hg9, hg10, hg11]; rfl) | (simp [hg5, hg6, hg7, hg8, hg9, hg10, hg11]; done) | (exfalso; revert hg5 hg6 hg7 hg8 hg9 hg10 hg11; simp; done) | (exfalso; revert hg5 hg6 hg7 hg8 hg9 hg10 hg11; simp; intros; assumption)) (Le.rfl')
                · have hg11 := Bool.eq_false_iff.2 hg11
                  refine awp_reg kpNone [(25, AV.bool (few Amount.short a0.Need)), (30, AV.bool (few Pair.short a0.Labels)), (35, AV.bool (few Term.short a0.Sel))] [(4, true), (10, true), (16, true), (22, true), (27, true), (32, true), (37, false)] [2] (cs := [(decide ((List.length a0.Name : Int) ≤ (50 : Int)) = true), (decide ((List.length a0.Owner : Int) ≤ (50 : Int)) = true), (decide ((List.length a0.Key : Int) ≤ (50 : Int)) = true), (decide ((List.length a0.Node : Int) ≤ (50 : Int)) = true), (Det Tryz.prog 98 [AV.lst 2 Amount.av a0.Need] (.ret (AV.bool (few Amount.short a0.Need)))), ((few Amount.short a0.Need) = true), (Det Tryz.prog 99 [AV.lst 2 Pair.av a0.Labels] (.ret (AV.bool (few Pair.short a0.Labels)))), ((few Pair.short a0.Labels) = true), (Det Tryz.prog 100 [AV.lst 3 Term.av a0.Sel] (.ret (AV.bool (few Term.short a0.Sel)))), ((few Term.short a0.Sel) = false)]) (st' := ⟨45, [(2, AV.bool false)], [(1, (false, a0.cs))], [], []⟩) (by kernel_rfl) ⟨hg5, hg6, hg7, hg8, d98 a0.Need, hg9, d99 a0.Labels, hg10, d100 a0.Sel, hg11, trivial⟩ ?_
                  exact hJ12 false _ (by first | rfl | (rw [hg5, hg6, hg7, hg8, hg9, hg10, hg11]; done) | (rw [hg5, hg6, hg7, hg8, hg9, hg10, hg11]; rfl) | (simp [hg5, hg6, hg7, hg8, hg9, hg10, hg11]; done) | (exfalso; revert hg5 hg6 hg7 hg8 hg9 hg10 hg11; simp; done) | (exfalso; revert hg5 hg6 hg7 hg8 hg9 hg10 hg11; simp; intros; assumption)) (Le.rfl')
              · have hg10 := Bool.eq_false_iff.2 hg10
                refine awp_reg kpNone [(25, AV.bool (few Amount.short a0.Need)), (30, AV.bool (few Pair.short a0.Labels))] [(4, true), (10, true), (16, true), (22, true), (27, true), (32, false)] [2] (cs := [(decide ((List.length a0.Name : Int) ≤ (50 : Int)) = true), (decide ((List.length a0.Owner : Int) ≤ (50 : Int)) = true), (decide ((List.length a0.Key : Int) ≤ (50 : Int)) = true), (decide ((List.length a0.Node : Int) ≤ (50 : Int)) = true), (Det Tryz.prog 98 [AV.lst 2 Amount.av a0.Need] (.ret (AV.bool (few Amount.short a0.Need)))), ((few Amount.short a0.Need) = true), (Det Tryz.prog 99 [AV.lst 2 Pair.av a0.Labels] (.ret (AV.bool (few Pair.short a0.Labels)))), ((few Pair.short a0.Labels) = false)]) (st' := ⟨45, [(2, AV.bool false)], [(1, (false, a0.cs))], [], []⟩) (by kernel_rfl) ⟨hg5, hg6, hg7, hg8, d98 a0.Need, hg9, d99 a0.Labels, hg10, trivial⟩ ?_
                exact hJ12 false _ (by first | rfl | (rw [hg5, hg6, hg7, hg8, hg9, hg10]; done) | (rw [hg5, hg6, hg7, hg8, hg9, hg10]; rfl) | (simp [hg5, hg6, hg7, hg8, hg9, hg10]; done) | (exfalso; revert hg5 hg6 hg7 hg8 hg9 hg10; simp; done) | (exfalso; revert hg5 hg6 hg7 hg8 hg9 hg10; simp; intros; assumption)) (Le.rfl')
            · have hg9 := Bool.eq_false_iff.2 hg9
              refine awp_reg kpNone [(25, AV.bool (few Amount.short a0.Need))] [(4, true), (10, true), (16, true), (22, true), (27, false)] [2] (cs := [(decide ((List.length a0.Name : Int) ≤ (50 : Int)) = true), (decide ((List.length a0.Owner : Int) ≤ (50 : Int)) = true), (decide ((List.length a0.Key : Int) ≤ (50 : Int)) = true), (decide ((List.length a0.Node : Int) ≤ (50 : Int)) = true), (Det Tryz.prog 98 [AV.lst 2 Amount.av a0.Need] (.ret (AV.bool (few Amount.short a0.Need)))), ((few Amount.short a0.Need) = false)]) (st' := ⟨45, [(2, AV.bool false)], [(1, (false, a0.cs))], [], []⟩) (by kernel_rfl) ⟨hg5, hg6, hg7, hg8, d98 a0.Need, hg9, trivial⟩ ?_
              exact hJ12 false _ (by first | rfl | (rw [hg5, hg6, hg7, hg8, hg9]; done) | (rw [hg5, hg6, hg7, hg8, hg9]; rfl) | (simp [hg5, hg6, hg7, hg8, hg9]; done) | (exfalso; revert hg5 hg6 hg7 hg8 hg9; simp; done) | (exfalso; revert hg5 hg6 hg7 hg8 hg9; simp; intros; assumption)) (Le.rfl')
          · have hg8 := Bool.eq_false_iff.2 hg8
            refine awp_reg kpNone [] [(4, true), (10, true), (16, true), (22, false)] [2] (cs := [(decide ((List.length a0.Name : Int) ≤ (50 : Int)) = true), (decide ((List.length a0.Owner : Int) ≤ (50 : Int)) = true), (decide ((List.length a0.Key : Int) ≤ (50 : Int)) = true), (decide ((List.length a0.Node : Int) ≤ (50 : Int)) = false)]) (st' := ⟨45, [(2, AV.bool false)], [(1, (false, a0.cs))], [], []⟩) (by kernel_rfl) ⟨hg5, hg6, hg7, hg8, trivial⟩ ?_
            exact hJ12 false _ (by first | rfl | (rw [hg5, hg6, hg7, hg8]; done) | (rw [hg5, hg6, hg7, hg8]; rfl) | (simp [hg5, hg6, hg7, hg8]; done) | (exfalso; revert hg5 hg6 hg7 hg8; simp; done) | (exfalso; revert hg5 hg6 hg7 hg8; simp; intros; assumption)) (Le.rfl')
        · have hg7 := Bool.eq_false_iff.2 hg7
          refine awp_reg kpNone [] [(4, true), (10, true), (16, false)] [2] (cs := [(decide ((List.length a0.Name : Int) ≤ (50 : Int)) = true), (decide ((List.length a0.Owner : Int) ≤ (50 : Int)) = true), (decide ((List.length a0.Key : Int) ≤ (50 : Int)) = false)]) (st' := ⟨45, [(2, AV.bool false)], [(1, (false, a0.cs))], [], []⟩) (by kernel_rfl) ⟨hg5, hg6, hg7, trivial⟩ ?_
          exact hJ12 false _ (by first | rfl | (rw [hg5, hg6, hg7]; done) | (rw [hg5, hg6, hg7]; rfl) | (simp [hg5, hg6, hg7]; done) | (exfalso; revert hg5 hg6 hg7; simp; done) | (exfalso; revert hg5 hg6 hg7; simp; intros; assumption)) (Le.rfl')
      · have hg6 := Bool.eq_false_iff.2 hg6
        refine awp_reg kpNone [] [(4, true), (10, false)] [2] (cs := [(decide ((List.length a0.Name : Int) ≤ (50 : Int)) = true), (decide ((List.length a0.Owner : Int) ≤ (50 : Int)) = false)]) (st' := ⟨45, [(2, AV.bool false)], [(1, (false, a0.cs))], [], []⟩) (by kernel_rfl) ⟨hg5, hg6, trivial⟩ ?_
        exact hJ12 false _ (by first | rfl | (rw [hg5, hg6]; done) | (rw [hg5, hg6]; rfl) | (simp [hg5, hg6]; done) | (exfalso; revert hg5 hg6; simp; done) | (exfalso; revert hg5 hg6; simp; intros; assumption)) (Le.rfl')
    · have hg5 := Bool.eq_false_iff.2 hg5
      refine awp_reg kpNone [] [(4, false)] [2] (cs := [(decide ((List.length a0.Name : Int) ≤ (50 : Int)) = false)]) (st' := ⟨45, [(2, AV.bool false)], [(1, (false, a0.cs))], [], []⟩) (by kernel_rfl) ⟨hg5, trivial⟩ ?_
      exact hJ12 false _ (by first | rfl | (rw [hg5]; done) | (rw [hg5]; rfl) | (simp [hg5]; done) | (exfalso; revert hg5; simp; done) | (exfalso; revert hg5; simp; intros; assumption)) (Le.rfl')
-- {"kind": "tot", "S": "Pod.few", "thm": "d30"}
theorem d30 (a0 : Pod) : Det Tryz.prog 30 [Pod.av a0] (.ret (AV.bool (Pod.few a0))) := by
  refine c30 a0 _ ?_
  have e : ∀ n : Nat, (decide ((n : Int) ≤ 50)) = decide (n ≤ 50) := fun n => by
    by_cases h : n ≤ 50
    · have : (n : Int) ≤ 50 := by omega
      simp [h, this]
    · have : ¬ (n : Int) ≤ 50 := by omega
      simp [h, this]
  simp only [F30, Pod.few, Option.some.injEq, e, Bool.and_assoc]


-- ballastlaw9.Few
def F52.l27 (a0 : State) (rec27 : (Int) → Option Bool) : (Int) → Option Bool := fun p27 =>
  if decide (p27 < (List.length a0.Pods : Int)) = true then ((getI a0.Pods p27).bind fun x33_3 => if (!(Pod.few x33_3)) = true then (some false) else (rec27 (w64 (p27 + (1 : Int))))) else (some true)
def F52.l14 (a0 : State) (l27 : (Int) → Option Bool) (rec14 : (Int) → Option Bool) : (Int) → Option Bool := fun p14 =>
  if decide (p14 < (List.length a0.Nodes : Int)) = true then ((getI a0.Nodes p14).bind fun x20_3 => if (!(Node.few x20_3)) = true then (some false) else (rec14 (w64 (p14 + (1 : Int))))) else (l27 0)
def F52 (l27 : (Int) → Option Bool) (l14 : ((Int) → Option Bool) → (Int) → Option Bool) (a0 : State) : Option Bool :=
  if ((decide ((34 : Int) < (List.length a0.Nodes : Int))) || ((decide ((130 : Int) < (List.length a0.Pods : Int))) || (!(few Budget.short a0.Budgets)))) = true then (some false) else (l14 l27 0)
/-- ballast/ballastlaw9.Few -/
theorem c52 (a0 : State) (l27 : (Int) → Option Bool) (l14 : ((Int) → Option Bool) → (Int) → Option Bool) (hl27 : Rounds (F52.l27 a0) (l27)) (hl14 : ∀ (l27 : (Int) → Option Bool), Rounds (F52.l14 a0 l27) (l14 l27)) (r : Bool) (h : F52 l27 l14 a0 = some r) :
    Det Tryz.prog 52 [State.av a0] (.ret (AV.bool r)) := by
  refine Det.of_le ?_
  refine @calls_of_body Tryz.prog 52 Tryz.f52 _ Tryz.func52 rfl (by kernel_rfl) [.tmp 2] (by rw [Tryz.results52]) 49 Tryz.ntmps52 _ _ _ (by simp only [List.length_cons, List.length_nil]; decide) ?_
  unfold F52 at h
  refine awp_sr kpNone [] [] [1] (cs := []) (st' := ⟨49, [(1, .varp 1 0)], [(1, (false, a0.cs))], [], []⟩) (by kernel_rfl) trivial ?_
  refine awp_seq fun N3 hN3 => ?_
  refine awp_seq fun N4 hN4 => ?_
  refine awp_to (σ := Bool) (fun p => ⟨49, [(1, .varp 1 0), (20, AV.bool p)], [(1, (false, a0.cs))], [], []⟩) (fun p => p = ((decide ((34 : Int) < (List.length a0.Nodes : Int))) || ((decide ((130 : Int) < (List.length a0.Pods : Int))) || (!(few Budget.short a0.Budgets))))) (fun p hp => ?_) (fun N8 hJ8 => ?_)
  · subst hp
    refine hN4 _ ?_
    refine awp_cond (t := ((decide ((34 : Int) < (List.length a0.Nodes : Int))) || ((decide ((130 : Int) < (List.length a0.Pods : Int))) || (!(few Budget.short a0.Budgets))))) rfl (fun hb => ?_) (fun hb => ?_)
    · rw [if_pos hb] at h
      refine awp_sr kpNone [] [] [2] (cs := []) (st' := ⟨49, [(2, AV.bool false)], [(1, (false, a0.cs))], [], []⟩) (by kernel_rfl) trivial ?_
      have h := Option.some.inj h
      subst h
      exact awp_ret ⟨[AV.bool false], by kernel_rfl, Lw.refl _⟩
    · rw [if_false hb] at h
      refine awp_skip ?_
      refine hN3 _ ?_
      refine awp_seq fun N11 hN11 => ?_
      refine awp_sr kpNone [] [] [1, 3] (cs := []) (st' := ⟨49, [(1, .varp 1 0), (3, AV.int 0)], [(1, (false, a0.cs))], [], []⟩) (by kernel_rfl) trivial ?_
      refine awp_block ?_
      refine awp_loop ?_
      refine awpL_le (st' := ⟨49, [(1, .varp 1 0), (3, AV.int 0)], [(1, (false, a0.cs))], [], []⟩) ?_ ?_
      · exact Le.rfl'
      refine awpL_fix (hl14 l27) r (fun p14 => ⟨49, [(1, .varp 1 0), (3, AV.int p14)], [(1, (false, a0.cs))], [], []⟩) (fun rec14 hrec14 p14 h => ?_) 0 h
      unfold F52.l14 at h
      refine awpL_round ?_
      refine awp_seq fun N15 hN15 => ?_
      refine awp_sr kpNone [(3, AV.int (List.length a0.Nodes : Int))] [] [1, 3, 25] (cs := [((AV.int (List.length a0.Nodes : Int) = .val (.int .i64 (List.length (List.map Node.av a0.Nodes) : Int))))]) (st' := ⟨49, [(1, .varp 1 0), (3, AV.int p14), (25, AV.bool (decide (p14 < (List.length a0.Nodes : Int))))], [(1, (false, a0.cs))], [], []⟩) (by kernel_rfl) ⟨len_map _ _, trivial⟩ ?_
      refine awp_cond (t := decide (p14 < (List.length a0.Nodes : Int))) rfl (fun hb => ?_) (fun hb => ?_)
      · rw [if_pos hb] at h
        refine awp_skip ?_
        refine hN15 _ ?_
        refine awp_seq fun N18 hN18 => ?_
        refine awp_block ?_
        obtain ⟨x20_3, hx20_3, h⟩ := Option.bind_eq_some_iff.1 h
        refine awp_sr kpNone [(3, Node.av x20_3), (5, AV.bool (Node.few x20_3))] [] [1, 3, 34] (cs := [(0 ≤ p14), ((List.map Node.av a0.Nodes)[Int.toNat p14]? = some (Node.av x20_3)), (Det Tryz.prog 144 [Node.av x20_3] (.ret (AV.bool (Node.few x20_3))))]) (st' := ⟨49, [(1, .varp 1 0), (3, AV.int p14), (34, AV.bool (!(Node.few x20_3)))], [(1, (false, a0.cs))], [], []⟩) (by kernel_rfl) ⟨getI_le hx20_3, getI_map hx20_3 _, d144 x20_3, trivial⟩ ?_
        refine awp_cond (t := (!(Node.few x20_3))) rfl (fun hb => ?_) (fun hb => ?_)
        · rw [if_pos hb] at h
          refine awp_sr kpNone [] [] [2] (cs := []) (st' := ⟨49, [(2, AV.bool false)], [(1, (false, a0.cs))], [], []⟩) (by kernel_rfl) trivial ?_
          have h := Option.some.inj h
          subst h
          exact awp_ret ⟨[AV.bool false], by kernel_rfl, Lw.refl _⟩
        · rw [if_false hb] at h
          refine awp_skip ?_
          refine hN18 _ ?_
          refine awp_reg kpNone [] [] [1, 3] (cs := []) (st' := ⟨49, [(1, .varp 1 0), (3, AV.int (w64 (p14 + (1 : Int))))], [(1, (false, a0.cs))], [], []⟩) (by kernel_rfl) trivial ?_
          refine awpL_le ?_ (hrec14 _ h)
          exact Le.rfl'
      · rw [if_false hb] at h
        refine awp_exit ?_
        refine hN11 _ ?_
        refine awp_seq fun N24 hN24 => ?_
        refine awp_sr kpNone [] [] [1, 4] (cs := []) (st' := ⟨49, [(1, .varp 1 0), (4, AV.int 0)], [(1, (false, a0.cs))], [], []⟩) (by kernel_rfl) trivial ?_
        refine awp_block ?_
        refine awp_loop ?_
        refine awpL_le (st' := ⟨49, [(1, .varp 1 0), (4, AV.int 0)], [(1, (false, a0.cs))], [], []⟩) ?_ ?_
        · exact Le.rfl'
        refine awpL_fix hl27 r (fun p27 => ⟨49, [(1, .varp 1 0), (4, AV.int p27)], [(1, (false, a0.cs))], [], []⟩) (fun rec27 hrec27 p27 h => ?_) 0 h
        unfold F52.l27 at h
        refine awpL_round ?_
        refine awp_seq fun N28 hN28 => ?_
        refine awp_sr kpNone [(3, AV.int (List.length a0.Pods : Int))] [] [1, 4, 39] (cs := [((AV.int (List.length a0.Pods : Int) = .val (.int .i64 (List.length (List.map Pod.av a0.Pods) : Int))))]) (st' := ⟨49, [(1, .varp 1 0), (4, AV.int p27), (39, AV.bool (decide (p27 < (List.length a0.Pods : Int))))], [(1, (false, a0.cs))], [], []⟩) (by kernel_rfl) ⟨len_map _ _, trivial⟩ ?_
        refine awp_cond (t := decide (p27 < (List.length a0.Pods : Int))) rfl (fun hb => ?_) (fun hb => ?_)
        · rw [if_pos hb] at h
          refine awp_skip ?_
          refine hN28 _ ?_
          refine awp_seq fun N31 hN31 => ?_
          refine awp_block ?_
          obtain ⟨x33_3, hx33_3, h⟩ := Option.bind_eq_some_iff.1 h
          refine awp_sr kpNone [(3, Pod.av x33_3), (5, AV.bool (Pod.few x33_3))] [] [1, 4, 48] (cs := [(0 ≤ p27), ((List.map Pod.av a0.Pods)[Int.toNat p27]? = some (Pod.av x33_3)), (Det Tryz.prog 30 [Pod.av x33_3] (.ret (AV.bool (Pod.few x33_3))))]) (st' := ⟨49, [(1, .varp 1 0), (4, AV.int p27), (48, AV.bool (!(Pod.few x33_3)))], [(1, (false, a0.cs))], [], []⟩) (by kernel_rfl) ⟨getI_le hx33_3, getI_map hx33_3 _, d30 x33_3, trivial⟩ ?_
          refine awp_cond (t := (!(Pod.few x33_3))) rfl (fun hb => ?_) (fun hb => ?_)
          · rw [if_pos hb] at h
            refine awp_sr kpNone [] [] [2] (cs := []) (st' := ⟨49, [(2, AV.bool false)], [(1, (false, a0.cs))], [], []⟩) (by kernel_rfl) trivial ?_
            have h := Option.some.inj h
            subst h
            exact awp_ret ⟨[AV.bool false], by kernel_rfl, Lw.refl _⟩
          · rw [if_false hb] at h
            refine awp_skip ?_
            refine hN31 _ ?_
            refine awp_reg kpNone [] [] [1, 4] (cs := []) (st' := ⟨49, [(1, .varp 1 0), (4, AV.int (w64 (p27 + (1 : Int))))], [(1, (false, a0.cs))], [], []⟩) (by kernel_rfl) trivial ?_
            refine awpL_le ?_ (hrec27 _ h)
            exact Le.rfl'
        · rw [if_false hb] at h
          refine awp_exit ?_
          refine hN24 _ ?_
          refine awp_sr kpNone [] [] [2] (cs := []) (st' := ⟨49, [(2, AV.bool true)], [(1, (false, a0.cs))], [], []⟩) (by kernel_rfl) trivial ?_
          have h := Option.some.inj h
          subst h
          exact awp_ret ⟨[AV.bool true], by kernel_rfl, Lw.refl _⟩
  · by_cases hg6 : decide ((34 : Int) < (List.length a0.Nodes : Int)) = true
    · refine awp_reg kpNone [(2, AV.int (List.length a0.Nodes : Int))] [(4, true)] [1, 20] (cs := [((AV.int (List.length a0.Nodes : Int) = .val (.int .i64 (List.length (List.map Node.av a0.Nodes) : Int)))), (decide ((34 : Int) < (List.length a0.Nodes : Int)) = true)]) (st' := ⟨49, [(1, .varp 1 0), (20, AV.bool true)], [(1, (false, a0.cs))], [], []⟩) (by kernel_rfl) ⟨len_map _ _, hg6, trivial⟩ ?_
      exact hJ8 true _ (by first | rfl | (rw [hg6]; done) | (rw [hg6]; rfl) | (simp [hg6]; done) | (exfalso; revert hg6; simp; done) | (exfalso; revert hg6; simp; intros; assumption)) (Le.rfl')
    · have hg6 := Bool.eq_false_iff.2 hg6
      by_cases hg7 : decide ((130 : Int) < (List.length a0.Pods : Int)) = true
      · refine awp_reg kpNone [(2, AV.int (List.length a0.Nodes : Int)), (7, AV.int (List.length a0.Pods : Int))] [(4, false), (10, true)] [1, 20] (cs := [((AV.int (List.length a0.Nodes : Int) = .val (.int .i64 (List.length (List.map Node.av a0.Nodes) : Int)))), (decide ((34 : Int) < (List.length a0.Nodes : Int)) = false), ((AV.int (List.length a0.Pods : Int) = .val (.int .i64 (List.length (List.map Pod.av a0.Pods) : Int)))), (decide ((130 : Int) < (List.length a0.Pods : Int)) = true)]) (st' := ⟨49, [(1, .varp 1 0), (20, AV.bool true)], [(1, (false, a0.cs))], [], []⟩) (by kernel_rfl) ⟨len_map _ _, hg6, len_map _ _, hg7, trivial⟩ ?_
        exact hJ8 true _ (by first | rfl | (rw [hg6, hg7]; done) | (rw [hg6, hg7]; rfl) | (simp [hg6, hg7]; done) | (exfalso; revert hg6 hg7; simp; done) | (exfalso; revert hg6 hg7; simp; intros; assumption)) (Le.rfl')
      · have hg7 := Bool.eq_false_iff.2 hg7
        refine awp_reg kpNone [(2, AV.int (List.length a0.Nodes : Int)), (7, AV.int (List.length a0.Pods : Int)), (13, AV.bool (few Budget.short a0.Budgets))] [(4, false), (10, false)] [1, 20] (cs := [((AV.int (List.length a0.Nodes : Int) = .val (.int .i64 (List.length (List.map Node.av a0.Nodes) : Int)))), (decide ((34 : Int) < (List.length a0.Nodes : Int)) = false), ((AV.int (List.length a0.Pods : Int) = .val (.int .i64 (List.length (List.map Pod.av a0.Pods) : Int)))), (decide ((130 : Int) < (List.length a0.Pods : Int)) = false), (Det Tryz.prog 143 [AV.lst 3 Budget.av a0.Budgets] (.ret (AV.bool (few Budget.short a0.Budgets))))]) (st' := ⟨49, [(1, .varp 1 0), (20, AV.bool (!(few Budget.short a0.Budgets)))], [(1, (false, a0.cs))], [], []⟩) (by kernel_rfl) ⟨len_map _ _, hg6, len_map _ _, hg7, d143 a0.Budgets, trivial⟩ ?_
        exact hJ8 (!(few Budget.short a0.Budgets)) _ (by first | rfl | (rw [hg6, hg7]; done) | (rw [hg6, hg7]; rfl) | (simp [hg6, hg7]; done) | (exfalso; revert hg6 hg7; simp; done) | (exfalso; revert hg6 hg7; simp; intros; assumption)) (Le.rfl')
-- {"kind": "tot", "S": "State.few", "thm": "d52"}
open Classical in
theorem d52 (a0 : State) : Det Tryz.prog 52 [State.av a0] (.ret (AV.bool (State.few a0))) := by
  refine Det.lenF 0 0 rfl rfl fun hl => Det.lenF 0 1 rfl rfl fun hl' => ?_
  let L27 : Int → Option Bool := fun p => if 0 ≤ p ∧ p ≤ a0.Pods.length then some ((a0.Pods.drop p.toNat).all Pod.few) else none
  refine c52 a0 L27 (fun l p => if l = L27 then (if 0 ≤ p ∧ p ≤ a0.Nodes.length then some ((a0.Nodes.drop p.toNat).all Node.few && a0.Pods.all Pod.few) else none) else none) ?_ (fun l => ?_) _ ?_
  · refine rounds_list a0.Pods hl' (fun t => some (t.all Pod.few)) _ ?_ ?_
    · intro rec
      simp [F52.l27]
    · intro rec p x t h0 h1 hx hd hr hw
      simp only [F52.l27, hx, hw, hr, h1, decide_true, if_true, Option.bind_some, List.all_cons]
      rcases Bool.eq_false_or_eq_true (Pod.few x) with q | q <;> simp [q]
  · by_cases hle : l = L27
    · subst hle
      simp only [if_true]
      refine rounds_list a0.Nodes hl (fun t => some (t.all Node.few && a0.Pods.all Pod.few)) _ ?_ ?_
      · intro rec
        simp [F52.l14, L27]
      · intro rec p x t h0 h1 hx hd hr hw
        simp only [F52.l14, hx, hw, hr, h1, decide_true, if_true, Option.bind_some, List.all_cons]
        rcases Bool.eq_false_or_eq_true (Node.few x) with q | q <;> simp [q]
    · simp only [hle, if_false]
      exact rounds_none _
  · simp only [F52, State.few]
    by_cases q1 : a0.Nodes.length ≤ 34
    · by_cases q2 : a0.Pods.length ≤ 130
      · rcases Bool.eq_false_or_eq_true (few Budget.short a0.Budgets) with q3 | q3
        · have e1 : ¬ (34 : Int) < a0.Nodes.length := by omega
          have e2 : ¬ (130 : Int) < a0.Pods.length := by omega
          simp [q1, q2, q3, e1, e2]
        · have e1 : ¬ (34 : Int) < a0.Nodes.length := by omega
          have e2 : ¬ (130 : Int) < a0.Pods.length := by omega
          simp [q1, q2, q3, e1, e2]
      · have e1 : ¬ (34 : Int) < a0.Nodes.length := by omega
        have e2 : (130 : Int) < a0.Pods.length := by omega
        simp [q1, q2, e1, e2]
    · have e1 : (34 : Int) < a0.Nodes.length := by omega
      simp [q1, e1]


-- ballastlaw2.Of
def F58.l8 (a0 : (List Amount)) (rec8 : (List Amount × Int) → Option (List Amount)) : (List Amount × Int) → Option (List Amount) := fun p8 =>
  if decide (p8.2 < (List.length a0 : Int)) = true then ((getI a0 p8.2).bind fun x13_3 => (getI a0 p8.2).bind fun x13_8 => if fits 24 (List.length (p8.1 ++ [(⟨x13_3.Name, x13_8.N⟩ : Amount)])) then (rec8 (p8.1 ++ [(⟨x13_3.Name, x13_8.N⟩ : Amount)], w64 (p8.2 + (1 : Int)))) else none) else (some p8.1)
def F58 (l8 : (List Amount × Int) → Option (List Amount)) (a0 : (List Amount)) : Option (List Amount) :=
  l8 (([] : List Amount), 0)
/-- ballast/ballastlaw2.Of -/
theorem c58 (a0 : (List Amount)) (l8 : (List Amount × Int) → Option (List Amount)) (hl8 : Rounds (F58.l8 a0) (l8)) (r : (List Amount)) (h : F58 l8 a0 = some r) :
    Det Tryz.prog 58 [AV.lst 2 Amount.av a0] (.ret (AV.lst 2 Amount.av r)) := by
  refine Det.of_le ?_
  refine @calls_of_body Tryz.prog 58 Tryz.f58 _ Tryz.func58 rfl (by kernel_rfl) [.tmp 2] (by rw [Tryz.results58]) 26 Tryz.ntmps58 _ _ _ (by simp only [List.length_cons, List.length_nil]; decide) ?_
  unfold F58 at h
  refine awp_sr kpNone [] [] [0] (cs := []) (st' := ⟨26, [(0, AV.lst 2 Amount.av a0)], [], [], []⟩) (by kernel_rfl) trivial ?_
  refine awp_sr kpNone [] [] [0, 3] (cs := []) (st' := ⟨26, [(0, AV.lst 2 Amount.av a0), (3, .nils)], [], [], []⟩) (by kernel_rfl) trivial ?_
  refine awp_seq fun N5 hN5 => ?_
  refine awp_sr kpNone [] [] [0, 3, 4] (cs := []) (st' := ⟨26, [(0, AV.lst 2 Amount.av a0), (3, .nils), (4, AV.int 0)], [], [], []⟩) (by kernel_rfl) trivial ?_
  refine awp_block ?_
  refine awp_loop ?_
  refine awpL_le (st' := ⟨26, [(0, AV.lst 2 Amount.av a0), (3, .slice (.own 24) 2 (List.map Amount.av ([] : List Amount))), (4, AV.int 0)], [], [], [(24, (226, 2, List.length (List.map Amount.av ([] : List Amount))))]⟩) ?_ ?_
  · exact Le.mk rfl ⟨.inl rfl, .inr ⟨rfl, rfl, rfl⟩, rfl, trivial⟩ trivial ⟨⟨rfl, by decide⟩, trivial⟩ trivial
  refine awpL_fix hl8 r (fun p8 => ⟨26, [(0, AV.lst 2 Amount.av a0), (3, .slice (.own 24) 2 (List.map Amount.av p8.1)), (4, AV.int p8.2)], [], [], [(24, (226, 2, List.length (List.map Amount.av p8.1)))]⟩) (fun rec8 hrec8 p8 h => ?_) (([] : List Amount), 0) h
  unfold F58.l8 at h
  refine awpL_round ?_
  refine awp_seq fun N9 hN9 => ?_
  refine awp_sr kpNone [(2, AV.int (List.length a0 : Int))] [] [0, 3, 4, 8] (cs := [((AV.int (List.length a0 : Int) = .val (.int .i64 (List.length (List.map Amount.av a0) : Int))))]) (st' := ⟨26, [(0, AV.lst 2 Amount.av a0), (3, .slice (.own 24) 2 (List.map Amount.av p8.1)), (4, AV.int p8.2), (8, AV.bool (decide (p8.2 < (List.length a0 : Int))))], [], [], [(24, (226, 2, List.length (List.map Amount.av p8.1)))]⟩) (by kernel_rfl) ⟨len_map _ _, trivial⟩ ?_
  refine awp_cond (t := decide (p8.2 < (List.length a0 : Int))) rfl (fun hb => ?_) (fun hb => ?_)
  · rw [if_pos hb] at h
    refine awp_skip ?_
    refine hN9 _ ?_
    refine awp_seq fun N12 hN12 => ?_
    refine awp_block ?_
    obtain ⟨x13_3, hx13_3, h⟩ := Option.bind_eq_some_iff.1 h
    obtain ⟨x13_8, hx13_8, h⟩ := Option.bind_eq_some_iff.1 h
    obtain ⟨hp13_13, h⟩ := guardP h
    refine awp_regD mixedTryz kpNone [(3, Amount.av x13_3), (8, Amount.av x13_8), (13, AV.lst 2 Amount.av (p8.1 ++ [(⟨x13_3.Name, x13_8.N⟩ : Amount)]))] [] [0, 3, 4] (by kernel_rfl) (cs := [(0 ≤ p8.2), ((List.map Amount.av a0)[Int.toNat p8.2]? = some (Amount.av x13_3)), (0 ≤ p8.2), ((List.map Amount.av a0)[Int.toNat p8.2]? = some (Amount.av x13_8)), (List.length (List.map Amount.av p8.1) = List.length (List.map Amount.av p8.1)), (List.length (List.map Amount.av (p8.1 ++ [(⟨x13_3.Name, x13_8.N⟩ : Amount)])) * 24 ≤ 140737488355328), (List.length (List.map Amount.av (p8.1 ++ [(⟨x13_3.Name, x13_8.N⟩ : Amount)])) ≤ 140737488355328), (List.map Amount.av p8.1 ++ List.map Amount.av [(⟨x13_3.Name, x13_8.N⟩ : Amount)] = List.map Amount.av (p8.1 ++ [(⟨x13_3.Name, x13_8.N⟩ : Amount)]))]) (st' := ⟨26, [(0, AV.lst 2 Amount.av a0), (3, .slice (.own 24) 2 (List.map Amount.av (p8.1 ++ [(⟨x13_3.Name, x13_8.N⟩ : Amount)]))), (4, AV.int p8.2)], [], [], [(24, (226, 2, List.length (List.map Amount.av (p8.1 ++ [(⟨x13_3.Name, x13_8.N⟩ : Amount)])))), (23, (226, 2, 1))]⟩) (by kernel_rfl) ⟨getI_le hx13_3, getI_map hx13_3 _, getI_le hx13_8, getI_map hx13_8 _, by simp only [List.length_map, List.length_cons, List.length_nil], len_mul _ _ _ _ hp13_13.1, len_ge _ _ hp13_13.2, lst_app _ _ _, trivial⟩ ?_
    refine hN12 _ ?_
    refine awp_reg kpNone [] [] [0, 3, 4] (cs := []) (st' := ⟨26, [(0, AV.lst 2 Amount.av a0), (3, .slice (.own 24) 2 (List.map Amount.av (p8.1 ++ [(⟨x13_3.Name, x13_8.N⟩ : Amount)]))), (4, AV.int (w64 (p8.2 + (1 : Int))))], [], [], [(24, (226, 2, List.length (List.map Amount.av (p8.1 ++ [(⟨x13_3.Name, x13_8.N⟩ : Amount)])))), (23, (226, 2, 1))]⟩) (by kernel_rfl) trivial ?_
    refine awpL_le ?_ (hrec8 _ h)
    exact Le.mk rfl ⟨.inl rfl, .inl ⟨rfl, rfl⟩, rfl, trivial⟩ trivial ⟨rfl, trivial⟩ trivial
  · rw [if_false hb] at h
    refine awp_exit ?_
    refine hN5 _ ?_
    refine awp_sr kpNone [] [] [2] (cs := []) (st' := ⟨26, [(2, .slice (.own 24) 2 (List.map Amount.av p8.1))], [], [], [(24, (226, 2, List.length (List.map Amount.av p8.1)))]⟩) (by kernel_rfl) trivial ?_
    have h := Option.some.inj h
    subst h
    exact awp_ret ⟨[.slice (.own 24) 2 (List.map Amount.av p8.1)], by kernel_rfl, Lw.refl _⟩
-- {"kind": "opt", "S": "copied 24", "thm": "d58"}
theorem d58 (a0 : List Amount) (r : List Amount) (h : copied 24 a0 = some r) : Det Tryz.prog 58 [AV.lst 2 Amount.av a0] (.ret (AV.lst 2 Amount.av r)) := by
  refine Det.len 0 rfl fun hl => c58 a0 _ (rounds_fold a0 hl (fun b t => copied 24 (b ++ t)) _ ?_ ?_) _ ?_
  · intro rec b r h
    rw [List.append_nil] at h
    obtain ⟨rfl, _⟩ := copied_some h
    simp [F58.l8]
  · intro rec p b x t r h0 h1 hx hr hw h
    obtain ⟨h2, h3⟩ := copied_step h
    simp only [F58.l8, hx, hw, h1, decide_true, if_true, Option.bind_some]
    rw [if_pos h2]
    exact hr _ _ h3
  · simp [F58, h]


end Go.Proofs.Eng
