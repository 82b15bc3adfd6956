/- Printed walks and contracts. -/
import Derived.Test.YtdolhcmhdjmoeaaDoorProg
import Derived.Test.YtdolhcmhdjmoeaaDoorEddData
import Derived.Test.YtdolhcmhdjmoeaaDoorEddTry
import Derived.Test.YtdolhcmhdjmoeaaDoorEddPlain
import Derived.Test.YtdolhcmhdjmoeaaDoorEddLeaf
import Derived.Test.YtdolhcmhdjmoeaaDoorEngRen
set_option linter.unusedSimpArgs false
set_option linter.unusedVariables false
set_option maxRecDepth 100000
namespace Go.Proofs.Eng
open Go Go.Proofs Go.Sort
-- ballastlaw9.N
def F5 (a0 : Str) (a1 : Int) : Option Node :=
  some (⟨a0, [(⟨[99, 112, 117], a1⟩ : Amount)], ([] : (List Pair)), ([] : (List Taint)), false⟩ : Node)
/-- ballast/ballastlaw9.N -/
theorem c5 (a0 : Str) (a1 : Int) (r : Node) (h : F5 a0 a1 = some r) :
    Det Tryd.prog 5 [AV.str a0, AV.int a1] (.ret (Node.av r)) := by
  refine Det.of_le ?_
  refine @calls_of_body Tryd.prog 5 Tryd.f5 _ Tryd.func5 rfl (by kernel_rfl) [.cell 4 34] (by rw [Tryd.results5]) 10 Tryd.ntmps5 _ _ _ (by simp only [List.length_cons, List.length_nil]; decide) ?_
  unfold F5 at h
  refine awp_seq fun N1 hN1 => ?_
  refine awp_reg kpNone [] [] [0, 1, 4] (cs := []) (st' := ⟨10, [(0, AV.str a0), (1, AV.int a1), (4, .varp 4 0)], [(4, (false, [AV.str [], .nils, .nils, .nils, AV.bool false]))], [], []⟩) (by kernel_rfl) trivial ?_
  refine hN1 _ ?_
  refine awp_seq fun N3 hN3 => ?_
  refine awp_reg kpNone [] [] [4] (cs := []) (st' := ⟨10, [(4, .varp 4 0)], [(4, (false, [AV.str a0, .slice (.own 8) 2 (List.map Amount.av [(⟨[99, 112, 117], a1⟩ : Amount)]), .nils, .nils, AV.bool false]))], [], [(8, (54, 2, 1))]⟩) (by kernel_rfl) trivial ?_
  refine hN3 _ ?_
  have h := Option.some.inj h
  subst h
  exact awp_ret ⟨[.agg [AV.str a0, .slice (.own 8) 2 (List.map Amount.av [(⟨[99, 112, 117], a1⟩ : Amount)]), .nils, .nils, AV.bool false]], by kernel_rfl, Lw.aggL ⟨(Lw.refl _), (Lw.refl _), (Lw.nils _), (Lw.nils _), (Lw.refl _), trivial⟩⟩


-- ballastlaw9.P
def F6 (a0 : Str) (a1 : Int) (a2 : Str) : Option Pod :=
  some (⟨a0, [], 0, [(⟨[99, 112, 117], a1⟩ : Amount)], ([] : (List Pair)), ([] : (List Term)), ([] : (List Tol)), [], 0, a2, false⟩ : Pod)
/-- ballast/ballastlaw9.P -/
theorem c6 (a0 : Str) (a1 : Int) (a2 : Str) (r : Pod) (h : F6 a0 a1 a2 = some r) :
    Det Tryd.prog 6 [AV.str a0, AV.int a1, AV.str a2] (.ret (Pod.av r)) := by
  refine Det.of_le ?_
  refine @calls_of_body Tryd.prog 6 Tryd.f6 _ Tryd.func6 rfl (by kernel_rfl) [.cell 6 40] (by rw [Tryd.results6]) 13 Tryd.ntmps6 _ _ _ (by simp only [List.length_cons, List.length_nil]; decide) ?_
  unfold F6 at h
  refine awp_seq fun N1 hN1 => ?_
  refine awp_reg kpNone [] [] [0, 1, 2, 6] (cs := []) (st' := ⟨13, [(0, AV.str a0), (1, AV.int a1), (2, AV.str a2), (6, .varp 6 0)], [(6, (false, [AV.str [], AV.str [], AV.int 0, .nils, .nils, .nils, .nils, AV.str [], AV.int 0, AV.str [], AV.bool false]))], [], []⟩) (by kernel_rfl) trivial ?_
  refine hN1 _ ?_
  refine awp_seq fun N3 hN3 => ?_
  refine awp_reg kpNone [] [] [6] (cs := []) (st' := ⟨13, [(6, .varp 6 0)], [(6, (false, [AV.str a0, AV.str [], AV.int 0, .slice (.own 10) 2 (List.map Amount.av [(⟨[99, 112, 117], a1⟩ : Amount)]), .nils, .nils, .nils, AV.str [], AV.int 0, AV.str a2, AV.bool false]))], [], [(10, (54, 2, 1))]⟩) (by kernel_rfl) trivial ?_
  refine hN3 _ ?_
  have h := Option.some.inj h
  subst h
  exact awp_ret ⟨[.agg [AV.str a0, AV.str [], AV.int 0, .slice (.own 10) 2 (List.map Amount.av [(⟨[99, 112, 117], a1⟩ : Amount)]), .nils, .nils, .nils, AV.str [], AV.int 0, AV.str a2, AV.bool false]], by kernel_rfl, Lw.aggL ⟨(Lw.refl _), (Lw.refl _), (Lw.refl _), (Lw.refl _), (Lw.nils _), (Lw.nils _), (Lw.nils _), (Lw.refl _), (Lw.refl _), (Lw.refl _), (Lw.refl _), trivial⟩⟩


-- node.Find
def F23.l6 (a0 : (List Node)) (a1 : Str) (rec6 : (Int) → Option (Node × Bool)) : (Int) → Option (Node × Bool) := fun p6 =>
  if decide (p6 < (List.length a0 : Int)) = true then ((getI a0 p6).bind fun x12_0 => if decide (x12_0.Name = a1) = true then (some (x12_0, true)) else (rec6 (w64 (p6 + (1 : Int))))) else (some ((⟨[], ([] : (List Amount)), ([] : (List Pair)), ([] : (List Taint)), false⟩ : Node), false))
def F23 (l6 : (Int) → Option (Node × Bool)) (a0 : (List Node)) (a1 : Str) : Option (Node × Bool) :=
  l6 0
/-- ballast/node.Find -/
theorem c23 (a0 : (List Node)) (a1 : Str) (l6 : (Int) → Option (Node × Bool)) (hl6 : Rounds (F23.l6 a0 a1) (l6)) (r : (Node × Bool)) (h : F23 l6 a0 a1 = some r) :
    Det Tryd.prog 23 [AV.lst 5 Node.av a0, AV.str a1] (.ret (.tuple [Node.av r.1, AV.bool r.2])) := by
  refine Det.of_le ?_
  refine @calls_of_body Tryd.prog 23 Tryd.f23 _ Tryd.func23 rfl (by kernel_rfl) [.cell 4 34, .tmp 5] (by rw [Tryd.results23]) 21 Tryd.ntmps23 _ _ _ (by simp only [List.length_cons, List.length_nil]; decide) ?_
  unfold F23 at h
  refine awp_seq fun N1 hN1 => ?_
  refine awp_reg kpNone [] [] [0, 1, 4] (cs := []) (st' := ⟨21, [(0, AV.lst 5 Node.av a0), (1, AV.str a1), (4, .varp 4 0)], [(4, (false, [AV.str [], .nils, .nils, .nils, AV.bool false]))], [], []⟩) (by kernel_rfl) trivial ?_
  refine hN1 _ ?_
  refine awp_seq fun N3 hN3 => ?_
  refine awp_seq fun N4 hN4 => ?_
  refine awp_reg kpNone [(1, AV.int (List.length a0 : Int))] [] [1, 4, 8, 9, 10] (cs := [((AV.int (List.length a0 : Int) = .val (.int .i64 (List.length (List.map Node.av a0) : Int))))]) (st' := ⟨21, [(1, AV.str a1), (4, .varp 4 0), (8, AV.lst 5 Node.av a0), (9, AV.int (List.length a0 : Int)), (10, AV.int 0)], [(4, (false, [AV.str [], .nils, .nils, .nils, AV.bool false]))], [], []⟩) (by kernel_rfl) ⟨len_map _ _, trivial⟩ ?_
  refine hN4 _ ?_
  refine awp_block ?_
  refine awp_loop ?_
  refine awpL_le (st' := ⟨21, [(1, AV.str a1), (4, .varp 4 0), (8, AV.lst 5 Node.av a0), (9, AV.int (List.length a0 : Int)), (10, AV.int 0)], [(4, (false, [AV.str [], .nils, .nils, .nils, AV.bool false]))], [], []⟩) ?_ ?_
  · exact Le.rfl'
  refine awpL_fix hl6 r (fun p6 => ⟨21, [(1, AV.str a1), (4, .varp 4 0), (8, AV.lst 5 Node.av a0), (9, AV.int (List.length a0 : Int)), (10, AV.int p6)], [(4, (false, [AV.str [], .nils, .nils, .nils, AV.bool false]))], [], []⟩) (fun rec6 hrec6 p6 h => ?_) 0 h
  unfold F23.l6 at h
  refine awpL_round ?_
  refine awp_seq fun N7 hN7 => ?_
  refine awp_reg kpNone [] [] [1, 4, 8, 9, 10, 11] (cs := []) (st' := ⟨21, [(1, AV.str a1), (4, .varp 4 0), (8, AV.lst 5 Node.av a0), (9, AV.int (List.length a0 : Int)), (10, AV.int p6), (11, AV.bool (decide (p6 < (List.length a0 : Int))))], [(4, (false, [AV.str [], .nils, .nils, .nils, AV.bool false]))], [], []⟩) (by kernel_rfl) trivial ?_
  refine hN7 _ ?_
  refine awp_seq fun N9 hN9 => ?_
  refine awp_cond (t := decide (p6 < (List.length a0 : Int))) rfl (fun hb => ?_) (fun hb => ?_)
  · rw [if_pos hb] at h
    refine awp_skip ?_
    refine hN9 _ ?_
    refine awp_seq fun N10 hN10 => ?_
    refine awp_block ?_
    refine awp_seq fun N11 hN11 => ?_
    obtain ⟨x12_0, hx12_0, h⟩ := Option.bind_eq_some_iff.1 h
    refine awp_reg kpNone [(0, Node.av x12_0)] [] [1, 4, 7, 8, 9, 10] (cs := [(0 ≤ p6), ((List.map Node.av a0)[Int.toNat p6]? = some (Node.av x12_0))]) (st' := ⟨21, [(1, AV.str a1), (4, .varp 4 0), (7, .varp 7 0), (8, AV.lst 5 Node.av a0), (9, AV.int (List.length a0 : Int)), (10, AV.int p6)], [(7, (false, [AV.str x12_0.Name, AV.lst 2 Amount.av x12_0.Cap, AV.lst 2 Pair.av x12_0.Labels, AV.lst 3 Taint.av x12_0.Taints, AV.bool x12_0.Cordon])), (4, (false, [AV.str [], .nils, .nils, .nils, AV.bool false]))], [], []⟩) (by kernel_rfl) ⟨getI_le hx12_0, getI_map hx12_0 _, trivial⟩ ?_
    refine hN11 _ ?_
    refine awp_seq fun N13 hN13 => ?_
    refine awp_reg kpNone [] [] [1, 4, 7, 8, 9, 10, 17] (cs := []) (st' := ⟨21, [(1, AV.str a1), (4, .varp 4 0), (7, .varp 7 0), (8, AV.lst 5 Node.av a0), (9, AV.int (List.length a0 : Int)), (10, AV.int p6), (17, AV.bool (decide (x12_0.Name = a1)))], [(7, (false, [AV.str x12_0.Name, AV.lst 2 Amount.av x12_0.Cap, AV.lst 2 Pair.av x12_0.Labels, AV.lst 3 Taint.av x12_0.Taints, AV.bool x12_0.Cordon])), (4, (false, [AV.str [], .nils, .nils, .nils, AV.bool false]))], [], []⟩) (by kernel_rfl) trivial ?_
    refine hN13 _ ?_
    refine awp_cond (t := decide (x12_0.Name = a1)) rfl (fun hb => ?_) (fun hb => ?_)
    · rw [if_pos hb] at h
      refine awp_seq fun N15 hN15 => ?_
      refine awp_reg kpNone [] [] [4, 5] (cs := []) (st' := ⟨21, [(4, .varp 4 0), (5, AV.bool true)], [(4, (false, [AV.str x12_0.Name, AV.lst 2 Amount.av x12_0.Cap, AV.lst 2 Pair.av x12_0.Labels, AV.lst 3 Taint.av x12_0.Taints, AV.bool x12_0.Cordon])), (7, (false, [AV.str x12_0.Name, AV.lst 2 Amount.av x12_0.Cap, AV.lst 2 Pair.av x12_0.Labels, AV.lst 3 Taint.av x12_0.Taints, AV.bool x12_0.Cordon]))], [], []⟩) (by kernel_rfl) trivial ?_
      refine hN15 _ ?_
      have h := Option.some.inj h
      subst h
      exact awp_ret ⟨[Node.av x12_0, AV.bool true], by kernel_rfl, Lw.refl _⟩
    · rw [if_false hb] at h
      refine awp_skip ?_
      refine hN10 _ ?_
      refine awp_reg kpNone [] [] [1, 4, 8, 9, 10] (cs := []) (st' := ⟨21, [(1, AV.str a1), (4, .varp 4 0), (8, AV.lst 5 Node.av a0), (9, AV.int (List.length a0 : Int)), (10, AV.int (w64 (p6 + (1 : Int))))], [(7, (false, [AV.str x12_0.Name, AV.lst 2 Amount.av x12_0.Cap, AV.lst 2 Pair.av x12_0.Labels, AV.lst 3 Taint.av x12_0.Taints, AV.bool x12_0.Cordon])), (4, (false, [AV.str [], .nils, .nils, .nils, AV.bool false]))], [], []⟩) (by kernel_rfl) trivial ?_
      refine awpL_le ?_ (hrec6 _ h)
      exact Le.mk rfl ⟨rfl, ⟨rfl, rfl⟩, .inl rfl, rfl, rfl, trivial⟩ ⟨⟨rfl, ⟨rfl, rfl, rfl, rfl, rfl, trivial⟩⟩, trivial⟩ trivial trivial
  · rw [if_false hb] at h
    refine awp_exit ?_
    refine hN3 _ ?_
    refine awp_seq fun N18 hN18 => ?_
    refine awp_reg kpNone [] [] [4, 5] (cs := []) (st' := ⟨21, [(4, .varp 4 0), (5, AV.bool false)], [(4, (false, [AV.str [], .nils, .nils, .nils, AV.bool false]))], [], []⟩) (by kernel_rfl) trivial ?_
    refine hN18 _ ?_
    have h := Option.some.inj h
    subst h
    exact awp_ret ⟨[.agg [AV.str [], .nils, .nils, .nils, AV.bool false], AV.bool false], by kernel_rfl, Lw.tupleL ⟨(Lw.aggL ⟨(Lw.refl _), (Lw.nils _), (Lw.nils _), (Lw.nils _), (Lw.refl _), trivial⟩), (Lw.refl _), trivial⟩⟩
-- {"kind": "tot", "S": "nodeFind", "thm": "d23"}
theorem d23 (a0 : List Node) (a1 : Str) : Det Tryd.prog 23 [AV.lst 5 Node.av a0, AV.str a1] (.ret (.tuple [Node.av (nodeFind a0 a1).1, AV.bool (nodeFind a0 a1).2])) := by
  refine Det.len 0 rfl fun hl => c23 a0 a1 _ (rounds_list a0 hl (fun t => some (nodeFind t a1)) _ ?_ ?_) _ ?_
  · intro rec
    simp [F23.l6, nodeFind, Node.none]
  · intro rec p x t h0 h1 hx hd hr hw
    simp only [F23.l6, hx, hw, hr, h1, decide_true, if_true, Option.bind_some, nodeFind, decide_eq_true_eq]
    split <;> rfl
  · simp [F23]


-- math.Float64frombits

-- alone
-- {"kind": "tot", "S": "frombits", "thm": "d34"}
theorem frombits_run (w : World) (n : Int) : (callFunc 34 #[.int .u64 n]).run Tryd.prog w = .ok (.value (.float .f64 (frombits n))) w := by kernel_rfl
theorem d34 (a0 : Int) : Det Tryd.prog 34 [AV.ik .u64 a0] (.ret (AV.fl (frombits a0))) := by
  refine Det.of_value ?_
  intro g w cargs h2 h3
  obtain ⟨x, rfl, hx⟩ := one_arg h2 h3
  obtain ⟨rfl, _⟩ := hx.plain_of
  exact ⟨.float .f64 (frombits a0), frombits_run w a0, fun D => .fl _ _ (.inl rfl)⟩


-- math.NaN
def F31 : Option Nat :=
  some (frombits 9221120237041090561)
/-- math.NaN -/
theorem c31 (r : Nat) (h : F31  = some r) :
    Det Tryd.prog 31 [] (.ret (AV.fl r)) := by
  refine Det.of_le ?_
  refine @calls_of_body Tryd.prog 31 Tryd.f31 _ Tryd.func31 rfl (by kernel_rfl) [.tmp 0] (by rw [Tryd.results31]) 2 Tryd.ntmps31 _ _ _ (by simp only [List.length_cons, List.length_nil]; decide) ?_
  unfold F31 at h
  refine awp_seq fun N1 hN1 => ?_
  refine awp_reg kpNone [] [] [] (cs := []) (st' := ⟨2, [], [], [], []⟩) (by kernel_rfl) trivial ?_
  refine hN1 _ ?_
  refine awp_seq fun N3 hN3 => ?_
  refine awp_reg kpNone [(0, AV.fl (frombits 9221120237041090561))] [] [0] (cs := [(Det Tryd.prog 34 [AV.ik .u64 9221120237041090561] (.ret (AV.fl (frombits 9221120237041090561))))]) (st' := ⟨2, [(0, AV.fl (frombits 9221120237041090561))], [], [], []⟩) (by kernel_rfl) ⟨d34 9221120237041090561, trivial⟩ ?_
  refine hN3 _ ?_
  have h := Option.some.inj h
  subst h
  exact awp_ret ⟨[AV.fl (frombits 9221120237041090561)], by kernel_rfl, Lw.refl _⟩


-- state.On
def F36.j19 (rec8 : (List Pod × Int) → Option (List Pod)) (p8 : List Pod × Int) : (List Pod) → Option (List Pod) := fun p19 =>
  rec8 (p19, w64 (p8.2 + (1 : Int)))
def F36.l8 (a0 : State) (a1 : Str) (rec8 : (List Pod × Int) → Option (List Pod)) : (List Pod × Int) → Option (List Pod) := fun p8 =>
  if decide (p8.2 < (List.length a0.Pods : Int)) = true then ((getI a0.Pods p8.2).bind fun x14_0 => if ((decide (x14_0.Node = a1)) && (decide (¬ a1 = []))) = true then (if fits 184 (List.length (p8.1 ++ [x14_0])) then (F36.j19 rec8 p8 (p8.1 ++ [x14_0])) else none) else (F36.j19 rec8 p8 p8.1)) else (some p8.1)
def F36 (l8 : (List Pod × Int) → Option (List Pod)) (a0 : State) (a1 : Str) : Option (List Pod) :=
  l8 (([] : List Pod), 0)
/-- ballast/state.On -/
theorem c36 (a0 : State) (a1 : Str) (l8 : (List Pod × Int) → Option (List Pod)) (hl8 : Rounds (F36.l8 a0 a1) (l8)) (r : (List Pod)) (h : F36 l8 a0 a1 = some r) :
    Det Tryd.prog 36 [State.av a0, AV.str a1] (.ret (AV.lst 11 Pod.av r)) := by
  refine Det.of_le ?_
  refine @calls_of_body Tryd.prog 36 Tryd.f36 _ Tryd.func36 rfl (by kernel_rfl) [.tmp 4] (by rw [Tryd.results36]) 29 Tryd.ntmps36 _ _ _ (by simp only [List.length_cons, List.length_nil]; decide) ?_
  unfold F36 at h
  refine awp_seq fun N1 hN1 => ?_
  refine awp_reg kpNone [] [] [1, 2] (cs := []) (st' := ⟨29, [(1, AV.str a1), (2, .varp 2 0)], [(2, (false, [AV.lst 5 Node.av a0.Nodes, AV.lst 11 Pod.av a0.Pods, AV.lst 3 Budget.av a0.Budgets]))], [], []⟩) (by kernel_rfl) trivial ?_
  refine hN1 _ ?_
  refine awp_seq fun N3 hN3 => ?_
  refine awp_reg kpNone [] [] [1, 2, 5] (cs := []) (st' := ⟨29, [(1, AV.str a1), (2, .varp 2 0), (5, .nils)], [(2, (false, [AV.lst 5 Node.av a0.Nodes, AV.lst 11 Pod.av a0.Pods, AV.lst 3 Budget.av a0.Budgets]))], [], []⟩) (by kernel_rfl) trivial ?_
  refine hN3 _ ?_
  refine awp_seq fun N5 hN5 => ?_
  refine awp_seq fun N6 hN6 => ?_
  refine awp_reg kpNone [(2, AV.int (List.length a0.Pods : Int))] [] [1, 5, 9, 10, 11] (cs := [((AV.int (List.length a0.Pods : Int) = .val (.int .i64 (List.length (List.map Pod.av a0.Pods) : Int))))]) (st' := ⟨29, [(1, AV.str a1), (5, .nils), (9, AV.lst 11 Pod.av a0.Pods), (10, AV.int (List.length a0.Pods : Int)), (11, AV.int 0)], [(2, (false, [AV.lst 5 Node.av a0.Nodes, AV.lst 11 Pod.av a0.Pods, AV.lst 3 Budget.av a0.Budgets]))], [], []⟩) (by kernel_rfl) ⟨len_map _ _, trivial⟩ ?_
  refine hN6 _ ?_
  refine awp_block ?_
  refine awp_loop ?_
  refine awpL_le (st' := ⟨29, [(1, AV.str a1), (5, .slice (.own 26) 11 (List.map Pod.av ([] : List Pod))), (9, AV.lst 11 Pod.av a0.Pods), (10, AV.int (List.length a0.Pods : Int)), (11, AV.int 0)], [], [], [(26, (40, 11, List.length (List.map Pod.av ([] : List Pod))))]⟩) ?_ ?_
  · exact Le.mk rfl ⟨rfl, .inr ⟨rfl, rfl, rfl⟩, .inl rfl, rfl, rfl, trivial⟩ trivial ⟨⟨rfl, by decide⟩, trivial⟩ trivial
  refine awpL_fix hl8 r (fun p8 => ⟨29, [(1, AV.str a1), (5, .slice (.own 26) 11 (List.map Pod.av p8.1)), (9, AV.lst 11 Pod.av a0.Pods), (10, AV.int (List.length a0.Pods : Int)), (11, AV.int p8.2)], [], [], [(26, (40, 11, List.length (List.map Pod.av p8.1)))]⟩) (fun rec8 hrec8 p8 h => ?_) (([] : List Pod), 0) h
  unfold F36.l8 at h
  refine awpL_round ?_
  refine awp_seq fun N9 hN9 => ?_
  refine awp_reg kpNone [] [] [1, 5, 9, 10, 11, 12] (cs := []) (st' := ⟨29, [(1, AV.str a1), (5, .slice (.own 26) 11 (List.map Pod.av p8.1)), (9, AV.lst 11 Pod.av a0.Pods), (10, AV.int (List.length a0.Pods : Int)), (11, AV.int p8.2), (12, AV.bool (decide (p8.2 < (List.length a0.Pods : Int))))], [], [], [(26, (40, 11, List.length (List.map Pod.av p8.1)))]⟩) (by kernel_rfl) trivial ?_
  refine hN9 _ ?_
  refine awp_seq fun N11 hN11 => ?_
  refine awp_cond (t := decide (p8.2 < (List.length a0.Pods : Int))) rfl (fun hb => ?_) (fun hb => ?_)
  · rw [if_pos hb] at h
    refine awp_skip ?_
    refine hN11 _ ?_
    refine awp_seq fun N12 hN12 => ?_
    refine awp_block ?_
    refine awp_seq fun N13 hN13 => ?_
    obtain ⟨x14_0, hx14_0, h⟩ := Option.bind_eq_some_iff.1 h
    refine awp_reg kpNone [(0, Pod.av x14_0)] [] [1, 5, 7, 9, 10, 11] (cs := [(0 ≤ p8.2), ((List.map Pod.av a0.Pods)[Int.toNat p8.2]? = some (Pod.av x14_0))]) (st' := ⟨29, [(1, AV.str a1), (5, .slice (.own 26) 11 (List.map Pod.av p8.1)), (7, .varp 7 0), (9, AV.lst 11 Pod.av a0.Pods), (10, AV.int (List.length a0.Pods : Int)), (11, AV.int p8.2)], [(7, (false, [AV.str x14_0.Name, AV.str x14_0.Owner, AV.int x14_0.Prio, AV.lst 2 Amount.av x14_0.Need, AV.lst 2 Pair.av x14_0.Labels, AV.lst 3 Term.av x14_0.Sel, AV.lst 3 Tol.av x14_0.Tols, AV.str x14_0.Key, AV.int x14_0.Most, AV.str x14_0.Node, AV.bool x14_0.Hold]))], [], [(26, (40, 11, List.length (List.map Pod.av p8.1)))]⟩) (by kernel_rfl) ⟨getI_le hx14_0, getI_map hx14_0 _, trivial⟩ ?_
    refine hN13 _ ?_
    refine awp_seq fun N15 hN15 => ?_
    refine awp_to (σ := Bool) (fun p => ⟨29, [(1, AV.str a1), (5, .slice (.own 26) 11 (List.map Pod.av p8.1)), (7, .varp 7 0), (9, AV.lst 11 Pod.av a0.Pods), (10, AV.int (List.length a0.Pods : Int)), (11, AV.int p8.2), (22, AV.bool p)], [(7, (false, [AV.str x14_0.Name, AV.str x14_0.Owner, AV.int x14_0.Prio, AV.lst 2 Amount.av x14_0.Need, AV.lst 2 Pair.av x14_0.Labels, AV.lst 3 Term.av x14_0.Sel, AV.lst 3 Tol.av x14_0.Tols, AV.str x14_0.Key, AV.int x14_0.Most, AV.str x14_0.Node, AV.bool x14_0.Hold]))], [], [(26, (40, 11, List.length (List.map Pod.av p8.1)))]⟩) (fun p => p = ((decide (x14_0.Node = a1)) && (decide (¬ a1 = [])))) (fun p hp => ?_) (fun N18 hJ18 => ?_)
    · subst hp
      refine hN15 _ ?_
      refine awp_to (σ := List Pod) (fun p19 => ⟨29, [(1, AV.str a1), (5, .slice (.own 26) 11 (List.map Pod.av p19)), (9, AV.lst 11 Pod.av a0.Pods), (10, AV.int (List.length a0.Pods : Int)), (11, AV.int p8.2)], [(7, (false, [AV.str x14_0.Name, AV.str x14_0.Owner, AV.int x14_0.Prio, AV.lst 2 Amount.av x14_0.Need, AV.lst 2 Pair.av x14_0.Labels, AV.lst 3 Term.av x14_0.Sel, AV.lst 3 Tol.av x14_0.Tols, AV.str x14_0.Key, AV.int x14_0.Most, AV.str x14_0.Node, AV.bool x14_0.Hold]))], [], [(26, (40, 11, List.length (List.map Pod.av p19)))]⟩) (fun p19 => F36.j19 rec8 p8 p19 = some r) (fun p19 h => ?_) (fun N19 hJ19 => ?_)
      · unfold F36.j19 at h
        refine hN12 _ ?_
        refine awp_reg kpNone [] [] [1, 5, 9, 10, 11] (cs := []) (st' := ⟨29, [(1, AV.str a1), (5, .slice (.own 26) 11 (List.map Pod.av p19)), (9, AV.lst 11 Pod.av a0.Pods), (10, AV.int (List.length a0.Pods : Int)), (11, AV.int (w64 (p8.2 + (1 : Int))))], [(7, (false, [AV.str x14_0.Name, AV.str x14_0.Owner, AV.int x14_0.Prio, AV.lst 2 Amount.av x14_0.Need, AV.lst 2 Pair.av x14_0.Labels, AV.lst 3 Term.av x14_0.Sel, AV.lst 3 Tol.av x14_0.Tols, AV.str x14_0.Key, AV.int x14_0.Most, AV.str x14_0.Node, AV.bool x14_0.Hold]))], [], [(26, (40, 11, List.length (List.map Pod.av p19)))]⟩) (by kernel_rfl) trivial ?_
        refine awpL_le ?_ (hrec8 _ h)
        exact Le.mk rfl ⟨rfl, .inl ⟨rfl, rfl⟩, .inl rfl, rfl, rfl, trivial⟩ trivial ⟨rfl, trivial⟩ trivial
      · refine awp_cond (t := ((decide (x14_0.Node = a1)) && (decide (¬ a1 = [])))) rfl (fun hb => ?_) (fun hb => ?_)
        · rw [if_pos hb] at h
          obtain ⟨hp21_3, h⟩ := guardP h
          refine awp_reg kpNone [(3, AV.lst 11 Pod.av (p8.1 ++ [x14_0]))] [] [1, 5, 9, 10, 11] (cs := [(List.length (List.map Pod.av p8.1) = List.length (List.map Pod.av p8.1)), (List.length (List.map Pod.av (p8.1 ++ [x14_0])) * 184 ≤ 140737488355328), (List.length (List.map Pod.av (p8.1 ++ [x14_0])) ≤ 140737488355328), (List.map Pod.av p8.1 ++ List.map Pod.av [x14_0] = List.map Pod.av (p8.1 ++ [x14_0]))]) (st' := ⟨29, [(1, AV.str a1), (5, .slice (.own 26) 11 (List.map Pod.av (p8.1 ++ [x14_0]))), (9, AV.lst 11 Pod.av a0.Pods), (10, AV.int (List.length a0.Pods : Int)), (11, AV.int p8.2)], [(7, (false, [AV.str x14_0.Name, AV.str x14_0.Owner, AV.int x14_0.Prio, AV.lst 2 Amount.av x14_0.Need, AV.lst 2 Pair.av x14_0.Labels, AV.lst 3 Term.av x14_0.Sel, AV.lst 3 Tol.av x14_0.Tols, AV.str x14_0.Key, AV.int x14_0.Most, AV.str x14_0.Node, AV.bool x14_0.Hold]))], [], [(26, (40, 11, List.length (List.map Pod.av (p8.1 ++ [x14_0])))), (25, (40, 11, 1))]⟩) (by kernel_rfl) ⟨by simp only [List.length_map, List.length_cons, List.length_nil], len_mul _ _ _ _ hp21_3.1, len_ge _ _ hp21_3.2, lst_app _ _ _, trivial⟩ ?_
          exact hJ19 (p8.1 ++ [x14_0]) _ h (Le.mk rfl ⟨rfl, .inl ⟨rfl, rfl⟩, .inl rfl, rfl, rfl, trivial⟩ ⟨⟨rfl, ⟨rfl, rfl, rfl, .inl rfl, .inl rfl, .inl rfl, .inl rfl, rfl, rfl, rfl, rfl, trivial⟩⟩, trivial⟩ ⟨rfl, trivial⟩ trivial)
        · rw [if_false hb] at h
          refine awp_skip ?_
          exact hJ19 p8.1 _ h (Le.mk rfl ⟨rfl, .inl ⟨rfl, rfl⟩, .inl rfl, rfl, rfl, trivial⟩ ⟨⟨rfl, ⟨rfl, rfl, rfl, .inl rfl, .inl rfl, .inl rfl, .inl rfl, rfl, rfl, rfl, rfl, trivial⟩⟩, trivial⟩ ⟨rfl, trivial⟩ trivial)
    · by_cases hg17 : decide (x14_0.Node = a1) = true
      · refine awp_reg kpNone [] [(4, true)] [1, 5, 7, 9, 10, 11, 22] (cs := [(decide (x14_0.Node = a1) = true)]) (st' := ⟨29, [(1, AV.str a1), (5, .slice (.own 26) 11 (List.map Pod.av p8.1)), (7, .varp 7 0), (9, AV.lst 11 Pod.av a0.Pods), (10, AV.int (List.length a0.Pods : Int)), (11, AV.int p8.2), (22, AV.bool (decide (¬ a1 = [])))], [(7, (false, [AV.str x14_0.Name, AV.str x14_0.Owner, AV.int x14_0.Prio, AV.lst 2 Amount.av x14_0.Need, AV.lst 2 Pair.av x14_0.Labels, AV.lst 3 Term.av x14_0.Sel, AV.lst 3 Tol.av x14_0.Tols, AV.str x14_0.Key, AV.int x14_0.Most, AV.str x14_0.Node, AV.bool x14_0.Hold]))], [], [(26, (40, 11, List.length (List.map Pod.av p8.1)))]⟩) (by kernel_rfl) ⟨hg17, trivial⟩ ?_
        exact hJ18 (decide (¬ a1 = [])) _ (by first | rfl | (rw [hg17]; done) | (rw [hg17]; rfl) | (simp [hg17]; done) | (exfalso; revert hg17; simp; done) | (exfalso; revert hg17; simp; intros; assumption)) (Le.rfl')
      · have hg17 := Bool.eq_false_iff.2 hg17
        refine awp_reg kpNone [] [(4, false)] [1, 5, 7, 9, 10, 11, 22] (cs := [(decide (x14_0.Node = a1) = false)]) (st' := ⟨29, [(1, AV.str a1), (5, .slice (.own 26) 11 (List.map Pod.av p8.1)), (7, .varp 7 0), (9, AV.lst 11 Pod.av a0.Pods), (10, AV.int (List.length a0.Pods : Int)), (11, AV.int p8.2), (22, AV.bool false)], [(7, (false, [AV.str x14_0.Name, AV.str x14_0.Owner, AV.int x14_0.Prio, AV.lst 2 Amount.av x14_0.Need, AV.lst 2 Pair.av x14_0.Labels, AV.lst 3 Term.av x14_0.Sel, AV.lst 3 Tol.av x14_0.Tols, AV.str x14_0.Key, AV.int x14_0.Most, AV.str x14_0.Node, AV.bool x14_0.Hold]))], [], [(26, (40, 11, List.length (List.map Pod.av p8.1)))]⟩) (by kernel_rfl) ⟨hg17, trivial⟩ ?_
        exact hJ18 false _ (by first | rfl | (rw [hg17]; done) | (rw [hg17]; rfl) | (simp [hg17]; done) | (exfalso; revert hg17; simp; done) | (exfalso; revert hg17; simp; intros; assumption)) (Le.rfl')
  · rw [if_false hb] at h
    refine awp_exit ?_
    refine hN5 _ ?_
    refine awp_seq fun N22 hN22 => ?_
    refine awp_reg kpNone [] [] [4] (cs := []) (st' := ⟨29, [(4, .slice (.own 26) 11 (List.map Pod.av p8.1))], [], [], [(26, (40, 11, List.length (List.map Pod.av p8.1)))]⟩) (by kernel_rfl) trivial ?_
    refine hN22 _ ?_
    have h := Option.some.inj h
    subst h
    exact awp_ret ⟨[.slice (.own 26) 11 (List.map Pod.av p8.1)], by kernel_rfl, Lw.refl _⟩
-- {"kind": "opt", "S": "onF", "thm": "d36"}
theorem d36 (a0 : State) (a1 : Str) (r : List Pod) (h : onF a0 a1 = some r) : Det Tryd.prog 36 [State.av a0, AV.str a1] (.ret (AV.lst 11 Pod.av r)) := by
  refine Det.lenF 0 1 rfl rfl fun hl => ?_
  refine c36 a0 a1 _ (rounds_fold a0.Pods hl (fun b t => filtF 184 (onNode a1) b t) _ ?_ ?_) _ ?_
  · intro rec b r h
    obtain ⟨_, rfl⟩ := filtF_some h
    simp [F36.l8]
  · intro rec p b x t r h0 h1 hx hr hw h
    simp only [F36.l8, F36.j19, hx, hw, h1, decide_true, if_true, Option.bind_some]
    by_cases hf : onNode a1 x = true
    · obtain ⟨h2, h3⟩ := filtF_yes h hf
      rw [if_pos (show (decide (x.Node = a1) && decide ¬a1 = []) = true from hf), if_pos h2]
      exact hr _ _ h3
    · rw [if_neg (show ¬ (decide (x.Node = a1) && decide ¬a1 = []) = true from hf)]
      exact hr _ _ (filtF_no h (Bool.eq_false_iff.2 hf))
  · simpa [F36, onF] using h


-- res.Get$1
def F39 (a0 : Amount) (a1 : Str) : Option Bool :=
  some (decide (a0.Name = a1))
/-- ballast/res.Get$1 -/
theorem c39 (a0 : Amount) (a1 : Str) (r : Bool) (h : F39 a0 a1 = some r) :
    Det Tryd.prog 39 [Amount.av a0, .inp [AV.str a1]] (.ret (AV.bool r)) := by
  refine Det.of_le ?_
  refine @calls_of_body Tryd.prog 39 Tryd.f39 _ Tryd.func39 rfl (by kernel_rfl) [.tmp 3] (by rw [Tryd.results39]) 8 Tryd.ntmps39 _ _ _ (by simp only [List.length_cons, List.length_nil]; decide) ?_
  unfold F39 at h
  refine awp_seq fun N1 hN1 => ?_
  refine awp_reg kpNone [] [] [1, 2] (cs := []) (st' := ⟨8, [(1, .inp [AV.str a1]), (2, .varp 2 0)], [(2, (false, [AV.str a0.Name, AV.int a0.N]))], [], []⟩) (by kernel_rfl) trivial ?_
  refine hN1 _ ?_
  refine awp_seq fun N3 hN3 => ?_
  refine awp_reg kpNone [] [] [3] (cs := []) (st' := ⟨8, [(3, AV.bool (decide (a0.Name = a1)))], [(2, (false, [AV.str a0.Name, AV.int a0.N]))], [], []⟩) (by kernel_rfl) trivial ?_
  refine hN3 _ ?_
  have h := Option.some.inj h
  subst h
  exact awp_ret ⟨[AV.bool (decide (a0.Name = a1))], by kernel_rfl, Lw.refl _⟩


-- slices.IndexFunc[res.Vec,res.Amount]
def F38.l6 (a0 : (List Amount)) (g1 : Amount → Option Bool) (rec6 : (Int) → Option Int) : (Int) → Option Int := fun p6 =>
  if decide (p6 < (List.length a0 : Int)) = true then ((getI a0 p6).bind fun x14_3 => (g1 x14_3).bind fun x14_5 => if x14_5 = true then (some p6) else (rec6 (w64 (p6 + (1 : Int))))) else (some (-1))
def F38 (l6 : (Int) → Option Int) (a0 : (List Amount)) (g1 : Amount → Option Bool) : Option Int :=
  l6 0
/-- slices.IndexFunc[ballast/res.Vec,ballast/res.Amount] -/
theorem c38 (a0 : (List Amount)) (g1 : Amount → Option Bool) (gf1 : FuncId) (gc1 : List AV) (hc1 : List.map AV.cl0 gc1 = gc1) (hg1 : ∀ (y0 : Amount) (r : Bool), g1 y0 = some r → Det Tryd.prog gf1 ((Amount.av y0) :: List.map AV.cl gc1) (.ret (AV.bool r))) (l6 : (Int) → Option Int) (hl6 : Rounds (F38.l6 a0 g1) (l6)) (r : Int) (h : F38 l6 a0 g1 = some r) :
    Det Tryd.prog 38 [AV.lst 2 Amount.av a0, .func gf1 gc1] (.ret (AV.int r)) := by
  refine Det.of_le ?_
  refine @calls_of_body Tryd.prog 38 Tryd.f38 _ Tryd.func38 rfl (by kernel_rfl) [.tmp 4] (by rw [Tryd.results38]) 19 Tryd.ntmps38 _ _ _ (by simp only [List.length_cons, List.length_nil]; decide) ?_
  unfold F38 at h
  refine awp_seq fun N1 hN1 => ?_
  refine awp_reg kpNone [] [] [0, 1] (cs := []) (st' := ⟨19, [(0, AV.lst 2 Amount.av a0), (1, .func gf1 gc1)], [], [], []⟩) (by kernel_rfl) trivial ?_
  refine hN1 _ ?_
  refine awp_seq fun N3 hN3 => ?_
  refine awp_seq fun N4 hN4 => ?_
  refine awp_reg kpNone [(1, AV.int (List.length a0 : Int))] [] [0, 1, 7, 8] (cs := [((AV.int (List.length a0 : Int) = .val (.int .i64 (List.length (List.map Amount.av a0) : Int))))]) (st' := ⟨19, [(0, AV.lst 2 Amount.av a0), (1, .func gf1 gc1), (7, AV.int (List.length a0 : Int)), (8, AV.int 0)], [], [], []⟩) (by kernel_rfl) ⟨len_map _ _, trivial⟩ ?_
  refine hN4 _ ?_
  refine awp_block ?_
  refine awp_loop ?_
  refine awpL_le (st' := ⟨19, [(0, AV.lst 2 Amount.av a0), (1, .func gf1 gc1), (7, AV.int (List.length a0 : Int)), (8, AV.int 0)], [], [], []⟩) ?_ ?_
  · exact Le.rfl'
  refine awpL_fix hl6 r (fun p6 => ⟨19, [(0, AV.lst 2 Amount.av a0), (1, .func gf1 gc1), (7, AV.int (List.length a0 : Int)), (8, AV.int p6)], [], [], []⟩) (fun rec6 hrec6 p6 h => ?_) 0 h
  unfold F38.l6 at h
  refine awpL_round ?_
  refine awp_seq fun N7 hN7 => ?_
  refine awp_reg kpNone [] [] [0, 1, 7, 8, 9] (cs := []) (st' := ⟨19, [(0, AV.lst 2 Amount.av a0), (1, .func gf1 gc1), (7, AV.int (List.length a0 : Int)), (8, AV.int p6), (9, AV.bool (decide (p6 < (List.length a0 : Int))))], [], [], []⟩) (by kernel_rfl) trivial ?_
  refine hN7 _ ?_
  refine awp_seq fun N9 hN9 => ?_
  refine awp_cond (t := decide (p6 < (List.length a0 : Int))) rfl (fun hb => ?_) (fun hb => ?_)
  · rw [if_pos hb] at h
    refine awp_skip ?_
    refine hN9 _ ?_
    refine awp_seq fun N10 hN10 => ?_
    refine awp_block ?_
    refine awp_seq fun N11 hN11 => ?_
    refine awp_reg kpNone [] [] [0, 1, 5, 7, 8] (cs := []) (st' := ⟨19, [(0, AV.lst 2 Amount.av a0), (1, .func gf1 gc1), (5, AV.int p6), (7, AV.int (List.length a0 : Int)), (8, AV.int p6)], [], [], []⟩) (by kernel_rfl) trivial ?_
    refine hN11 _ ?_
    refine awp_seq fun N13 hN13 => ?_
    obtain ⟨x14_3, hx14_3, h⟩ := Option.bind_eq_some_iff.1 h
    obtain ⟨x14_5, hx14_5, h⟩ := Option.bind_eq_some_iff.1 h
    refine awp_reg kpNone [(3, Amount.av x14_3), (5, AV.bool x14_5)] [] [0, 1, 5, 7, 8, 16] (cs := [(0 ≤ p6), ((List.map Amount.av a0)[Int.toNat p6]? = some (Amount.av x14_3)), (Det Tryd.prog gf1 ((Amount.av x14_3) :: List.map AV.cl gc1) (.ret (AV.bool x14_5)))]) (st' := ⟨19, [(0, AV.lst 2 Amount.av a0), (1, .func gf1 gc1), (5, AV.int p6), (7, AV.int (List.length a0 : Int)), (8, AV.int p6), (16, AV.bool x14_5)], [], [], []⟩) (by kernel_rfl) ⟨getI_le hx14_3, getI_map hx14_3 _, hg1 x14_3 _ hx14_5, trivial⟩ ?_
    refine hN13 _ ?_
    refine awp_cond (t := x14_5) rfl (fun hb => ?_) (fun hb => ?_)
    · rw [if_pos hb] at h
      refine awp_seq fun N15 hN15 => ?_
      refine awp_reg kpNone [] [] [4] (cs := []) (st' := ⟨19, [(4, AV.int p6)], [], [], []⟩) (by kernel_rfl) trivial ?_
      refine hN15 _ ?_
      have h := Option.some.inj h
      subst h
      exact awp_ret ⟨[AV.int p6], by kernel_rfl, Lw.refl _⟩
    · rw [if_false hb] at h
      refine awp_skip ?_
      refine hN10 _ ?_
      refine awp_reg kpNone [] [] [0, 1, 7, 8] (cs := []) (st' := ⟨19, [(0, AV.lst 2 Amount.av a0), (1, .func gf1 gc1), (7, AV.int (List.length a0 : Int)), (8, AV.int (w64 (p6 + (1 : Int))))], [], [], []⟩) (by kernel_rfl) trivial ?_
      refine awpL_le ?_ (hrec6 _ h)
      exact Le.rfl'
  · rw [if_false hb] at h
    refine awp_exit ?_
    refine hN3 _ ?_
    refine awp_seq fun N18 hN18 => ?_
    refine awp_reg kpNone [] [] [4] (cs := []) (st' := ⟨19, [(4, AV.int (-1))], [], [], []⟩) (by kernel_rfl) trivial ?_
    refine hN18 _ ?_
    have h := Option.some.inj h
    subst h
    exact awp_ret ⟨[AV.int (-1)], by kernel_rfl, Lw.refl _⟩
-- {"kind": "opt", "S": "(fun l g => idxF g 0 l)", "thm": "d38"}
theorem d38 (a0 : List Amount) (g1 : Amount → Option Bool) (gf1 : FuncId) (gc1 : List AV) (hc1 : List.map AV.cl0 gc1 = gc1) (hg1 : ∀ (y0 : Amount) (r : Bool), g1 y0 = some r → Det Tryd.prog gf1 ((Amount.av y0) :: List.map AV.cl gc1) (.ret (AV.bool r))) (r : Int) (h : idxF g1 0 a0 = some r) :
    Det Tryd.prog 38 [AV.lst 2 Amount.av a0, .func gf1 gc1] (.ret (AV.int r)) := by
  refine Det.len 0 rfl fun hl => c38 a0 g1 gf1 gc1 hc1 hg1 _ (rounds_at a0 hl (fun p t => idxF g1 p t) _ ?_ ?_) _ ?_
  · intro rec
    simp [F38.l6, idxF]
  · intro rec p x t h0 h1 hx hr hw
    simp only [F38.l6, hx, hw, hr, h1, decide_true, if_true, Option.bind_some, idxF]
  · simp [F38, h]


-- res.Get
def F33 (a0 : (List Amount)) (a1 : Str) : Option Int :=
  ((fun l g => idxF g 0 l) a0 (fun y0 => F39 y0 a1)).bind fun x4_2 => if decide (x4_2 < (0 : Int)) = true then (some 0) else ((getI a0 x4_2).bind fun x11_2 => some x11_2.N)
/-- ballast/res.Get -/
theorem c33 (a0 : (List Amount)) (a1 : Str) (r : Int) (h : F33 a0 a1 = some r) :
    Det Tryd.prog 33 [AV.lst 2 Amount.av a0, AV.str a1] (.ret (AV.int r)) := by
  refine Det.of_le ?_
  refine @calls_of_body Tryd.prog 33 Tryd.f33 _ Tryd.func33 rfl (by kernel_rfl) [.tmp 4] (by rw [Tryd.results33]) 16 Tryd.ntmps33 _ _ _ (by simp only [List.length_cons, List.length_nil]; decide) ?_
  unfold F33 at h
  refine awp_seq fun N1 hN1 => ?_
  refine awp_reg kpNone [] [] [0, 3] (cs := []) (st' := ⟨16, [(0, AV.lst 2 Amount.av a0), (3, .varp 3 0)], [(3, (false, [AV.str a1]))], [], []⟩) (by kernel_rfl) trivial ?_
  refine hN1 _ ?_
  refine awp_seq fun N3 hN3 => ?_
  obtain ⟨x4_2, hx4_2, h⟩ := Option.bind_eq_some_iff.1 h
  refine awp_reg kpNone [(2, AV.int x4_2)] [] [0, 5] (cs := [(Det Tryd.prog 38 [AV.lst 2 Amount.av a0, .func 39 [.inp [AV.str a1]]] (.ret (AV.int x4_2)))]) (st' := ⟨16, [(0, AV.lst 2 Amount.av a0), (5, AV.int x4_2)], [(3, (true, [AV.str a1]))], [], []⟩) (by kernel_rfl) ⟨d38 a0 (fun y0 => F39 y0 a1) 39 [.inp [AV.str a1]] rfl (fun y0 _ hy => c39 y0 a1 _ hy) _ hx4_2, trivial⟩ ?_
  refine hN3 _ ?_
  refine awp_seq fun N5 hN5 => ?_
  refine awp_seq fun N6 hN6 => ?_
  refine awp_reg kpNone [] [] [0, 5, 10] (cs := []) (st' := ⟨16, [(0, AV.lst 2 Amount.av a0), (5, AV.int x4_2), (10, AV.bool (decide (x4_2 < (0 : Int))))], [(3, (true, [AV.str a1]))], [], []⟩) (by kernel_rfl) trivial ?_
  refine hN6 _ ?_
  refine awp_cond (t := decide (x4_2 < (0 : Int))) rfl (fun hb => ?_) (fun hb => ?_)
  · rw [if_pos hb] at h
    refine awp_seq fun N8 hN8 => ?_
    refine awp_reg kpNone [] [] [4] (cs := []) (st' := ⟨16, [(4, AV.int 0)], [(3, (true, [AV.str a1]))], [], []⟩) (by kernel_rfl) trivial ?_
    refine hN8 _ ?_
    have h := Option.some.inj h
    subst h
    exact awp_ret ⟨[AV.int 0], by kernel_rfl, Lw.refl _⟩
  · rw [if_false hb] at h
    refine awp_skip ?_
    refine hN5 _ ?_
    refine awp_seq fun N10 hN10 => ?_
    obtain ⟨x11_2, hx11_2, h⟩ := Option.bind_eq_some_iff.1 h
    refine awp_reg kpNone [(2, Amount.av x11_2)] [] [4] (cs := [(0 ≤ x4_2), ((List.map Amount.av a0)[Int.toNat x4_2]? = some (Amount.av x11_2))]) (st' := ⟨16, [(4, AV.int x11_2.N)], [(3, (true, [AV.str a1]))], [], []⟩) (by kernel_rfl) ⟨getI_le hx11_2, getI_map hx11_2 _, trivial⟩ ?_
    refine hN10 _ ?_
    have h := Option.some.inj h
    subst h
    exact awp_ret ⟨[AV.int x11_2.N], by kernel_rfl, Lw.refl _⟩


-- qty.both
def F52 (a0 : Int) (a1 : Int) : Option Int :=
  if ((decide (a0 < (0 : Int))) || (decide (a1 < (0 : Int)))) = true then (some 1) else (some 0)
/-- ballast/qty.both -/
theorem c52 (a0 : Int) (a1 : Int) (r : Int) (h : F52 a0 a1 = some r) :
    Det Tryd.prog 52 [AV.int a0, AV.int a1] (.ret (AV.int r)) := by
  refine Det.of_le ?_
  refine @calls_of_body Tryd.prog 52 Tryd.f52 _ Tryd.func52 rfl (by kernel_rfl) [.tmp 4] (by rw [Tryd.results52]) 11 Tryd.ntmps52 _ _ _ (by simp only [List.length_cons, List.length_nil]; decide) ?_
  unfold F52 at h
  refine awp_seq fun N1 hN1 => ?_
  refine awp_reg kpNone [] [] [0, 1] (cs := []) (st' := ⟨11, [(0, AV.int a0), (1, AV.int a1)], [], [], []⟩) (by kernel_rfl) trivial ?_
  refine hN1 _ ?_
  refine awp_seq fun N3 hN3 => ?_
  refine awp_seq fun N4 hN4 => ?_
  refine awp_to (σ := Bool) (fun p => ⟨11, [(10, AV.bool p)], [], [], []⟩) (fun p => p = ((decide (a0 < (0 : Int))) || (decide (a1 < (0 : Int))))) (fun p hp => ?_) (fun N7 hJ7 => ?_)
  · subst hp
    refine hN4 _ ?_
    refine awp_cond (t := ((decide (a0 < (0 : Int))) || (decide (a1 < (0 : Int))))) rfl (fun hb => ?_) (fun hb => ?_)
    · rw [if_pos hb] at h
      refine awp_seq fun N8 hN8 => ?_
      refine awp_reg kpNone [] [] [4] (cs := []) (st' := ⟨11, [(4, AV.int 1)], [], [], []⟩) (by kernel_rfl) trivial ?_
      refine hN8 _ ?_
      have h := Option.some.inj h
      subst h
      exact awp_ret ⟨[AV.int 1], by kernel_rfl, Lw.refl _⟩
    · rw [if_false hb] at h
      refine awp_skip ?_
      refine hN3 _ ?_
      refine awp_seq fun N10 hN10 => ?_
      refine awp_reg kpNone [] [] [4] (cs := []) (st' := ⟨11, [(4, AV.int 0)], [], [], []⟩) (by kernel_rfl) trivial ?_
      refine hN10 _ ?_
      have h := Option.some.inj h
      subst h
      exact awp_ret ⟨[AV.int 0], by kernel_rfl, Lw.refl _⟩
  · by_cases hg6 : decide (a0 < (0 : Int)) = true
    · refine awp_reg kpNone [] [(2, true)] [10] (cs := [(decide (a0 < (0 : Int)) = true)]) (st' := ⟨11, [(10, AV.bool true)], [], [], []⟩) (by kernel_rfl) ⟨hg6, trivial⟩ ?_
      exact hJ7 true _ (by first | rfl | (rw [hg6]; done) | (rw [hg6]; rfl) | (simp [hg6]; done) | (exfalso; revert hg6; simp; done) | (exfalso; revert hg6; simp; intros; assumption)) (Le.rfl')
    · have hg6 := Bool.eq_false_iff.2 hg6
      refine awp_reg kpNone [] [(2, false)] [10] (cs := [(decide (a0 < (0 : Int)) = false)]) (st' := ⟨11, [(10, AV.bool (decide (a1 < (0 : Int))))], [], [], []⟩) (by kernel_rfl) ⟨hg6, trivial⟩ ?_
      exact hJ7 (decide (a1 < (0 : Int))) _ (by first | rfl | (rw [hg6]; done) | (rw [hg6]; rfl) | (simp [hg6]; done) | (exfalso; revert hg6; simp; done) | (exfalso; revert hg6; simp; intros; assumption)) (Le.rfl')


-- qty.told
def F53 (a0 : Int) (a1 : Bool) : Option (Int × Int) :=
  if (a1 || (decide ((9223372036854775807 : Int) < a0))) = true then (some (0, 5)) else (some (IntKind.wrap .i64 a0, 0))
/-- ballast/qty.told -/
theorem c53 (a0 : Int) (a1 : Bool) (r : (Int × Int)) (h : F53 a0 a1 = some r) :
    Det Tryd.prog 53 [AV.ik .u64 a0, AV.bool a1] (.ret (.tuple [AV.int r.1, AV.int r.2])) := by
  refine Det.of_le ?_
  refine @calls_of_body Tryd.prog 53 Tryd.f53 _ Tryd.func53 rfl (by kernel_rfl) [.tmp 4, .tmp 5] (by rw [Tryd.results53]) 13 Tryd.ntmps53 _ _ _ (by simp only [List.length_cons, List.length_nil]; decide) ?_
  unfold F53 at h
  refine awp_seq fun N1 hN1 => ?_
  refine awp_reg kpNone [] [] [0, 1] (cs := []) (st' := ⟨13, [(0, AV.ik .u64 a0), (1, AV.bool a1)], [], [], []⟩) (by kernel_rfl) trivial ?_
  refine hN1 _ ?_
  refine awp_seq fun N3 hN3 => ?_
  refine awp_seq fun N4 hN4 => ?_
  refine awp_to (σ := Bool) (fun p => ⟨13, [(0, AV.ik .u64 a0), (10, AV.bool p)], [], [], []⟩) (fun p => p = (a1 || (decide ((9223372036854775807 : Int) < a0)))) (fun p hp => ?_) (fun N7 hJ7 => ?_)
  · subst hp
    refine hN4 _ ?_
    refine awp_cond (t := (a1 || (decide ((9223372036854775807 : Int) < a0)))) rfl (fun hb => ?_) (fun hb => ?_)
    · rw [if_pos hb] at h
      refine awp_seq fun N8 hN8 => ?_
      refine awp_reg kpNone [] [] [4, 5] (cs := []) (st' := ⟨13, [(4, AV.int 0), (5, AV.int 5)], [], [], []⟩) (by kernel_rfl) trivial ?_
      refine hN8 _ ?_
      have h := Option.some.inj h
      subst h
      exact awp_ret ⟨[AV.int 0, AV.int 5], by kernel_rfl, Lw.refl _⟩
    · rw [if_false hb] at h
      refine awp_skip ?_
      refine hN3 _ ?_
      refine awp_seq fun N10 hN10 => ?_
      refine awp_reg kpNone [] [] [4, 5] (cs := []) (st' := ⟨13, [(4, AV.int (IntKind.wrap .i64 a0)), (5, AV.int 0)], [], [], []⟩) (by kernel_rfl) trivial ?_
      refine hN10 _ ?_
      have h := Option.some.inj h
      subst h
      exact awp_ret ⟨[AV.int (IntKind.wrap .i64 a0), AV.int 0], by kernel_rfl, Lw.refl _⟩
  · by_cases hg6 : a1 = true
    · refine awp_reg kpNone [] [(1, true)] [0, 10] (cs := [(a1 = true)]) (st' := ⟨13, [(0, AV.ik .u64 a0), (10, AV.bool true)], [], [], []⟩) (by kernel_rfl) ⟨hg6, trivial⟩ ?_
      exact hJ7 true _ (by first | rfl | (rw [hg6]; done) | (rw [hg6]; rfl) | (simp [hg6]; done) | (exfalso; revert hg6; simp; done) | (exfalso; revert hg6; simp; intros; assumption)) (Le.rfl')
    · have hg6 := Bool.eq_false_iff.2 hg6
      refine awp_reg kpNone [] [(1, false)] [0, 10] (cs := [(a1 = false)]) (st' := ⟨13, [(0, AV.ik .u64 a0), (10, AV.bool (decide ((9223372036854775807 : Int) < a0)))], [], [], []⟩) (by kernel_rfl) ⟨hg6, trivial⟩ ?_
      exact hJ7 (decide ((9223372036854775807 : Int) < a0)) _ (by first | rfl | (rw [hg6]; done) | (rw [hg6]; rfl) | (simp [hg6]; done) | (exfalso; revert hg6; simp; done) | (exfalso; revert hg6; simp; intros; assumption)) (Le.rfl')


-- qty.Add
def F48 (a0 : Int) (a1 : Int) : Option (Int × Int) :=
  (F52 a0 a1).bind fun x5_2 => if decide (¬ x5_2 = (0 : Int)) = true then (some (0, x5_2)) else ((F53 (IntKind.wrap .u64 ((IntKind.wrap .u64 a0) + (IntKind.wrap .u64 a1))) false).bind fun x11_5 => some (x11_5.1, x11_5.2))
/-- ballast/qty.Add -/
theorem c48 (a0 : Int) (a1 : Int) (r : (Int × Int)) (h : F48 a0 a1 = some r) :
    Det Tryd.prog 48 [AV.int a0, AV.int a1] (.ret (.tuple [AV.int r.1, AV.int r.2])) := by
  refine Det.of_le ?_
  refine @calls_of_body Tryd.prog 48 Tryd.f48 _ Tryd.func48 rfl (by kernel_rfl) [.tmp 4, .tmp 5] (by rw [Tryd.results48]) 21 Tryd.ntmps48 _ _ _ (by simp only [List.length_cons, List.length_nil]; decide) ?_
  unfold F48 at h
  refine awp_seq fun N1 hN1 => ?_
  refine awp_reg kpNone [] [] [0, 1] (cs := []) (st' := ⟨21, [(0, AV.int a0), (1, AV.int a1)], [], [], []⟩) (by kernel_rfl) trivial ?_
  refine hN1 _ ?_
  refine awp_seq fun N3 hN3 => ?_
  refine awp_seq fun N4 hN4 => ?_
  obtain ⟨x5_2, hx5_2, h⟩ := Option.bind_eq_some_iff.1 h
  refine awp_reg kpNone [(2, AV.int x5_2)] [] [0, 1, 6] (cs := [(Det Tryd.prog 52 [AV.int a0, AV.int a1] (.ret (AV.int x5_2)))]) (st' := ⟨21, [(0, AV.int a0), (1, AV.int a1), (6, AV.int x5_2)], [], [], []⟩) (by kernel_rfl) ⟨c52 a0 a1 _ hx5_2, trivial⟩ ?_
  refine hN4 _ ?_
  refine awp_seq fun N6 hN6 => ?_
  refine awp_reg kpNone [] [] [0, 1, 6, 11] (cs := []) (st' := ⟨21, [(0, AV.int a0), (1, AV.int a1), (6, AV.int x5_2), (11, AV.bool (decide (¬ x5_2 = (0 : Int))))], [], [], []⟩) (by kernel_rfl) trivial ?_
  refine hN6 _ ?_
  refine awp_cond (t := decide (¬ x5_2 = (0 : Int))) rfl (fun hb => ?_) (fun hb => ?_)
  · rw [if_pos hb] at h
    refine awp_seq fun N8 hN8 => ?_
    refine awp_reg kpNone [] [] [4, 5] (cs := []) (st' := ⟨21, [(4, AV.int 0), (5, AV.int x5_2)], [], [], []⟩) (by kernel_rfl) trivial ?_
    refine hN8 _ ?_
    have h := Option.some.inj h
    subst h
    exact awp_ret ⟨[AV.int 0, AV.int x5_2], by kernel_rfl, Lw.refl _⟩
  · rw [if_false hb] at h
    refine awp_skip ?_
    refine hN3 _ ?_
    refine awp_seq fun N10 hN10 => ?_
    obtain ⟨x11_5, hx11_5, h⟩ := Option.bind_eq_some_iff.1 h
    refine awp_reg kpNone [(5, .tuple [AV.int x11_5.1, AV.int x11_5.2])] [] [4, 5] (cs := [(Det Tryd.prog 53 [AV.ik .u64 (IntKind.wrap .u64 ((IntKind.wrap .u64 a0) + (IntKind.wrap .u64 a1))), AV.bool false] (.ret (.tuple [AV.int x11_5.1, AV.int x11_5.2])))]) (st' := ⟨21, [(4, AV.int x11_5.1), (5, AV.int x11_5.2)], [], [], []⟩) (by kernel_rfl) ⟨c53 (IntKind.wrap .u64 ((IntKind.wrap .u64 a0) + (IntKind.wrap .u64 a1))) false _ hx11_5, trivial⟩ ?_
    refine hN10 _ ?_
    have h := Option.some.inj h
    subst h
    exact awp_ret ⟨[AV.int x11_5.1, AV.int x11_5.2], by kernel_rfl, Lw.refl _⟩


end Go.Proofs.Eng
