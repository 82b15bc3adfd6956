/- Printed walks and contracts. -/
import Derived.Test.YtdolhcmhdjmoeaaDoorEddX1
set_option linter.unusedSimpArgs false
set_option linter.unusedVariables false
set_option maxRecDepth 100000
namespace Go.Proofs.Eng
open Go Go.Proofs Go.Sort
-- state.sum[pod.Pod]$1
def F41.l3 (a0 : (List Pod)) (g2 : Pod → Option (List Amount)) (rec3 : (Int × List Amount) → Option ((Res Unit) × (List Amount))) : (Int × List Amount) → Option ((Res Unit) × (List Amount)) := fun p3 =>
  if decide (p3.1 < (List.length a0 : Int)) = true then ((getI a0 p3.1).bind fun x9_0 => (g2 x9_0).bind fun x10_3 => (F43 p3.2 x10_3).bind fun x10_4 => thnX (F42 x10_4.1 x10_4.2) (fun e => some (.stop e, p3.2)) fun x10_7 => rec3 (w64 (p3.1 + (1 : Int)), x10_7)) else (some ((.ret ()), p3.2))
def F41 (l3 : (Int × List Amount) → Option ((Res Unit) × (List Amount))) (a0 : (List Pod)) (a1 : (List Amount)) (g2 : Pod → Option (List Amount)) : Option ((Res Unit) × (List Amount)) :=
  l3 (0, a1)
/-- ballast/state.sum[ballast/pod.Pod]$1 -/
theorem c41 (a0 : (List Pod)) (a1 : (List Amount)) (g2 : Pod → Option (List Amount)) (gf2 : FuncId) (gc2 : List AV) (hc2 : List.map AV.cl0 gc2 = gc2) (hg2 : ∀ (y0 : Pod) (r : (List Amount)), g2 y0 = some r → Det Tryd.prog gf2 ((Pod.av y0) :: List.map AV.cl gc2) (.ret (AV.lst 2 Amount.av r))) (l3 : (Int × List Amount) → Option ((Res Unit) × (List Amount))) (hl3 : Rounds (F41.l3 a0 g2) (l3)) (r : ((Res Unit) × (List Amount))) (h : F41 l3 a0 a1 g2 = some r) :
    DetX Tryd.prog 41 [.inp [AV.lst 11 Pod.av a0], .extp 0 0, .inp [.func gf2 gc2]] [[AV.lst 2 Amount.av a1]] (Res.out 86 (fun q => .tuple []) r.1) [[AV.lst 2 Amount.av r.2]] := by
  refine DetX.of_le ?_
  refine @calls_of_body Tryd.prog 41 Tryd.f41 _ Tryd.func41 rfl (by kernel_rfl) [] (by rw [Tryd.results41]) 20 Tryd.ntmps41 _ _ _ (by simp only [List.length_cons, List.length_nil]; decide) ?_
  unfold F41 at h
  refine awp_seq fun N1 hN1 => ?_
  refine awp_reg kpNone [(1, AV.int (List.length a0 : Int))] [] [1, 2, 5, 6, 7] (cs := [((AV.int (List.length a0 : Int) = .val (.int .i64 (List.length (List.map Pod.av a0) : Int))))]) (st' := ⟨20, [(1, .extp 0 0), (2, .inp [.func gf2 gc2]), (5, AV.lst 11 Pod.av a0), (6, AV.int (List.length a0 : Int)), (7, AV.int 0)], [], [[AV.lst 2 Amount.av a1]], []⟩) (by kernel_rfl) ⟨len_map _ _, trivial⟩ ?_
  refine hN1 _ ?_
  refine awp_block ?_
  refine awp_loop ?_
  refine awpL_le (st' := ⟨20, [(1, .extp 0 0), (2, .inp [.func gf2 gc2]), (5, AV.lst 11 Pod.av a0), (6, AV.int (List.length a0 : Int)), (7, AV.int 0)], [], [[AV.lst 2 Amount.av a1]], []⟩) ?_ ?_
  · exact Le.rfl'
  refine awpL_fix hl3 r (fun p3 => ⟨20, [(1, .extp 0 0), (2, .inp [.func gf2 gc2]), (5, AV.lst 11 Pod.av a0), (6, AV.int (List.length a0 : Int)), (7, AV.int p3.1)], [], [[AV.lst 2 Amount.av p3.2]], []⟩) (fun rec3 hrec3 p3 h => ?_) (0, a1) h
  unfold F41.l3 at h
  refine awpL_round ?_
  refine awp_seq fun N4 hN4 => ?_
  refine awp_reg kpNone [] [] [1, 2, 5, 6, 7, 8] (cs := []) (st' := ⟨20, [(1, .extp 0 0), (2, .inp [.func gf2 gc2]), (5, AV.lst 11 Pod.av a0), (6, AV.int (List.length a0 : Int)), (7, AV.int p3.1), (8, AV.bool (decide (p3.1 < (List.length a0 : Int))))], [], [[AV.lst 2 Amount.av p3.2]], []⟩) (by kernel_rfl) trivial ?_
  refine hN4 _ ?_
  refine awp_seq fun N6 hN6 => ?_
  refine awp_cond (t := decide (p3.1 < (List.length a0 : Int))) rfl (fun hb => ?_) (fun hb => ?_)
  · rw [if_pos hb] at h
    refine awp_skip ?_
    refine hN6 _ ?_
    refine awp_seq fun N7 hN7 => ?_
    refine awp_block ?_
    refine awp_seq fun N8 hN8 => ?_
    obtain ⟨x9_0, hx9_0, h⟩ := Option.bind_eq_some_iff.1 h
    refine awp_reg kpNone [(0, Pod.av x9_0)] [] [1, 2, 4, 5, 6, 7] (cs := [(0 ≤ p3.1), ((List.map Pod.av a0)[Int.toNat p3.1]? = some (Pod.av x9_0))]) (st' := ⟨20, [(1, .extp 0 0), (2, .inp [.func gf2 gc2]), (4, .varp 4 0), (5, AV.lst 11 Pod.av a0), (6, AV.int (List.length a0 : Int)), (7, AV.int p3.1)], [(4, (false, [AV.str x9_0.Name, AV.str x9_0.Owner, AV.int x9_0.Prio, AV.lst 2 Amount.av x9_0.Need, AV.lst 2 Pair.av x9_0.Labels, AV.lst 3 Term.av x9_0.Sel, AV.lst 3 Tol.av x9_0.Tols, AV.str x9_0.Key, AV.int x9_0.Most, AV.str x9_0.Node, AV.bool x9_0.Hold]))], [[AV.lst 2 Amount.av p3.2]], []⟩) (by kernel_rfl) ⟨getI_le hx9_0, getI_map hx9_0 _, trivial⟩ ?_
    refine hN8 _ ?_
    obtain ⟨x10_3, hx10_3, h⟩ := Option.bind_eq_some_iff.1 h
    obtain ⟨x10_4, hx10_4, h⟩ := Option.bind_eq_some_iff.1 h
    rcases thnX_some h with ⟨e, hx10_7, h⟩ | ⟨x10_7, hx10_7, h⟩
    · have h := Option.some.inj h; subst h
      refine awp_panD mixedTryd kpNone [(3, AV.lst 2 Amount.av x10_3), (4, .tuple [AV.lst 2 Amount.av x10_4.1, AV.int x10_4.2])] [] 7 (v := AV.iface 86 (.agg [AV.int e])) (cs := [(Det Tryd.prog 42 [AV.lst 2 Amount.av x10_4.1, AV.int x10_4.2] (.panic (AV.iface 86 (.agg [AV.int e])))), (Det Tryd.prog gf2 ((Pod.av x9_0) :: List.map AV.cl gc2) (.ret (AV.lst 2 Amount.av x10_3))), (Det Tryd.prog 43 [AV.lst 2 Amount.av p3.2, AV.lst 2 Amount.av x10_3] (.ret (.tuple [AV.lst 2 Amount.av x10_4.1, AV.int x10_4.2])))]) (E := [[AV.lst 2 Amount.av p3.2]]) (by kernel_rfl) (by kernel_rfl) ⟨c42 x10_4.1 x10_4.2 (.stop e) hx10_7, hg2 x9_0 _ hx10_3, c43 p3.2 x10_3 _ hx10_4, trivial⟩ ?_
      rintro ⟨_, _, _, ex, _⟩ hs
      change ex = _ at hs
      subst hs
      exact ⟨(Lw.refl _), ⟨⟨(Lw.refl _), trivial⟩, trivial⟩⟩
    refine awp_regD mixedTryd kpNone [(3, AV.lst 2 Amount.av x10_3), (4, .tuple [AV.lst 2 Amount.av x10_4.1, AV.int x10_4.2]), (7, AV.lst 2 Amount.av x10_7)] [] [1, 2, 5, 6, 7] (by kernel_rfl) (cs := [(Det Tryd.prog gf2 ((Pod.av x9_0) :: List.map AV.cl gc2) (.ret (AV.lst 2 Amount.av x10_3))), (Det Tryd.prog 43 [AV.lst 2 Amount.av p3.2, AV.lst 2 Amount.av x10_3] (.ret (.tuple [AV.lst 2 Amount.av x10_4.1, AV.int x10_4.2]))), (Det Tryd.prog 42 [AV.lst 2 Amount.av x10_4.1, AV.int x10_4.2] (.ret (AV.lst 2 Amount.av x10_7)))]) (st' := ⟨20, [(1, .extp 0 0), (2, .inp [.func gf2 gc2]), (5, AV.lst 11 Pod.av a0), (6, AV.int (List.length a0 : Int)), (7, AV.int p3.1)], [(4, (false, [AV.str x9_0.Name, AV.str x9_0.Owner, AV.int x9_0.Prio, AV.lst 2 Amount.av x9_0.Need, AV.lst 2 Pair.av x9_0.Labels, AV.lst 3 Term.av x9_0.Sel, AV.lst 3 Tol.av x9_0.Tols, AV.str x9_0.Key, AV.int x9_0.Most, AV.str x9_0.Node, AV.bool x9_0.Hold]))], [[AV.lst 2 Amount.av x10_7]], []⟩) (by kernel_rfl) ⟨hg2 x9_0 _ hx10_3, c43 p3.2 x10_3 _ hx10_4, c42 x10_4.1 x10_4.2 (.ret x10_7) hx10_7, trivial⟩ ?_
    refine hN7 _ ?_
    refine awp_reg kpNone [] [] [1, 2, 5, 6, 7] (cs := []) (st' := ⟨20, [(1, .extp 0 0), (2, .inp [.func gf2 gc2]), (5, AV.lst 11 Pod.av a0), (6, AV.int (List.length a0 : Int)), (7, AV.int (w64 (p3.1 + (1 : Int))))], [(4, (false, [AV.str x9_0.Name, AV.str x9_0.Owner, AV.int x9_0.Prio, AV.lst 2 Amount.av x9_0.Need, AV.lst 2 Pair.av x9_0.Labels, AV.lst 3 Term.av x9_0.Sel, AV.lst 3 Tol.av x9_0.Tols, AV.str x9_0.Key, AV.int x9_0.Most, AV.str x9_0.Node, AV.bool x9_0.Hold]))], [[AV.lst 2 Amount.av x10_7]], []⟩) (by kernel_rfl) trivial ?_
    refine awpL_le ?_ (hrec3 _ h)
    exact Le.mk rfl ⟨rfl, rfl, .inl rfl, rfl, rfl, trivial⟩ trivial trivial ⟨⟨.inl rfl, trivial⟩, trivial⟩
  · rw [if_false hb] at h
    refine awp_exit ?_
    have h := Option.some.inj h
    subst h
    try simp only [thenA, blockA, eq_self, if_true]
    exact (show endQ _ _ _ .normal _ from ⟨[], by kernel_rfl, ⟨(Lw.refl _), ⟨⟨(Lw.refl _), trivial⟩, trivial⟩⟩⟩)
def A41.l3 (a0 : (List Pod)) (a1 : (List Amount)) (g2 : Pod → Option (List Amount)) : (Int × List Amount) → Option ((Res Unit) × (List Amount)) := iterL (F41.l3 a0 g2) 4096
def A41 (a0 : (List Pod)) (a1 : (List Amount)) (g2 : Pod → Option (List Amount)) : Option ((Res Unit) × (List Amount)) := F41 (A41.l3 a0 a1 g2) a0 a1 g2
theorem d41 (a0 : (List Pod)) (a1 : (List Amount)) (g2 : Pod → Option (List Amount)) (gf2 : FuncId) (gc2 : List AV) (hc2 : List.map AV.cl0 gc2 = gc2) (hg2 : ∀ (y0 : Pod) (r : (List Amount)), g2 y0 = some r → Det Tryd.prog gf2 ((Pod.av y0) :: List.map AV.cl gc2) (.ret (AV.lst 2 Amount.av r))) (r : ((Res Unit) × (List Amount))) (h : A41 a0 a1 g2 = some r) :
    DetX Tryd.prog 41 [.inp [AV.lst 11 Pod.av a0], .extp 0 0, .inp [.func gf2 gc2]] [[AV.lst 2 Amount.av a1]] (Res.out 86 (fun q => .tuple []) r.1) [[AV.lst 2 Amount.av r.2]] := by
  exact c41 a0 a1 g2 gf2 gc2 hc2 hg2 (A41.l3 a0 a1 g2) (rounds_iter _ _) r h


-- state.sum[pod.Pod]
def F35 (a0 : (List Pod)) (g1 : Pod → Option (List Amount)) : Option ((List Amount) × Int) :=
  (A41 a0 ([] : (List Amount)) g1).bind fun x6_1 => if decide (¬ (tryCode x6_1.1) = (0 : Int)) = true then (some (([] : (List Amount)), tryCode x6_1.1)) else (some (x6_1.2, 0))
/-- ballast/state.sum[ballast/pod.Pod] -/
theorem c35 (a0 : (List Pod)) (g1 : Pod → Option (List Amount)) (gf1 : FuncId) (hg1 : ∀ (y0 : Pod) (r : (List Amount)), g1 y0 = some r → Det Tryd.prog gf1 ((Pod.av y0) :: List.map AV.cl []) (.ret (AV.lst 2 Amount.av r))) (r : ((List Amount) × Int)) (h : F35 a0 g1 = some r) :
    Det Tryd.prog 35 [AV.lst 11 Pod.av a0, .func gf1 []] (.ret (.tuple [AV.lst 2 Amount.av r.1, AV.int r.2])) := by
  refine Det.of_le ?_
  refine @calls_of_body Tryd.prog 35 Tryd.f35 _ Tryd.func35 rfl (by kernel_rfl) [.tmp 4, .tmp 5] (by rw [Tryd.results35]) 14 Tryd.ntmps35 _ _ _ (by simp only [List.length_cons, List.length_nil]; decide) ?_
  unfold F35 at h
  refine awp_seq fun N1 hN1 => ?_
  refine awp_reg (fun i => i == 6) [] [] [2, 3] (cs := []) (st' := ⟨14, [(2, .varp 2 0), (3, .varp 3 0)], [(3, (false, [.func gf1 []])), (2, (false, [AV.lst 11 Pod.av a0]))], [], []⟩) (by kernel_rfl) trivial ?_
  refine hN1 _ ?_
  refine awp_seq fun N3 hN3 => ?_
  refine awp_reg (fun i => i == 6) [] [] [2, 3, 6] (cs := []) (st' := ⟨14, [(2, .varp 2 0), (3, .varp 3 0), (6, .varp 6 0)], [(6, (false, [.nils])), (3, (false, [.func gf1 []])), (2, (false, [AV.lst 11 Pod.av a0]))], [], []⟩) (by kernel_rfl) trivial ?_
  refine hN3 _ ?_
  refine awp_seq fun N5 hN5 => ?_
  obtain ⟨x6_1, hx6_1, h⟩ := Option.bind_eq_some_iff.1 h
  refine awp_regX (fun i => i == 6) [] [] [6, 7] 1 [6] [[AV.lst 2 Amount.av x6_1.2]] (AV.int (tryCode x6_1.1)) (by decide) (cs := [(DetX Tryd.prog 40 [.func 41 [.inp [AV.lst 11 Pod.av a0], .extp 0 0, .inp [.func gf1 []]]] [[.nils]] (.ret (AV.int (tryCode x6_1.1))) [[AV.lst 2 Amount.av x6_1.2]])]) (st' := ⟨14, [(6, .varp 6 0), (7, AV.int (tryCode x6_1.1))], [(6, (false, [AV.lst 2 Amount.av x6_1.2])), (3, (true, [.func gf1 []])), (2, (true, [AV.lst 11 Pod.av a0]))], [], []⟩) (by kernel_rfl) ⟨DetX.args (try_any (d41 a0 ([] : (List Amount)) g1 gf1 [] rfl hg1 x6_1 hx6_1)) ⟨Lw.refl _, trivial⟩ ⟨⟨(Lw.nils _), trivial⟩, trivial⟩, trivial⟩ ?_
  refine hN5 _ ?_
  refine awp_seq fun N7 hN7 => ?_
  refine awp_seq fun N8 hN8 => ?_
  refine awp_reg (fun i => i == 6) [] [] [6, 7, 11] (cs := []) (st' := ⟨14, [(6, .varp 6 0), (7, AV.int (tryCode x6_1.1)), (11, AV.bool (decide (¬ (tryCode x6_1.1) = (0 : Int))))], [(6, (false, [AV.lst 2 Amount.av x6_1.2])), (3, (true, [.func gf1 []])), (2, (true, [AV.lst 11 Pod.av a0]))], [], []⟩) (by kernel_rfl) trivial ?_
  refine hN8 _ ?_
  refine awp_cond (t := decide (¬ (tryCode x6_1.1) = (0 : Int))) rfl (fun hb => ?_) (fun hb => ?_)
  · rw [if_pos hb] at h
    refine awp_seq fun N10 hN10 => ?_
    refine awp_reg (fun i => i == 6) [] [] [4, 5] (cs := []) (st' := ⟨14, [(4, .nils), (5, AV.int (tryCode x6_1.1))], [(6, (false, [AV.lst 2 Amount.av x6_1.2])), (3, (true, [.func gf1 []])), (2, (true, [AV.lst 11 Pod.av a0]))], [], []⟩) (by kernel_rfl) trivial ?_
    refine hN10 _ ?_
    have h := Option.some.inj h
    subst h
    exact awp_ret ⟨[.nils, AV.int (tryCode x6_1.1)], by kernel_rfl, Lw.tupleL ⟨(Lw.nils _), (Lw.refl _), trivial⟩⟩
  · rw [if_false hb] at h
    refine awp_skip ?_
    refine hN7 _ ?_
    refine awp_seq fun N12 hN12 => ?_
    refine awp_reg (fun i => i == 6) [] [] [4, 5] (cs := []) (st' := ⟨14, [(4, AV.lst 2 Amount.av x6_1.2), (5, AV.int 0)], [(6, (false, [AV.lst 2 Amount.av x6_1.2])), (3, (true, [.func gf1 []])), (2, (true, [AV.lst 11 Pod.av a0]))], [], []⟩) (by kernel_rfl) trivial ?_
    refine hN12 _ ?_
    have h := Option.some.inj h
    subst h
    exact awp_ret ⟨[AV.lst 2 Amount.av x6_1.2, AV.int 0], by kernel_rfl, Lw.refl _⟩


-- state.Used$1
def F37 (a0 : Pod) : Option (List Amount) :=
  some a0.Need
/-- ballast/state.Used$1 -/
theorem c37 (a0 : Pod) (r : (List Amount)) (h : F37 a0 = some r) :
    Det Tryd.prog 37 [Pod.av a0] (.ret (AV.lst 2 Amount.av r)) := by
  refine Det.of_le ?_
  refine @calls_of_body Tryd.prog 37 Tryd.f37 _ Tryd.func37 rfl (by kernel_rfl) [.tmp 2] (by rw [Tryd.results37]) 5 Tryd.ntmps37 _ _ _ (by simp only [List.length_cons, List.length_nil]; decide) ?_
  unfold F37 at h
  refine awp_seq fun N1 hN1 => ?_
  refine awp_reg kpNone [] [] [1] (cs := []) (st' := ⟨5, [(1, .varp 1 0)], [(1, (false, [AV.str a0.Name, AV.str a0.Owner, AV.int a0.Prio, AV.lst 2 Amount.av a0.Need, AV.lst 2 Pair.av a0.Labels, AV.lst 3 Term.av a0.Sel, AV.lst 3 Tol.av a0.Tols, AV.str a0.Key, AV.int a0.Most, AV.str a0.Node, AV.bool a0.Hold]))], [], []⟩) (by kernel_rfl) trivial ?_
  refine hN1 _ ?_
  refine awp_seq fun N3 hN3 => ?_
  refine awp_reg kpNone [] [] [2] (cs := []) (st' := ⟨5, [(2, AV.lst 2 Amount.av a0.Need)], [(1, (false, [AV.str a0.Name, AV.str a0.Owner, AV.int a0.Prio, AV.lst 2 Amount.av a0.Need, AV.lst 2 Pair.av a0.Labels, AV.lst 3 Term.av a0.Sel, AV.lst 3 Tol.av a0.Tols, AV.str a0.Key, AV.int a0.Most, AV.str a0.Node, AV.bool a0.Hold]))], [], []⟩) (by kernel_rfl) trivial ?_
  refine hN3 _ ?_
  have h := Option.some.inj h
  subst h
  exact awp_ret ⟨[AV.lst 2 Amount.av a0.Need], by kernel_rfl, Lw.refl _⟩


-- state.Used
def F32 (a0 : State) (a1 : Str) : Option ((List Amount) × Int) :=
  if (!((nodeFind a0.Nodes a1).2)) = true then (some (([] : (List Amount)), 3)) else ((onF a0 a1).bind fun x11_2 => (F35 x11_2 (fun y0 => F37 y0)).bind fun x11_3 => some (x11_3.1, x11_3.2))
/-- ballast/state.Used -/
theorem c32 (a0 : State) (a1 : Str) (r : ((List Amount) × Int)) (h : F32 a0 a1 = some r) :
    Det Tryd.prog 32 [State.av a0, AV.str a1] (.ret (.tuple [AV.lst 2 Amount.av r.1, AV.int r.2])) := by
  refine Det.of_le ?_
  refine @calls_of_body Tryd.prog 32 Tryd.f32 _ Tryd.func32 rfl (by kernel_rfl) [.tmp 4, .tmp 5] (by rw [Tryd.results32]) 23 Tryd.ntmps32 _ _ _ (by simp only [List.length_cons, List.length_nil]; decide) ?_
  unfold F32 at h
  refine awp_seq fun N1 hN1 => ?_
  refine awp_reg kpNone [] [] [1, 2] (cs := []) (st' := ⟨23, [(1, AV.str a1), (2, .varp 2 0)], [(2, (false, [AV.lst 5 Node.av a0.Nodes, AV.lst 11 Pod.av a0.Pods, AV.lst 3 Budget.av a0.Budgets]))], [], []⟩) (by kernel_rfl) trivial ?_
  refine hN1 _ ?_
  refine awp_seq fun N3 hN3 => ?_
  refine awp_seq fun N4 hN4 => ?_
  refine awp_reg kpNone [(3, .tuple [Node.av ((nodeFind a0.Nodes a1).1), AV.bool ((nodeFind a0.Nodes a1).2)])] [] [1, 2, 7] (cs := [(Det Tryd.prog 23 [AV.lst 5 Node.av a0.Nodes, AV.str a1] (.ret (.tuple [Node.av ((nodeFind a0.Nodes a1).1), AV.bool ((nodeFind a0.Nodes a1).2)])))]) (st' := ⟨23, [(1, AV.str a1), (2, .varp 2 0), (7, AV.bool ((nodeFind a0.Nodes a1).2))], [(6, (false, [AV.str (((nodeFind a0.Nodes a1).1).Name), AV.lst 2 Amount.av (((nodeFind a0.Nodes a1).1).Cap), AV.lst 2 Pair.av (((nodeFind a0.Nodes a1).1).Labels), AV.lst 3 Taint.av (((nodeFind a0.Nodes a1).1).Taints), AV.bool (((nodeFind a0.Nodes a1).1).Cordon)])), (2, (false, [AV.lst 5 Node.av a0.Nodes, AV.lst 11 Pod.av a0.Pods, AV.lst 3 Budget.av a0.Budgets]))], [], []⟩) (by kernel_rfl) ⟨d23 a0.Nodes a1, trivial⟩ ?_
  refine hN4 _ ?_
  refine awp_seq fun N6 hN6 => ?_
  refine awp_reg kpNone [] [] [1, 2, 16] (cs := []) (st' := ⟨23, [(1, AV.str a1), (2, .varp 2 0), (16, AV.bool (!((nodeFind a0.Nodes a1).2)))], [(6, (false, [AV.str (((nodeFind a0.Nodes a1).1).Name), AV.lst 2 Amount.av (((nodeFind a0.Nodes a1).1).Cap), AV.lst 2 Pair.av (((nodeFind a0.Nodes a1).1).Labels), AV.lst 3 Taint.av (((nodeFind a0.Nodes a1).1).Taints), AV.bool (((nodeFind a0.Nodes a1).1).Cordon)])), (2, (false, [AV.lst 5 Node.av a0.Nodes, AV.lst 11 Pod.av a0.Pods, AV.lst 3 Budget.av a0.Budgets]))], [], []⟩) (by kernel_rfl) trivial ?_
  refine hN6 _ ?_
  refine awp_cond (t := (!((nodeFind a0.Nodes a1).2))) rfl (fun hb => ?_) (fun hb => ?_)
  · rw [if_pos hb] at h
    refine awp_seq fun N8 hN8 => ?_
    refine awp_reg kpNone [] [] [4, 5] (cs := []) (st' := ⟨23, [(4, .nils), (5, AV.int 3)], [(6, (false, [AV.str (((nodeFind a0.Nodes a1).1).Name), AV.lst 2 Amount.av (((nodeFind a0.Nodes a1).1).Cap), AV.lst 2 Pair.av (((nodeFind a0.Nodes a1).1).Labels), AV.lst 3 Taint.av (((nodeFind a0.Nodes a1).1).Taints), AV.bool (((nodeFind a0.Nodes a1).1).Cordon)])), (2, (false, [AV.lst 5 Node.av a0.Nodes, AV.lst 11 Pod.av a0.Pods, AV.lst 3 Budget.av a0.Budgets]))], [], []⟩) (by kernel_rfl) trivial ?_
    refine hN8 _ ?_
    have h := Option.some.inj h
    subst h
    exact awp_ret ⟨[.nils, AV.int 3], by kernel_rfl, Lw.tupleL ⟨(Lw.nils _), (Lw.refl _), trivial⟩⟩
  · rw [if_false hb] at h
    refine awp_skip ?_
    refine hN3 _ ?_
    refine awp_seq fun N10 hN10 => ?_
    obtain ⟨x11_2, hx11_2, h⟩ := Option.bind_eq_some_iff.1 h
    obtain ⟨x11_3, hx11_3, h⟩ := Option.bind_eq_some_iff.1 h
    refine awp_reg kpNone [(2, AV.lst 11 Pod.av x11_2), (3, .tuple [AV.lst 2 Amount.av x11_3.1, AV.int x11_3.2])] [] [4, 5] (cs := [(Det Tryd.prog 36 [State.av a0, AV.str a1] (.ret (AV.lst 11 Pod.av x11_2))), (Det Tryd.prog 35 [AV.lst 11 Pod.av x11_2, .func 37 []] (.ret (.tuple [AV.lst 2 Amount.av x11_3.1, AV.int x11_3.2])))]) (st' := ⟨23, [(4, AV.lst 2 Amount.av x11_3.1), (5, AV.int x11_3.2)], [(6, (false, [AV.str (((nodeFind a0.Nodes a1).1).Name), AV.lst 2 Amount.av (((nodeFind a0.Nodes a1).1).Cap), AV.lst 2 Pair.av (((nodeFind a0.Nodes a1).1).Labels), AV.lst 3 Taint.av (((nodeFind a0.Nodes a1).1).Taints), AV.bool (((nodeFind a0.Nodes a1).1).Cordon)])), (2, (false, [AV.lst 5 Node.av a0.Nodes, AV.lst 11 Pod.av a0.Pods, AV.lst 3 Budget.av a0.Budgets]))], [], []⟩) (by kernel_rfl) ⟨d36 a0 a1 _ hx11_2, c35 x11_2 (fun y0 => F37 y0) 37 (fun y0 _ hy => c37 y0 _ hy) _ hx11_3, trivial⟩ ?_
    refine hN10 _ ?_
    have h := Option.some.inj h
    subst h
    exact awp_ret ⟨[AV.lst 2 Amount.av x11_3.1, AV.int x11_3.2], by kernel_rfl, Lw.refl _⟩


-- ratio.Of
def F8 (a0 : Int) (a1 : Int) : Option Nat :=
  some (flArith .quo (FloatKind.nearest .f64 a0) (FloatKind.nearest .f64 a1))
/-- ballast/ratio.Of -/
theorem c8 (a0 : Int) (a1 : Int) (r : Nat) (h : F8 a0 a1 = some r) :
    Det Tryd.prog 8 [AV.int a0, AV.int a1] (.ret (AV.fl r)) := by
  refine Det.of_le ?_
  refine @calls_of_body Tryd.prog 8 Tryd.f8 _ Tryd.func8 rfl (by kernel_rfl) [.tmp 4] (by rw [Tryd.results8]) 10 Tryd.ntmps8 _ _ _ (by simp only [List.length_cons, List.length_nil]; decide) ?_
  unfold F8 at h
  refine awp_seq fun N1 hN1 => ?_
  refine awp_reg kpNone [] [] [0, 1] (cs := []) (st' := ⟨10, [(0, AV.int a0), (1, AV.int a1)], [], [], []⟩) (by kernel_rfl) trivial ?_
  refine hN1 _ ?_
  refine awp_seq fun N3 hN3 => ?_
  refine awp_reg kpNone [] [] [4] (cs := []) (st' := ⟨10, [(4, AV.fl (flArith .quo (FloatKind.nearest .f64 a0) (FloatKind.nearest .f64 a1)))], [], [], []⟩) (by kernel_rfl) trivial ?_
  refine hN3 _ ?_
  have h := Option.some.inj h
  subst h
  exact awp_ret ⟨[AV.fl (flArith .quo (FloatKind.nearest .f64 a0) (FloatKind.nearest .f64 a1))], by kernel_rfl, Lw.refl _⟩


-- score.Usage
def F24 (a0 : State) (a1 : Str) (a2 : Str) : Option Nat :=
  if (!((nodeFind a0.Nodes a1).2)) = true then ((F31).bind fun x9_0 => some x9_0) else ((F32 a0 a1).bind fun x11_2 => (F33 x11_2.1 a2).bind fun x13_2 => (F33 (((nodeFind a0.Nodes a1).1).Cap) a2).bind fun x13_6 => (F8 x13_2 x13_6).bind fun x13_7 => some x13_7)
/-- ballast/score.Usage -/
theorem c24 (a0 : State) (a1 : Str) (a2 : Str) (r : Nat) (h : F24 a0 a1 a2 = some r) :
    Det Tryd.prog 24 [State.av a0, AV.str a1, AV.str a2] (.ret (AV.fl r)) := by
  refine Det.of_le ?_
  refine @calls_of_body Tryd.prog 24 Tryd.f24 _ Tryd.func24 rfl (by kernel_rfl) [.tmp 6] (by rw [Tryd.results24]) 35 Tryd.ntmps24 _ _ _ (by simp only [List.length_cons, List.length_nil]; decide) ?_
  unfold F24 at h
  refine awp_seq fun N1 hN1 => ?_
  refine awp_reg kpNone [] [] [1, 2, 3] (cs := []) (st' := ⟨35, [(1, AV.str a1), (2, AV.str a2), (3, .varp 3 0)], [(3, (false, [AV.lst 5 Node.av a0.Nodes, AV.lst 11 Pod.av a0.Pods, AV.lst 3 Budget.av a0.Budgets]))], [], []⟩) (by kernel_rfl) trivial ?_
  refine hN1 _ ?_
  refine awp_seq fun N3 hN3 => ?_
  refine awp_reg kpNone [(3, .tuple [Node.av ((nodeFind a0.Nodes a1).1), AV.bool ((nodeFind a0.Nodes a1).2)])] [] [1, 2, 3, 7, 8] (cs := [(Det Tryd.prog 23 [AV.lst 5 Node.av a0.Nodes, AV.str a1] (.ret (.tuple [Node.av ((nodeFind a0.Nodes a1).1), AV.bool ((nodeFind a0.Nodes a1).2)])))]) (st' := ⟨35, [(1, AV.str a1), (2, AV.str a2), (3, .varp 3 0), (7, .varp 7 0), (8, AV.bool ((nodeFind a0.Nodes a1).2))], [(7, (false, [AV.str (((nodeFind a0.Nodes a1).1).Name), AV.lst 2 Amount.av (((nodeFind a0.Nodes a1).1).Cap), AV.lst 2 Pair.av (((nodeFind a0.Nodes a1).1).Labels), AV.lst 3 Taint.av (((nodeFind a0.Nodes a1).1).Taints), AV.bool (((nodeFind a0.Nodes a1).1).Cordon)])), (3, (false, [AV.lst 5 Node.av a0.Nodes, AV.lst 11 Pod.av a0.Pods, AV.lst 3 Budget.av a0.Budgets]))], [], []⟩) (by kernel_rfl) ⟨d23 a0.Nodes a1, trivial⟩ ?_
  refine hN3 _ ?_
  refine awp_seq fun N5 hN5 => ?_
  refine awp_seq fun N6 hN6 => ?_
  refine awp_reg kpNone [] [] [1, 2, 3, 7, 19] (cs := []) (st' := ⟨35, [(1, AV.str a1), (2, AV.str a2), (3, .varp 3 0), (7, .varp 7 0), (19, AV.bool (!((nodeFind a0.Nodes a1).2)))], [(7, (false, [AV.str (((nodeFind a0.Nodes a1).1).Name), AV.lst 2 Amount.av (((nodeFind a0.Nodes a1).1).Cap), AV.lst 2 Pair.av (((nodeFind a0.Nodes a1).1).Labels), AV.lst 3 Taint.av (((nodeFind a0.Nodes a1).1).Taints), AV.bool (((nodeFind a0.Nodes a1).1).Cordon)])), (3, (false, [AV.lst 5 Node.av a0.Nodes, AV.lst 11 Pod.av a0.Pods, AV.lst 3 Budget.av a0.Budgets]))], [], []⟩) (by kernel_rfl) trivial ?_
  refine hN6 _ ?_
  refine awp_cond (t := (!((nodeFind a0.Nodes a1).2))) rfl (fun hb => ?_) (fun hb => ?_)
  · rw [if_pos hb] at h
    refine awp_seq fun N8 hN8 => ?_
    obtain ⟨x9_0, hx9_0, h⟩ := Option.bind_eq_some_iff.1 h
    refine awp_reg kpNone [(0, AV.fl x9_0)] [] [6] (cs := [(Det Tryd.prog 31 [] (.ret (AV.fl x9_0)))]) (st' := ⟨35, [(6, AV.fl x9_0)], [(7, (false, [AV.str (((nodeFind a0.Nodes a1).1).Name), AV.lst 2 Amount.av (((nodeFind a0.Nodes a1).1).Cap), AV.lst 2 Pair.av (((nodeFind a0.Nodes a1).1).Labels), AV.lst 3 Taint.av (((nodeFind a0.Nodes a1).1).Taints), AV.bool (((nodeFind a0.Nodes a1).1).Cordon)])), (3, (false, [AV.lst 5 Node.av a0.Nodes, AV.lst 11 Pod.av a0.Pods, AV.lst 3 Budget.av a0.Budgets]))], [], []⟩) (by kernel_rfl) ⟨c31  _ hx9_0, trivial⟩ ?_
    refine hN8 _ ?_
    have h := Option.some.inj h
    subst h
    exact awp_ret ⟨[AV.fl x9_0], by kernel_rfl, Lw.refl _⟩
  · rw [if_false hb] at h
    refine awp_skip ?_
    refine hN5 _ ?_
    refine awp_seq fun N10 hN10 => ?_
    obtain ⟨x11_2, hx11_2, h⟩ := Option.bind_eq_some_iff.1 h
    refine awp_reg kpNone [(2, .tuple [AV.lst 2 Amount.av x11_2.1, AV.int x11_2.2])] [] [2, 7, 9] (cs := [(Det Tryd.prog 32 [State.av a0, AV.str a1] (.ret (.tuple [AV.lst 2 Amount.av x11_2.1, AV.int x11_2.2])))]) (st' := ⟨35, [(2, AV.str a2), (7, .varp 7 0), (9, AV.lst 2 Amount.av x11_2.1)], [(7, (false, [AV.str (((nodeFind a0.Nodes a1).1).Name), AV.lst 2 Amount.av (((nodeFind a0.Nodes a1).1).Cap), AV.lst 2 Pair.av (((nodeFind a0.Nodes a1).1).Labels), AV.lst 3 Taint.av (((nodeFind a0.Nodes a1).1).Taints), AV.bool (((nodeFind a0.Nodes a1).1).Cordon)])), (3, (false, [AV.lst 5 Node.av a0.Nodes, AV.lst 11 Pod.av a0.Pods, AV.lst 3 Budget.av a0.Budgets]))], [], []⟩) (by kernel_rfl) ⟨c32 a0 a1 _ hx11_2, trivial⟩ ?_
    refine hN10 _ ?_
    refine awp_seq fun N12 hN12 => ?_
    obtain ⟨x13_2, hx13_2, h⟩ := Option.bind_eq_some_iff.1 h
    obtain ⟨x13_6, hx13_6, h⟩ := Option.bind_eq_some_iff.1 h
    obtain ⟨x13_7, hx13_7, h⟩ := Option.bind_eq_some_iff.1 h
    refine awp_regD mixedTryd kpNone [(2, AV.int x13_2), (6, AV.int x13_6), (7, AV.fl x13_7)] [] [6] (by kernel_rfl) (cs := [(Det Tryd.prog 33 [AV.lst 2 Amount.av x11_2.1, AV.str a2] (.ret (AV.int x13_2))), (Det Tryd.prog 33 [AV.lst 2 Amount.av (((nodeFind a0.Nodes a1).1).Cap), AV.str a2] (.ret (AV.int x13_6))), (Det Tryd.prog 8 [AV.int x13_2, AV.int x13_6] (.ret (AV.fl x13_7)))]) (st' := ⟨35, [(6, AV.fl x13_7)], [(7, (false, [AV.str (((nodeFind a0.Nodes a1).1).Name), AV.lst 2 Amount.av (((nodeFind a0.Nodes a1).1).Cap), AV.lst 2 Pair.av (((nodeFind a0.Nodes a1).1).Labels), AV.lst 3 Taint.av (((nodeFind a0.Nodes a1).1).Taints), AV.bool (((nodeFind a0.Nodes a1).1).Cordon)])), (3, (false, [AV.lst 5 Node.av a0.Nodes, AV.lst 11 Pod.av a0.Pods, AV.lst 3 Budget.av a0.Budgets]))], [], []⟩) (by kernel_rfl) ⟨c33 x11_2.1 a2 _ hx13_2, c33 (((nodeFind a0.Nodes a1).1).Cap) a2 _ hx13_6, c8 x13_2 x13_6 _ hx13_7, trivial⟩ ?_
    refine hN12 _ ?_
    have h := Option.some.inj h
    subst h
    exact awp_ret ⟨[AV.fl x13_7], by kernel_rfl, Lw.refl _⟩


-- level.usages
def F13.l10 (a0 : State) (a1 : Str) (rec10 : (List Nat × Int) → Option (List Nat)) : (List Nat × Int) → Option (List Nat) := fun p10 =>
  if decide (p10.2 < (List.length (((nodeFind a0.Nodes a1).1).Cap) : Int)) = true then ((getI (((nodeFind a0.Nodes a1).1).Cap) p10.2).bind fun x16_0 => (F24 a0 a1 x16_0.Name).bind fun x17_5 => if fits 8 (List.length (p10.1 ++ [x17_5])) then (rec10 (p10.1 ++ [x17_5], w64 (p10.2 + (1 : Int)))) else none) else (some p10.1)
def F13 (l10 : (List Nat × Int) → Option (List Nat)) (a0 : State) (a1 : Str) : Option (List Nat) :=
  l10 (([] : List Nat), 0)
/-- ballast/level.usages -/
theorem c13 (a0 : State) (a1 : Str) (l10 : (List Nat × Int) → Option (List Nat)) (hl10 : Rounds (F13.l10 a0 a1) (l10)) (r : (List Nat)) (h : F13 l10 a0 a1 = some r) :
    Det Tryd.prog 13 [State.av a0, AV.str a1] (.ret (AV.lst 1 AV.fl r)) := by
  refine Det.of_le ?_
  refine @calls_of_body Tryd.prog 13 Tryd.f13 _ Tryd.func13 rfl (by kernel_rfl) [.tmp 4] (by rw [Tryd.results13]) 34 Tryd.ntmps13 _ _ _ (by simp only [List.length_cons, List.length_nil]; decide) ?_
  unfold F13 at h
  refine awp_seq fun N1 hN1 => ?_
  refine awp_reg kpNone [] [] [1, 2] (cs := []) (st' := ⟨34, [(1, AV.str a1), (2, .varp 2 0)], [(2, (false, [AV.lst 5 Node.av a0.Nodes, AV.lst 11 Pod.av a0.Pods, AV.lst 3 Budget.av a0.Budgets]))], [], []⟩) (by kernel_rfl) trivial ?_
  refine hN1 _ ?_
  refine awp_seq fun N3 hN3 => ?_
  refine awp_reg kpNone [(3, .tuple [Node.av ((nodeFind a0.Nodes a1).1), AV.bool ((nodeFind a0.Nodes a1).2)])] [] [1, 2, 5] (cs := [(Det Tryd.prog 23 [AV.lst 5 Node.av a0.Nodes, AV.str a1] (.ret (.tuple [Node.av ((nodeFind a0.Nodes a1).1), AV.bool ((nodeFind a0.Nodes a1).2)])))]) (st' := ⟨34, [(1, AV.str a1), (2, .varp 2 0), (5, .varp 5 0)], [(5, (false, [AV.str (((nodeFind a0.Nodes a1).1).Name), AV.lst 2 Amount.av (((nodeFind a0.Nodes a1).1).Cap), AV.lst 2 Pair.av (((nodeFind a0.Nodes a1).1).Labels), AV.lst 3 Taint.av (((nodeFind a0.Nodes a1).1).Taints), AV.bool (((nodeFind a0.Nodes a1).1).Cordon)])), (2, (false, [AV.lst 5 Node.av a0.Nodes, AV.lst 11 Pod.av a0.Pods, AV.lst 3 Budget.av a0.Budgets]))], [], []⟩) (by kernel_rfl) ⟨d23 a0.Nodes a1, trivial⟩ ?_
  refine hN3 _ ?_
  refine awp_seq fun N5 hN5 => ?_
  refine awp_reg kpNone [] [] [1, 2, 5, 7] (cs := []) (st' := ⟨34, [(1, AV.str a1), (2, .varp 2 0), (5, .varp 5 0), (7, .nils)], [(5, (false, [AV.str (((nodeFind a0.Nodes a1).1).Name), AV.lst 2 Amount.av (((nodeFind a0.Nodes a1).1).Cap), AV.lst 2 Pair.av (((nodeFind a0.Nodes a1).1).Labels), AV.lst 3 Taint.av (((nodeFind a0.Nodes a1).1).Taints), AV.bool (((nodeFind a0.Nodes a1).1).Cordon)])), (2, (false, [AV.lst 5 Node.av a0.Nodes, AV.lst 11 Pod.av a0.Pods, AV.lst 3 Budget.av a0.Budgets]))], [], []⟩) (by kernel_rfl) trivial ?_
  refine hN5 _ ?_
  refine awp_seq fun N7 hN7 => ?_
  refine awp_seq fun N8 hN8 => ?_
  refine awp_reg kpNone [(2, AV.int (List.length (((nodeFind a0.Nodes a1).1).Cap) : Int))] [] [1, 2, 7, 18, 19, 20] (cs := [((AV.int (List.length (((nodeFind a0.Nodes a1).1).Cap) : Int) = .val (.int .i64 (List.length (List.map Amount.av (((nodeFind a0.Nodes a1).1).Cap)) : Int))))]) (st' := ⟨34, [(1, AV.str a1), (2, .varp 2 0), (7, .nils), (18, AV.lst 2 Amount.av (((nodeFind a0.Nodes a1).1).Cap)), (19, AV.int (List.length (((nodeFind a0.Nodes a1).1).Cap) : Int)), (20, AV.int 0)], [(5, (false, [AV.str (((nodeFind a0.Nodes a1).1).Name), AV.lst 2 Amount.av (((nodeFind a0.Nodes a1).1).Cap), AV.lst 2 Pair.av (((nodeFind a0.Nodes a1).1).Labels), AV.lst 3 Taint.av (((nodeFind a0.Nodes a1).1).Taints), AV.bool (((nodeFind a0.Nodes a1).1).Cordon)])), (2, (false, [AV.lst 5 Node.av a0.Nodes, AV.lst 11 Pod.av a0.Pods, AV.lst 3 Budget.av a0.Budgets]))], [], []⟩) (by kernel_rfl) ⟨len_map _ _, trivial⟩ ?_
  refine hN8 _ ?_
  refine awp_block ?_
  refine awp_loop ?_
  refine awpL_le (st' := ⟨34, [(1, AV.str a1), (2, .varp 2 0), (7, .slice (.own 31) 1 (List.map AV.fl ([] : List Nat))), (18, AV.lst 2 Amount.av (((nodeFind a0.Nodes a1).1).Cap)), (19, AV.int (List.length (((nodeFind a0.Nodes a1).1).Cap) : Int)), (20, AV.int 0)], [(2, (false, [AV.lst 5 Node.av a0.Nodes, AV.lst 11 Pod.av a0.Pods, AV.lst 3 Budget.av a0.Budgets]))], [], [(31, (43, 1, List.length (List.map AV.fl ([] : List Nat))))]⟩) ?_ ?_
  · exact Le.mk rfl ⟨rfl, ⟨rfl, rfl⟩, .inr ⟨rfl, rfl, rfl⟩, .inl rfl, rfl, rfl, trivial⟩ ⟨⟨rfl, ⟨.inl rfl, .inl rfl, .inl rfl, trivial⟩⟩, trivial⟩ ⟨⟨rfl, by decide⟩, trivial⟩ trivial
  refine awpL_fix hl10 r (fun p10 => ⟨34, [(1, AV.str a1), (2, .varp 2 0), (7, .slice (.own 31) 1 (List.map AV.fl p10.1)), (18, AV.lst 2 Amount.av (((nodeFind a0.Nodes a1).1).Cap)), (19, AV.int (List.length (((nodeFind a0.Nodes a1).1).Cap) : Int)), (20, AV.int p10.2)], [(2, (false, [AV.lst 5 Node.av a0.Nodes, AV.lst 11 Pod.av a0.Pods, AV.lst 3 Budget.av a0.Budgets]))], [], [(31, (43, 1, List.length (List.map AV.fl p10.1)))]⟩) (fun rec10 hrec10 p10 h => ?_) (([] : List Nat), 0) h
  unfold F13.l10 at h
  refine awpL_round ?_
  refine awp_seq fun N11 hN11 => ?_
  refine awp_reg kpNone [] [] [1, 2, 7, 18, 19, 20, 21] (cs := []) (st' := ⟨34, [(1, AV.str a1), (2, .varp 2 0), (7, .slice (.own 31) 1 (List.map AV.fl p10.1)), (18, AV.lst 2 Amount.av (((nodeFind a0.Nodes a1).1).Cap)), (19, AV.int (List.length (((nodeFind a0.Nodes a1).1).Cap) : Int)), (20, AV.int p10.2), (21, AV.bool (decide (p10.2 < (List.length (((nodeFind a0.Nodes a1).1).Cap) : Int))))], [(2, (false, [AV.lst 5 Node.av a0.Nodes, AV.lst 11 Pod.av a0.Pods, AV.lst 3 Budget.av a0.Budgets]))], [], [(31, (43, 1, List.length (List.map AV.fl p10.1)))]⟩) (by kernel_rfl) trivial ?_
  refine hN11 _ ?_
  refine awp_seq fun N13 hN13 => ?_
  refine awp_cond (t := decide (p10.2 < (List.length (((nodeFind a0.Nodes a1).1).Cap) : Int))) rfl (fun hb => ?_) (fun hb => ?_)
  · rw [if_pos hb] at h
    refine awp_skip ?_
    refine hN13 _ ?_
    refine awp_seq fun N14 hN14 => ?_
    refine awp_block ?_
    refine awp_seq fun N15 hN15 => ?_
    obtain ⟨x16_0, hx16_0, h⟩ := Option.bind_eq_some_iff.1 h
    refine awp_reg kpNone [(0, Amount.av x16_0)] [] [1, 2, 7, 9, 18, 19, 20] (cs := [(0 ≤ p10.2), ((List.map Amount.av (((nodeFind a0.Nodes a1).1).Cap))[Int.toNat p10.2]? = some (Amount.av x16_0))]) (st' := ⟨34, [(1, AV.str a1), (2, .varp 2 0), (7, .slice (.own 31) 1 (List.map AV.fl p10.1)), (9, .varp 9 0), (18, AV.lst 2 Amount.av (((nodeFind a0.Nodes a1).1).Cap)), (19, AV.int (List.length (((nodeFind a0.Nodes a1).1).Cap) : Int)), (20, AV.int p10.2)], [(9, (false, [AV.str x16_0.Name, AV.int x16_0.N])), (2, (false, [AV.lst 5 Node.av a0.Nodes, AV.lst 11 Pod.av a0.Pods, AV.lst 3 Budget.av a0.Budgets]))], [], [(31, (43, 1, List.length (List.map AV.fl p10.1)))]⟩) (by kernel_rfl) ⟨getI_le hx16_0, getI_map hx16_0 _, trivial⟩ ?_
    refine hN15 _ ?_
    obtain ⟨x17_5, hx17_5, h⟩ := Option.bind_eq_some_iff.1 h
    obtain ⟨hp17_7, h⟩ := guardP h
    refine awp_reg kpNone [(5, AV.fl x17_5), (7, AV.lst 1 AV.fl (p10.1 ++ [x17_5]))] [] [1, 2, 7, 18, 19, 20] (cs := [(Det Tryd.prog 24 [State.av a0, AV.str a1, AV.str x16_0.Name] (.ret (AV.fl x17_5))), (List.length (List.map AV.fl p10.1) = List.length (List.map AV.fl p10.1)), (List.length (List.map AV.fl (p10.1 ++ [x17_5])) * 8 ≤ 140737488355328), (List.length (List.map AV.fl (p10.1 ++ [x17_5])) ≤ 140737488355328), (List.map AV.fl p10.1 ++ List.map AV.fl [x17_5] = List.map AV.fl (p10.1 ++ [x17_5]))]) (st' := ⟨34, [(1, AV.str a1), (2, .varp 2 0), (7, .slice (.own 31) 1 (List.map AV.fl (p10.1 ++ [x17_5]))), (18, AV.lst 2 Amount.av (((nodeFind a0.Nodes a1).1).Cap)), (19, AV.int (List.length (((nodeFind a0.Nodes a1).1).Cap) : Int)), (20, AV.int p10.2)], [(9, (false, [AV.str x16_0.Name, AV.int x16_0.N])), (2, (false, [AV.lst 5 Node.av a0.Nodes, AV.lst 11 Pod.av a0.Pods, AV.lst 3 Budget.av a0.Budgets]))], [], [(31, (43, 1, List.length (List.map AV.fl (p10.1 ++ [x17_5])))), (30, (43, 1, 1))]⟩) (by kernel_rfl) ⟨c24 a0 a1 x16_0.Name _ hx17_5, by simp only [List.length_map, List.length_cons, List.length_nil], len_mul _ _ _ _ hp17_7.1, len_ge _ _ hp17_7.2, lst_app _ _ _, trivial⟩ ?_
    refine hN14 _ ?_
    refine awp_reg kpNone [] [] [1, 2, 7, 18, 19, 20] (cs := []) (st' := ⟨34, [(1, AV.str a1), (2, .varp 2 0), (7, .slice (.own 31) 1 (List.map AV.fl (p10.1 ++ [x17_5]))), (18, AV.lst 2 Amount.av (((nodeFind a0.Nodes a1).1).Cap)), (19, AV.int (List.length (((nodeFind a0.Nodes a1).1).Cap) : Int)), (20, AV.int (w64 (p10.2 + (1 : Int))))], [(9, (false, [AV.str x16_0.Name, AV.int x16_0.N])), (2, (false, [AV.lst 5 Node.av a0.Nodes, AV.lst 11 Pod.av a0.Pods, AV.lst 3 Budget.av a0.Budgets]))], [], [(31, (43, 1, List.length (List.map AV.fl (p10.1 ++ [x17_5])))), (30, (43, 1, 1))]⟩) (by kernel_rfl) trivial ?_
    refine awpL_le ?_ (hrec10 _ h)
    exact Le.mk rfl ⟨rfl, ⟨rfl, rfl⟩, .inl ⟨rfl, rfl⟩, .inl rfl, rfl, rfl, trivial⟩ ⟨⟨rfl, ⟨.inl rfl, .inl rfl, .inl rfl, trivial⟩⟩, trivial⟩ ⟨rfl, trivial⟩ trivial
  · rw [if_false hb] at h
    refine awp_exit ?_
    refine hN7 _ ?_
    refine awp_seq fun N19 hN19 => ?_
    refine awp_reg kpNone [] [] [4] (cs := []) (st' := ⟨34, [(4, .slice (.own 31) 1 (List.map AV.fl p10.1))], [(2, (false, [AV.lst 5 Node.av a0.Nodes, AV.lst 11 Pod.av a0.Pods, AV.lst 3 Budget.av a0.Budgets]))], [], [(31, (43, 1, List.length (List.map AV.fl p10.1)))]⟩) (by kernel_rfl) trivial ?_
    refine hN19 _ ?_
    have h := Option.some.inj h
    subst h
    exact awp_ret ⟨[.slice (.own 31) 1 (List.map AV.fl p10.1)], by kernel_rfl, Lw.refl _⟩
def A13.l10 (a0 : State) (a1 : Str) : (List Nat × Int) → Option (List Nat) := iterL (F13.l10 a0 a1) 4096
def A13 (a0 : State) (a1 : Str) : Option (List Nat) := F13 (A13.l10 a0 a1) a0 a1
theorem d13 (a0 : State) (a1 : Str) (r : (List Nat)) (h : A13 a0 a1 = some r) :
    Det Tryd.prog 13 [State.av a0, AV.str a1] (.ret (AV.lst 1 AV.fl r)) := by
  exact c13 a0 a1 (A13.l10 a0 a1) (rounds_iter _ _) r h


-- math.IsNaN
def F18 (a0 : Nat) : Option Bool :=
  some (!fEq a0 a0)
/-- math.IsNaN -/
theorem c18 (a0 : Nat) (r : Bool) (h : F18 a0 = some r) :
    Det Tryd.prog 18 [AV.fl a0] (.ret (AV.bool r)) := by
  refine Det.of_le ?_
  refine @calls_of_body Tryd.prog 18 Tryd.f18 _ Tryd.func18 rfl (by kernel_rfl) [.tmp 2] (by rw [Tryd.results18]) 6 Tryd.ntmps18 _ _ _ (by simp only [List.length_cons, List.length_nil]; decide) ?_
  unfold F18 at h
  refine awp_seq fun N1 hN1 => ?_
  refine awp_reg kpNone [] [] [0] (cs := []) (st' := ⟨6, [(0, AV.fl a0)], [], [], []⟩) (by kernel_rfl) trivial ?_
  refine hN1 _ ?_
  refine awp_seq fun N3 hN3 => ?_
  refine awp_reg kpNone [] [] [2] (cs := []) (st' := ⟨6, [(2, AV.bool (!fEq a0 a0))], [], [], []⟩) (by kernel_rfl) trivial ?_
  refine hN3 _ ?_
  have h := Option.some.inj h
  subst h
  exact awp_ret ⟨[AV.bool (!fEq a0 a0)], by kernel_rfl, Lw.refl _⟩


-- math.Float64bits

-- alone
-- {"kind": "opt", "S": "bitsO", "thm": "d30"}
theorem bits_run (w : World) (b : Nat) : (callFunc 30 #[.float .f64 b]).run Tryd.prog w = .ok (.value (.int .u64 b)) w := by kernel_rfl
theorem d30 (a0 : Nat) (r : Int) (h : bitsO a0 = some r) : Det Tryd.prog 30 [AV.fl a0] (.ret (AV.ik .u64 r)) := by
  unfold bitsO at h
  split at h
  · cases h
  · rename_i hn
    cases h
    refine Det.of_value ?_
    intro g w cargs h2 h3
    obtain ⟨x, rfl, hx⟩ := one_arg h2 h3
    obtain ⟨b', rfl, hb⟩ := hx.fl_of
    rcases hb with rfl | ⟨h4, _⟩
    · exact ⟨.int .u64 b', bits_run w b', fun D => .val _ rfl⟩
    · exact absurd h4 hn


-- math.Abs
def F29 (a0 : Nat) : Option Nat :=
  (bitsO a0).bind fun x4_1 => some (frombits (andNotI .u64 x4_1 (9223372036854775808 : Int)))
/-- math.Abs -/
theorem c29 (a0 : Nat) (r : Nat) (h : F29 a0 = some r) :
    Det Tryd.prog 29 [AV.fl a0] (.ret (AV.fl r)) := by
  refine Det.of_le ?_
  refine @calls_of_body Tryd.prog 29 Tryd.f29 _ Tryd.func29 rfl (by kernel_rfl) [.tmp 2] (by rw [Tryd.results29]) 7 Tryd.ntmps29 _ _ _ (by simp only [List.length_cons, List.length_nil]; decide) ?_
  unfold F29 at h
  refine awp_seq fun N1 hN1 => ?_
  refine awp_reg kpNone [] [] [0] (cs := []) (st' := ⟨7, [(0, AV.fl a0)], [], [], []⟩) (by kernel_rfl) trivial ?_
  refine hN1 _ ?_
  refine awp_seq fun N3 hN3 => ?_
  obtain ⟨x4_1, hx4_1, h⟩ := Option.bind_eq_some_iff.1 h
  refine awp_reg kpNone [(1, AV.ik .u64 x4_1), (3, AV.fl (frombits (andNotI .u64 x4_1 (9223372036854775808 : Int))))] [] [2] (cs := [(Det Tryd.prog 30 [AV.fl a0] (.ret (AV.ik .u64 x4_1))), (Det Tryd.prog 34 [AV.ik .u64 (andNotI .u64 x4_1 (9223372036854775808 : Int))] (.ret (AV.fl (frombits (andNotI .u64 x4_1 (9223372036854775808 : Int))))))]) (st' := ⟨7, [(2, AV.fl (frombits (andNotI .u64 x4_1 (9223372036854775808 : Int))))], [], [], []⟩) (by kernel_rfl) ⟨d30 a0 _ hx4_1, d34 (andNotI .u64 x4_1 (9223372036854775808 : Int)), trivial⟩ ?_
  refine hN3 _ ?_
  have h := Option.some.inj h
  subst h
  exact awp_ret ⟨[AV.fl (frombits (andNotI .u64 x4_1 (9223372036854775808 : Int)))], by kernel_rfl, Lw.refl _⟩


-- math.IsInf
def F21.j6  : (Nat) → Option Bool := fun p6 =>
  some (fGt p6 9218868437227405311)
def F21.j12  : (Nat) → Option Bool := fun p12 =>
  F21.j6 p12
def F21 (a0 : Nat) (a1 : Int) : Option Bool :=
  if decide (a1 = (0 : Int)) = true then ((F29 a0).bind fun x9_1 => F21.j6 x9_1) else (if decide (a1 < (0 : Int)) = true then (F21.j12 (negF a0)) else (F21.j12 a0))
/-- math.IsInf -/
theorem c21 (a0 : Nat) (a1 : Int) (r : Bool) (h : F21 a0 a1 = some r) :
    Det Tryd.prog 21 [AV.fl a0, AV.int a1] (.ret (AV.bool r)) := by
  refine Det.of_le ?_
  refine @calls_of_body Tryd.prog 21 Tryd.f21 _ Tryd.func21 rfl (by kernel_rfl) [.tmp 4] (by rw [Tryd.results21]) 15 Tryd.ntmps21 _ _ _ (by simp only [List.length_cons, List.length_nil]; decide) ?_
  unfold F21 at h
  refine awp_seq fun N1 hN1 => ?_
  refine awp_reg kpNone [] [] [0, 1] (cs := []) (st' := ⟨15, [(0, AV.fl a0), (1, AV.int a1)], [], [], []⟩) (by kernel_rfl) trivial ?_
  refine hN1 _ ?_
  refine awp_seq fun N3 hN3 => ?_
  refine awp_seq fun N4 hN4 => ?_
  refine awp_reg kpNone [] [] [0, 1, 6] (cs := []) (st' := ⟨15, [(0, AV.fl a0), (1, AV.int a1), (6, AV.bool (decide (a1 = (0 : Int))))], [], [], []⟩) (by kernel_rfl) trivial ?_
  refine hN4 _ ?_
  refine awp_to (σ := Nat) (fun p6 => ⟨15, [(0, AV.fl p6)], [], [], []⟩) (fun p6 => F21.j6 p6 = some r) (fun p6 h => ?_) (fun N6 hJ6 => ?_)
  · unfold F21.j6 at h
    refine hN3 _ ?_
    refine awp_seq fun N7 hN7 => ?_
    refine awp_reg kpNone [] [] [4] (cs := []) (st' := ⟨15, [(4, AV.bool (fGt p6 9218868437227405311))], [], [], []⟩) (by kernel_rfl) trivial ?_
    refine hN7 _ ?_
    have h := Option.some.inj h
    subst h
    exact awp_ret ⟨[AV.bool (fGt p6 9218868437227405311)], by kernel_rfl, Lw.refl _⟩
  · refine awp_cond (t := decide (a1 = (0 : Int))) rfl (fun hb => ?_) (fun hb => ?_)
    · rw [if_pos hb] at h
      obtain ⟨x9_1, hx9_1, h⟩ := Option.bind_eq_some_iff.1 h
      refine awp_reg kpNone [(1, AV.fl x9_1)] [] [0] (cs := [(Det Tryd.prog 29 [AV.fl a0] (.ret (AV.fl x9_1)))]) (st' := ⟨15, [(0, AV.fl x9_1)], [], [], []⟩) (by kernel_rfl) ⟨c29 a0 _ hx9_1, trivial⟩ ?_
      exact hJ6 x9_1 _ h (Le.rfl')
    · rw [if_false hb] at h
      refine awp_seq fun N10 hN10 => ?_
      refine awp_reg kpNone [] [] [0, 10] (cs := []) (st' := ⟨15, [(0, AV.fl a0), (10, AV.bool (decide (a1 < (0 : Int))))], [], [], []⟩) (by kernel_rfl) trivial ?_
      refine hN10 _ ?_
      refine awp_to (σ := Nat) (fun p12 => ⟨15, [(0, AV.fl p12)], [], [], []⟩) (fun p12 => F21.j12 p12 = some r) (fun p12 h => ?_) (fun N12 hJ12 => ?_)
      · unfold F21.j12 at h
        exact hJ6 p12 _ h (Le.rfl')
      · refine awp_cond (t := decide (a1 < (0 : Int))) rfl (fun hb => ?_) (fun hb => ?_)
        · rw [if_pos hb] at h
          refine awp_reg kpNone [] [] [0] (cs := []) (st' := ⟨15, [(0, AV.fl (negF a0))], [], [], []⟩) (by kernel_rfl) trivial ?_
          exact hJ12 (negF a0) _ h (Le.rfl')
        · rw [if_false hb] at h
          refine awp_skip ?_
          exact hJ12 a0 _ h (Le.mk rfl ⟨rfl, trivial⟩ trivial trivial trivial)


-- math.Signbit
def F22 (a0 : Nat) : Option Bool :=
  (bitsO a0).bind fun x4_1 => some (decide ((IntKind.wrap .i64 x4_1) < (0 : Int)))
/-- math.Signbit -/
theorem c22 (a0 : Nat) (r : Bool) (h : F22 a0 = some r) :
    Det Tryd.prog 22 [AV.fl a0] (.ret (AV.bool r)) := by
  refine Det.of_le ?_
  refine @calls_of_body Tryd.prog 22 Tryd.f22 _ Tryd.func22 rfl (by kernel_rfl) [.tmp 2] (by rw [Tryd.results22]) 7 Tryd.ntmps22 _ _ _ (by simp only [List.length_cons, List.length_nil]; decide) ?_
  unfold F22 at h
  refine awp_seq fun N1 hN1 => ?_
  refine awp_reg kpNone [] [] [0] (cs := []) (st' := ⟨7, [(0, AV.fl a0)], [], [], []⟩) (by kernel_rfl) trivial ?_
  refine hN1 _ ?_
  refine awp_seq fun N3 hN3 => ?_
  obtain ⟨x4_1, hx4_1, h⟩ := Option.bind_eq_some_iff.1 h
  refine awp_reg kpNone [(1, AV.ik .u64 x4_1)] [] [2] (cs := [(Det Tryd.prog 30 [AV.fl a0] (.ret (AV.ik .u64 x4_1)))]) (st' := ⟨7, [(2, AV.bool (decide ((IntKind.wrap .i64 x4_1) < (0 : Int))))], [], [], []⟩) (by kernel_rfl) ⟨d30 a0 _ hx4_1, trivial⟩ ?_
  refine hN3 _ ?_
  have h := Option.some.inj h
  subst h
  exact awp_ret ⟨[AV.bool (decide ((IntKind.wrap .i64 x4_1) < (0 : Int)))], by kernel_rfl, Lw.refl _⟩


end Go.Proofs.Eng
