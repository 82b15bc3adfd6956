/- Printed walks and contracts. -/
import Derived.Test.YtdolhcmhdjmoeaaGreatDoorStrT0
set_option linter.unusedSimpArgs false
set_option linter.unusedVariables false
set_option maxRecDepth 100000
namespace Go.Proofs.Eng
open Go Go.Proofs Go.Sort
-- spread.Count$1
def F289.j3  : (Unit) → Option (Res Unit) := fun p3 =>
  some (.ret ())
def F289 (a0 : State) (a1 : Pod) (a2 : Pod) (a3 : Str) : Option (Res Unit) :=
  thn (F217 a0 a1.Node a2.Key) fun x2_5 => if decide (¬ x2_5 = a3) = true then (thn (F133 10) fun x4_0 => F289.j3 ()) else (F289.j3 ())
/-- ballast/spread.Count$1 -/
theorem c289 (a0 : State) (a1 : Pod) (a2 : Pod) (a3 : Str) (r : (Res Unit)) (h : F289 a0 a1 a2 a3 = some r) :
    Det Tryz.prog 289 [.inp a0.cs, .inp a1.cs, .inp a2.cs, .inp [AV.str a3]] (Res.out 279 (fun r => .tuple []) r) := by
  refine Det.of_le ?_
  refine @calls_of_body Tryz.prog 289 Tryz.f289 _ Tryz.func289 rfl (by kernel_rfl) [] (by rw [Tryz.results289]) 13 Tryz.ntmps289 _ _ _ (by simp only [List.length_cons, List.length_nil]; decide) ?_
  unfold F289 at h
  refine awp_seq fun N1 hN1 => ?_
  rcases thn_some h with ⟨e, hx2_5, hr⟩ | ⟨x2_5, hx2_5, h⟩
  · subst hr
    refine awp_panD mixedTryz kpNone [] [] 5 (v := AV.iface 279 (.agg [AV.int e])) (cs := [(Det Tryz.prog 217 [State.av a0, AV.str a1.Node, AV.str a2.Key] (.panic (AV.iface 279 (.agg [AV.int e]))))]) (E := []) (by kernel_rfl) (by kernel_rfl) ⟨c217 a0 a1.Node a2.Key (.stop e) hx2_5, trivial⟩ ?_
    rintro ⟨_, _, _, ex, _⟩ hs
    change ex = _ at hs
    subst hs
    exact Lw.refl _
  refine awp_regD mixedTryz kpNone [(5, AV.str x2_5)] [] [11] (by kernel_rfl) (cs := [(Det Tryz.prog 217 [State.av a0, AV.str a1.Node, AV.str a2.Key] (.ret (AV.str x2_5)))]) (st' := ⟨13, [(11, AV.bool (decide (¬ x2_5 = a3)))], [], [], []⟩) (by kernel_rfl) ⟨c217 a0 a1.Node a2.Key (.ret x2_5) hx2_5, trivial⟩ ?_
  refine hN1 _ ?_
  refine awp_to (σ := Unit) (fun p3 => ⟨13, [], [], [], []⟩) (fun p3 => F289.j3 p3 = some r) (fun p3 h => ?_) (fun N3 hJ3 => ?_)
  · unfold F289.j3 at h
    have h := Option.some.inj h
    subst h
    try simp only [thenA, blockA, eq_self, if_true]
    exact (show endQ _ _ _ .normal _ from ⟨[], by kernel_rfl, Lw.refl _⟩)
  · refine awp_cond (t := decide (¬ x2_5 = a3)) rfl (fun hb => ?_) (fun hb => ?_)
    · rw [if_pos hb] at h
      rcases thn_some h with ⟨e, hx4_0, hr⟩ | ⟨x4_0, hx4_0, h⟩
      · subst hr
        refine awp_panT kpNone [] [] 0 (v := AV.iface 279 (.agg [AV.int e])) (cs := [(Det Tryz.prog 133 [AV.int 10] (.panic (AV.iface 279 (.agg [AV.int e]))))]) (st' := ⟨13, [], [], [], []⟩) (by kernel_rfl) ⟨c133 10 (.stop e) hx4_0, trivial⟩ ?_
        exact Lw.refl _
      refine awp_reg kpNone [(0, .tuple [])] [] [] (cs := [(Det Tryz.prog 133 [AV.int 10] (.ret (.tuple [])))]) (st' := ⟨13, [], [], [], []⟩) (by kernel_rfl) ⟨c133 10 (.ret x4_0) hx4_0, trivial⟩ ?_
      exact hJ3 () _ h (Le.rfl')
    · rw [if_false hb] at h
      refine awp_skip ?_
      exact hJ3 () _ h (Le.mk rfl trivial trivial trivial trivial)


-- spread.Count
def F218.j26 (rec8 : (Int × Int) → Option Int) (p8 : Int × Int) : (Int) → Option Int := fun p26 =>
  rec8 (p26, w64 (p8.2 + (1 : Int)))
def F218.l8 (a0 : State) (a1 : Pod) (a2 : Str) (rec8 : (Int × Int) → Option Int) : (Int × Int) → Option Int := fun p8 =>
  if decide (p8.2 < (List.length a0.Pods : Int)) = true then ((getI a0.Pods p8.2).bind fun x14_0 => if ((decide (a1.Owner = [])) || ((decide (¬ x14_0.Owner = a1.Owner)) || (x14_0.Hold || ((decide (x14_0.Name = a1.Name)) || (decide (x14_0.Node = [])))))) = true then (rec8 (p8.1, w64 (p8.2 + (1 : Int)))) else ((F289 a0 x14_0 a1 a2).bind fun x25_1 => if decide ((tryCode x25_1) = (0 : Int)) = true then (F218.j26 rec8 p8 (w64 (p8.1 + (1 : Int)))) else (F218.j26 rec8 p8 p8.1))) else (some p8.1)
def F218 (l8 : (Int × Int) → Option Int) (a0 : State) (a1 : Pod) (a2 : Str) : Option Int :=
  l8 (0, 0)
/-- ballast/spread.Count -/
theorem c218 (a0 : State) (a1 : Pod) (a2 : Str) (l8 : (Int × Int) → Option Int) (hl8 : Rounds (F218.l8 a0 a1 a2) (l8)) (r : Int) (h : F218 l8 a0 a1 a2 = some r) :
    Det Tryz.prog 218 [State.av a0, Pod.av a1, AV.str a2] (.ret (AV.int r)) := by
  refine Det.of_le ?_
  refine @calls_of_body Tryz.prog 218 Tryz.f218 _ Tryz.func218 rfl (by kernel_rfl) [.tmp 6] (by rw [Tryz.results218]) 50 Tryz.ntmps218 _ _ _ (by simp only [List.length_cons, List.length_nil]; decide) ?_
  unfold F218 at h
  refine awp_sr kpNone [] [] [3, 4, 5] (cs := []) (st' := ⟨50, [(3, .varp 3 0), (4, .varp 4 0), (5, .varp 5 0)], [(5, (false, [AV.str a2])), (4, (false, a1.cs)), (3, (false, a0.cs))], [], []⟩) (by kernel_rfl) trivial ?_
  refine awp_sr kpNone [] [] [3, 4, 5, 7] (cs := []) (st' := ⟨50, [(3, .varp 3 0), (4, .varp 4 0), (5, .varp 5 0), (7, AV.int 0)], [(5, (false, [AV.str a2])), (4, (false, a1.cs)), (3, (false, a0.cs))], [], []⟩) (by kernel_rfl) trivial ?_
  refine awp_seq fun N5 hN5 => ?_
  refine awp_sr kpNone [(2, AV.int (List.length a0.Pods : Int))] [] [3, 4, 5, 7, 11, 12, 13] (cs := [((AV.int (List.length a0.Pods : Int) = .val (.int .i64 (List.length (List.map Pod.av a0.Pods) : Int))))]) (st' := ⟨50, [(3, .varp 3 0), (4, .varp 4 0), (5, .varp 5 0), (7, AV.int 0), (11, AV.lst 11 Pod.av a0.Pods), (12, AV.int (List.length a0.Pods : Int)), (13, AV.int 0)], [(5, (false, [AV.str a2])), (4, (false, a1.cs)), (3, (false, a0.cs))], [], []⟩) (by kernel_rfl) ⟨len_map _ _, trivial⟩ ?_
  refine awp_block ?_
  refine awp_loop ?_
  refine awpL_le (st' := ⟨50, [(3, .varp 3 0), (4, .varp 4 0), (5, .varp 5 0), (7, AV.int 0), (11, AV.lst 11 Pod.av a0.Pods), (12, AV.int (List.length a0.Pods : Int)), (13, AV.int 0)], [(5, (true, [AV.str a2])), (4, (true, a1.cs)), (3, (true, a0.cs))], [], []⟩) ?_ ?_
  · exact Le.trans (Le.freeze 5 [AV.str a2] rfl rfl) (Le.trans (Le.freeze 4 a1.cs rfl rfl) (Le.trans (Le.freeze 3 a0.cs rfl rfl) (Le.mk rfl ⟨⟨rfl, rfl⟩, ⟨rfl, rfl⟩, ⟨rfl, rfl⟩, rfl, .inl rfl, rfl, rfl, trivial⟩ ⟨⟨rfl, rfl⟩, ⟨rfl, rfl⟩, ⟨rfl, rfl⟩, trivial⟩ trivial trivial)))
  refine awpL_fix hl8 r (fun p8 => ⟨50, [(3, .varp 3 0), (4, .varp 4 0), (5, .varp 5 0), (7, AV.int p8.1), (11, AV.lst 11 Pod.av a0.Pods), (12, AV.int (List.length a0.Pods : Int)), (13, AV.int p8.2)], [(5, (true, [AV.str a2])), (4, (true, a1.cs)), (3, (true, a0.cs))], [], []⟩) (fun rec8 hrec8 p8 h => ?_) (0, 0) h
  unfold F218.l8 at h
  refine awpL_round ?_
  refine awp_sr kpNone [] [] [3, 4, 5, 7, 11, 12, 13, 14] (cs := []) (st' := ⟨50, [(3, .varp 3 0), (4, .varp 4 0), (5, .varp 5 0), (7, AV.int p8.1), (11, AV.lst 11 Pod.av a0.Pods), (12, AV.int (List.length a0.Pods : Int)), (13, AV.int p8.2), (14, AV.bool (decide (p8.2 < (List.length a0.Pods : Int))))], [(5, (true, [AV.str a2])), (4, (true, a1.cs)), (3, (true, a0.cs))], [], []⟩) (by kernel_rfl) trivial ?_
  refine awp_seq fun N11 hN11 => ?_
  refine awp_cond (t := decide (p8.2 < (List.length a0.Pods : Int))) rfl (fun hb => ?_) (fun hb => ?_)
  · rw [if_pos hb] at h
    refine awp_skip ?_
    refine hN11 _ ?_
    refine awp_seq fun N12 hN12 => ?_
    refine awp_block ?_
    obtain ⟨x14_0, hx14_0, h⟩ := Option.bind_eq_some_iff.1 h
    refine awp_sr kpNone [(0, Pod.av x14_0)] [] [3, 4, 5, 7, 9, 11, 12, 13] (cs := [(0 ≤ p8.2), ((List.map Pod.av a0.Pods)[Int.toNat p8.2]? = some (Pod.av x14_0))]) (st' := ⟨50, [(3, .varp 3 0), (4, .varp 4 0), (5, .varp 5 0), (7, AV.int p8.1), (9, .varp 9 0), (11, AV.lst 11 Pod.av a0.Pods), (12, AV.int (List.length a0.Pods : Int)), (13, AV.int p8.2)], [(9, (false, x14_0.cs)), (5, (true, [AV.str a2])), (4, (true, a1.cs)), (3, (true, a0.cs))], [], []⟩) (by kernel_rfl) ⟨getI_le hx14_0, getI_map hx14_0 _, trivial⟩ ?_
    refine awp_seq fun N15 hN15 => ?_
    refine awp_seq fun N16 hN16 => ?_
    refine awp_to (σ := Bool) (fun p => ⟨50, [(3, .varp 3 0), (4, .varp 4 0), (5, .varp 5 0), (7, AV.int p8.1), (9, .varp 9 0), (11, AV.lst 11 Pod.av a0.Pods), (12, AV.int (List.length a0.Pods : Int)), (13, AV.int p8.2), (42, AV.bool p)], [(9, (false, x14_0.cs)), (5, (true, [AV.str a2])), (4, (true, a1.cs)), (3, (true, a0.cs))], [], []⟩) (fun p => p = ((decide (a1.Owner = [])) || ((decide (¬ x14_0.Owner = a1.Owner)) || (x14_0.Hold || ((decide (x14_0.Name = a1.Name)) || (decide (x14_0.Node = []))))))) (fun p hp => ?_) (fun N22 hJ22 => ?_)
    · subst hp
      refine hN16 _ ?_
      refine awp_cond (t := ((decide (a1.Owner = [])) || ((decide (¬ x14_0.Owner = a1.Owner)) || (x14_0.Hold || ((decide (x14_0.Name = a1.Name)) || (decide (x14_0.Node = []))))))) rfl (fun hb => ?_) (fun hb => ?_)
      · rw [if_pos hb] at h
        refine awp_exit ?_
        refine hN12 _ ?_
        refine awp_reg kpNone [] [] [3, 4, 5, 7, 11, 12, 13] (cs := []) (st' := ⟨50, [(3, .varp 3 0), (4, .varp 4 0), (5, .varp 5 0), (7, AV.int p8.1), (11, AV.lst 11 Pod.av a0.Pods), (12, AV.int (List.length a0.Pods : Int)), (13, AV.int (w64 (p8.2 + (1 : Int))))], [(9, (false, x14_0.cs)), (5, (true, [AV.str a2])), (4, (true, a1.cs)), (3, (true, a0.cs))], [], []⟩) (by kernel_rfl) trivial ?_
        refine awpL_le ?_ (hrec8 _ h)
        exact Le.mk rfl ⟨⟨rfl, rfl⟩, ⟨rfl, rfl⟩, ⟨rfl, rfl⟩, rfl, .inl rfl, rfl, rfl, trivial⟩ ⟨⟨rfl, rfl⟩, ⟨rfl, rfl⟩, ⟨rfl, rfl⟩, trivial⟩ trivial trivial
      · rw [if_false hb] at h
        refine awp_skip ?_
        refine hN15 _ ?_
        obtain ⟨x25_1, hx25_1, h⟩ := Option.bind_eq_some_iff.1 h
        refine awp_sr kpNone [(1, AV.int (tryCode x25_1))] [] [3, 4, 5, 7, 11, 12, 13, 45] (cs := [(Det Tryz.prog 113 [.func 289 [.inp a0.cs, .inp x14_0.cs, .inp a1.cs, .inp [AV.str a2]]] (.ret (AV.int (tryCode x25_1))))]) (st' := ⟨50, [(3, .varp 3 0), (4, .varp 4 0), (5, .varp 5 0), (7, AV.int p8.1), (11, AV.lst 11 Pod.av a0.Pods), (12, AV.int (List.length a0.Pods : Int)), (13, AV.int p8.2), (45, AV.bool (decide ((tryCode x25_1) = (0 : Int))))], [(5, (true, [AV.str a2])), (4, (true, a1.cs)), (9, (true, x14_0.cs)), (3, (true, a0.cs))], [], []⟩) (by kernel_rfl) ⟨try_det (c289 a0 x14_0 a1 a2 x25_1 hx25_1), trivial⟩ ?_
        refine awp_to (σ := Int) (fun p26 => ⟨50, [(3, .varp 3 0), (4, .varp 4 0), (5, .varp 5 0), (7, AV.int p26), (11, AV.lst 11 Pod.av a0.Pods), (12, AV.int (List.length a0.Pods : Int)), (13, AV.int p8.2)], [(5, (true, [AV.str a2])), (4, (true, a1.cs)), (9, (true, x14_0.cs)), (3, (true, a0.cs))], [], []⟩) (fun p26 => F218.j26 rec8 p8 p26 = some r) (fun p26 h => ?_) (fun N26 hJ26 => ?_)
        · unfold F218.j26 at h
          refine hN12 _ ?_
          refine awp_reg kpNone [] [] [3, 4, 5, 7, 11, 12, 13] (cs := []) (st' := ⟨50, [(3, .varp 3 0), (4, .varp 4 0), (5, .varp 5 0), (7, AV.int p26), (11, AV.lst 11 Pod.av a0.Pods), (12, AV.int (List.length a0.Pods : Int)), (13, AV.int (w64 (p8.2 + (1 : Int))))], [(5, (true, [AV.str a2])), (4, (true, a1.cs)), (9, (true, x14_0.cs)), (3, (true, a0.cs))], [], []⟩) (by kernel_rfl) trivial ?_
          refine awpL_le ?_ (hrec8 _ h)
          exact Le.mk rfl ⟨⟨rfl, rfl⟩, ⟨rfl, rfl⟩, ⟨rfl, rfl⟩, rfl, .inl rfl, rfl, rfl, trivial⟩ ⟨⟨rfl, rfl⟩, ⟨rfl, rfl⟩, ⟨rfl, rfl⟩, trivial⟩ trivial trivial
        · refine awp_cond (t := decide ((tryCode x25_1) = (0 : Int))) rfl (fun hb => ?_) (fun hb => ?_)
          · rw [if_pos hb] at h
            refine awp_reg kpNone [] [] [3, 4, 5, 7, 11, 12, 13] (cs := []) (st' := ⟨50, [(3, .varp 3 0), (4, .varp 4 0), (5, .varp 5 0), (7, AV.int (w64 (p8.1 + (1 : Int)))), (11, AV.lst 11 Pod.av a0.Pods), (12, AV.int (List.length a0.Pods : Int)), (13, AV.int p8.2)], [(5, (true, [AV.str a2])), (4, (true, a1.cs)), (9, (true, x14_0.cs)), (3, (true, a0.cs))], [], []⟩) (by kernel_rfl) trivial ?_
            exact hJ26 (w64 (p8.1 + (1 : Int))) _ h (Le.rfl')
          · rw [if_false hb] at h
            refine awp_skip ?_
            exact hJ26 p8.1 _ h (Le.mk rfl ⟨⟨rfl, rfl⟩, ⟨rfl, rfl⟩, ⟨rfl, rfl⟩, rfl, .inl rfl, rfl, rfl, trivial⟩ ⟨⟨rfl, rfl⟩, ⟨rfl, rfl⟩, ⟨rfl, rfl⟩, ⟨rfl, rfl⟩, trivial⟩ trivial trivial)
    · by_cases hg18 : decide (a1.Owner = []) = true
      · refine awp_reg kpNone [] [(3, true)] [3, 4, 5, 7, 9, 11, 12, 13, 42] (cs := [(decide (a1.Owner = []) = true)]) (st' := ⟨50, [(3, .varp 3 0), (4, .varp 4 0), (5, .varp 5 0), (7, AV.int p8.1), (9, .varp 9 0), (11, AV.lst 11 Pod.av a0.Pods), (12, AV.int (List.length a0.Pods : Int)), (13, AV.int p8.2), (42, AV.bool true)], [(9, (false, x14_0.cs)), (5, (true, [AV.str a2])), (4, (true, a1.cs)), (3, (true, a0.cs))], [], []⟩) (by kernel_rfl) ⟨hg18, trivial⟩ ?_
        exact hJ22 true _ (by first | rfl | (rw [hg18]; done) | (rw [hg18]; rfl) | (simp [hg18]; done) | (exfalso; revert hg18; simp; done) | (exfalso; revert hg18; simp; intros; assumption)) (Le.rfl')
      · have hg18 := Bool.eq_false_iff.2 hg18
        by_cases hg19 : decide (¬ x14_0.Owner = a1.Owner) = true
        · refine awp_reg kpNone [] [(3, false), (10, true)] [3, 4, 5, 7, 9, 11, 12, 13, 42] (cs := [(decide (a1.Owner = []) = false), (decide (¬ x14_0.Owner = a1.Owner) = true)]) (st' := ⟨50, [(3, .varp 3 0), (4, .varp 4 0), (5, .varp 5 0), (7, AV.int p8.1), (9, .varp 9 0), (11, AV.lst 11 Pod.av a0.Pods), (12, AV.int (List.length a0.Pods : Int)), (13, AV.int p8.2), (42, AV.bool true)], [(9, (false, x14_0.cs)), (5, (true, [AV.str a2])), (4, (true, a1.cs)), (3, (true, a0.cs))], [], []⟩) (by kernel_rfl) ⟨hg18, hg19, trivial⟩ ?_
          exact hJ22 true _ (by first | rfl | (rw [hg18, hg19]; done) | (rw [hg18, hg19]; rfl) | (simp [hg18, hg19]; done) | (exfalso; revert hg18 hg19; simp; done) | (exfalso; revert hg18 hg19; simp; intros; assumption)) (Le.rfl')
        · have hg19 := Bool.eq_false_iff.2 hg19
          by_cases hg20 : x14_0.Hold = true
          · refine awp_reg kpNone [] [(3, false), (10, false), (14, true)] [3, 4, 5, 7, 9, 11, 12, 13, 42] (cs := [(decide (a1.Owner = []) = false), (decide (¬ x14_0.Owner = a1.Owner) = false), (x14_0.Hold = true)]) (st' := ⟨50, [(3, .varp 3 0), (4, .varp 4 0), (5, .varp 5 0), (7, AV.int p8.1), (9, .varp 9 0), (11, AV.lst 11 Pod.av a0.Pods), (12, AV.int (List.length a0.Pods : Int)), (13, AV.int p8.2), (42, AV.bool true)], [(9, (false, x14_0.cs)), (5, (true, [AV.str a2])), (4, (true, a1.cs)), (3, (true, a0.cs))], [], []⟩) (by kernel_rfl) ⟨hg18, hg19, hg20, trivial⟩ ?_
            exact hJ22 true _ (by first | rfl | (rw [hg18, hg19, hg20]; done) | (rw [hg18, hg19, hg20]; rfl) | (simp [hg18, hg19, hg20]; done) | (exfalso; revert hg18 hg19 hg20; simp; done) | (exfalso; revert hg18 hg19 hg20; simp; intros; assumption)) (Le.rfl')
          · have hg20 := Bool.eq_false_iff.2 hg20
            by_cases hg21 : decide (x14_0.Name = a1.Name) = true
            · refine awp_reg kpNone [] [(3, false), (10, false), (14, false), (21, true)] [3, 4, 5, 7, 9, 11, 12, 13, 42] (cs := [(decide (a1.Owner = []) = false), (decide (¬ x14_0.Owner = a1.Owner) = false), (x14_0.Hold = false), (decide (x14_0.Name = a1.Name) = true)]) (st' := ⟨50, [(3, .varp 3 0), (4, .varp 4 0), (5, .varp 5 0), (7, AV.int p8.1), (9, .varp 9 0), (11, AV.lst 11 Pod.av a0.Pods), (12, AV.int (List.length a0.Pods : Int)), (13, AV.int p8.2), (42, AV.bool true)], [(9, (false, x14_0.cs)), (5, (true, [AV.str a2])), (4, (true, a1.cs)), (3, (true, a0.cs))], [], []⟩) (by kernel_rfl) ⟨hg18, hg19, hg20, hg21, trivial⟩ ?_
              exact hJ22 true _ (by first | rfl | (rw [hg18, hg19, hg20, hg21]; done) | (rw [hg18, hg19, hg20, hg21]; rfl) | (simp [hg18, hg19, hg20, hg21]; done) | (exfalso; revert hg18 hg19 hg20 hg21; simp; done) | (exfalso; revert hg18 hg19 hg20 hg21; simp; intros; assumption)) (Le.rfl')
            · have hg21 := Bool.eq_false_iff.2 hg21
              refine awp_reg kpNone [] [(3, false), (10, false), (14, false), (21, false)] [3, 4, 5, 7, 9, 11, 12, 13, 42] (cs := [(decide (a1.Owner = []) = false), (decide (¬ x14_0.Owner = a1.Owner) = false), (x14_0.Hold = false), (decide (x14_0.Name = a1.Name) = false)]) (st' := ⟨50, [(3, .varp 3 0), (4, .varp 4 0), (5, .varp 5 0), (7, AV.int p8.1), (9, .varp 9 0), (11, AV.lst 11 Pod.av a0.Pods), (12, AV.int (List.length a0.Pods : Int)), (13, AV.int p8.2), (42, AV.bool (decide (x14_0.Node = [])))], [(9, (false, x14_0.cs)), (5, (true, [AV.str a2])), (4, (true, a1.cs)), (3, (true, a0.cs))], [], []⟩) (by kernel_rfl) ⟨hg18, hg19, hg20, hg21, trivial⟩ ?_
              exact hJ22 (decide (x14_0.Node = [])) _ (by first | rfl | (rw [hg18, hg19, hg20, hg21]; done) | (rw [hg18, hg19, hg20, hg21]; rfl) | (simp [hg18, hg19, hg20, hg21]; done) | (exfalso; revert hg18 hg19 hg20 hg21; simp; done) | (exfalso; revert hg18 hg19 hg20 hg21; simp; intros; assumption)) (Le.rfl')
  · rw [if_false hb] at h
    refine awp_exit ?_
    refine hN5 _ ?_
    refine awp_sr kpNone [] [] [6] (cs := []) (st' := ⟨50, [(6, AV.int p8.1)], [(5, (true, [AV.str a2])), (4, (true, a1.cs)), (3, (true, a0.cs))], [], []⟩) (by kernel_rfl) trivial ?_
    have h := Option.some.inj h
    subst h
    exact awp_ret ⟨[AV.int p8.1], by kernel_rfl, Lw.refl _⟩
def A218.l8 (a0 : State) (a1 : Pod) (a2 : Str) : (Int × Int) → Option Int := iterL (F218.l8 a0 a1 a2) 4096
def A218 (a0 : State) (a1 : Pod) (a2 : Str) : Option Int := F218 (A218.l8 a0 a1 a2) a0 a1 a2
theorem d218 (a0 : State) (a1 : Pod) (a2 : Str) (r : Int) (h : A218 a0 a1 a2 = some r) :
    Det Tryz.prog 218 [State.av a0, Pod.av a1, AV.str a2] (.ret (AV.int r)) := by
  exact c218 a0 a1 a2 (A218.l8 a0 a1 a2) (rounds_iter _ _) r h


-- slices.Sort[[]string,string]

-- alone
-- {"kind": "row", "S": "sortS", "thm": "d290"}
def lay190_ren : Go.Shelf.Ren := ⟨fun | 125 => 313 | 128 => 339 | 129 => 340 | 190 => 290 | 258 => 312 | 302 => 330 | 303 => 331 | 304 => 332 | 305 => 333 | 306 => 334 | 307 => 335 | 308 => 336 | 309 => 337 | 310 => 338 | 329 => 352 | 330 => 353 | 333 => 351 | 334 => 354 | 335 => 355 | 336 => 356 | 344 => 361 | n => n, fun | 0 => 0 | 3 => 3 | 4 => 4 | 5 => 5 | 9 => 9 | 31 => 64 | 46 => 316 | 51 => 383 | 53 => 326 | 131 => 186 | 182 => 375 | 183 => 376 | 218 => 389 | 222 => 393 | 228 => 402 | 229 => 403 | n => n, fun n => n⟩
theorem lay190 : Lays.n190 Tryz.prog lay190_ren := {
  mixed := by kernel_rfl,
  f125 := Tryz.func313.trans (congrArg some (by kernel_rfl)),
  f128 := Tryz.func339.trans (congrArg some (by kernel_rfl)),
  f129 := Tryz.func340.trans (congrArg some (by kernel_rfl)),
  f190 := Tryz.func290.trans (congrArg some (by kernel_rfl)),
  f258 := Tryz.func312.trans (congrArg some (by kernel_rfl)),
  f302 := Tryz.func330.trans (congrArg some (by kernel_rfl)),
  f303 := Tryz.func331.trans (congrArg some (by kernel_rfl)),
  f304 := Tryz.func332.trans (congrArg some (by kernel_rfl)),
  f305 := Tryz.func333.trans (congrArg some (by kernel_rfl)),
  f306 := Tryz.func334.trans (congrArg some (by kernel_rfl)),
  f307 := Tryz.func335.trans (congrArg some (by kernel_rfl)),
  f308 := Tryz.func336.trans (congrArg some (by kernel_rfl)),
  f309 := Tryz.func337.trans (congrArg some (by kernel_rfl)),
  f310 := Tryz.func338.trans (congrArg some (by kernel_rfl)),
  f329 := Tryz.func352.trans (congrArg some (by kernel_rfl)),
  f330 := Tryz.func353.trans (congrArg some (by kernel_rfl)),
  f333 := Tryz.func351.trans (congrArg some (by kernel_rfl)),
  f334 := Tryz.func354.trans (congrArg some (by kernel_rfl)),
  f335 := Tryz.func355.trans (congrArg some (by kernel_rfl)),
  f336 := Tryz.func356.trans (congrArg some (by kernel_rfl)),
  f344 := Tryz.func361.trans (congrArg some (by kernel_rfl)),
  t0 := Tryz.underlying0,
  a0 := Tryz.isAgg0,
  z0 := Tryz.sizeOf0,
  v0 := Tryz.zeroValue0,
  t3 := Tryz.underlying3,
  a3 := Tryz.isAgg3,
  z3 := Tryz.sizeOf3,
  v3 := Tryz.zeroValue3,
  t4 := Tryz.underlying4,
  a4 := Tryz.isAgg4,
  z4 := Tryz.sizeOf4,
  v4 := Tryz.zeroValue4,
  t5 := Tryz.underlying5,
  a5 := Tryz.isAgg5,
  z5 := Tryz.sizeOf5,
  v5 := Tryz.zeroValue5,
  t9 := Tryz.underlying9,
  a9 := Tryz.isAgg9,
  z9 := Tryz.sizeOf9,
  v9 := Tryz.zeroValue9,
  t31 := Tryz.underlying64,
  a31 := Tryz.isAgg64,
  z31 := Tryz.sizeOf64,
  v31 := Tryz.zeroValue64,
  t46 := Tryz.underlying316,
  a46 := Tryz.isAgg316,
  z46 := Tryz.sizeOf316,
  v46 := Tryz.zeroValue316,
  t51 := Tryz.underlying383,
  a51 := Tryz.isAgg383,
  z51 := Tryz.sizeOf383,
  v51 := Tryz.zeroValue383,
  t53 := Tryz.underlying326,
  a53 := Tryz.isAgg326,
  z53 := Tryz.sizeOf326,
  v53 := Tryz.zeroValue326,
  t131 := Tryz.underlying186,
  a131 := Tryz.isAgg186,
  z131 := Tryz.sizeOf186,
  v131 := Tryz.zeroValue186,
  t182 := Tryz.underlying375,
  a182 := Tryz.isAgg375,
  z182 := Tryz.sizeOf375,
  v182 := Tryz.zeroValue375,
  t183 := Tryz.underlying376,
  a183 := Tryz.isAgg376,
  z183 := Tryz.sizeOf376,
  v183 := Tryz.zeroValue376,
  t218 := Tryz.underlying389,
  a218 := Tryz.isAgg389,
  z218 := Tryz.sizeOf389,
  v218 := Tryz.zeroValue389,
  t222 := Tryz.underlying393,
  a222 := Tryz.isAgg393,
  z222 := Tryz.sizeOf393,
  v222 := Tryz.zeroValue393,
  t228 := Tryz.underlying402,
  a228 := Tryz.isAgg402,
  z228 := Tryz.sizeOf402,
  v228 := Tryz.zeroValue402,
  t229 := Tryz.underlying403,
  a229 := Tryz.isAgg403,
  z229 := Tryz.sizeOf403,
  v229 := Tryz.zeroValue403 }

theorem d290 : SortsS Tryz.prog 290 where
  ent := fun args w => by simp [callFunc, Tryz.func290, Tryz.f290]
  some := fun blk cap ss w h1 h2 h3 => by rw [sortS_eq]; exact Any.slices_Sort_string lay190 blk 0 cap ss w h1 h2 h3
  none := fun a cap w => Any.slices_Sort_string_none lay190 a cap w


-- slices.Compact[[]string,string]

-- alone
-- {"kind": "row", "S": "compS", "thm": "d291"}
def lay194_ren : Go.Shelf.Ren := ⟨fun | 194 => 291 | n => n, fun | 0 => 0 | 3 => 3 | 4 => 4 | 9 => 9 | 31 => 64 | n => n, fun n => n⟩
theorem lay194 : Lays.n194 Tryz.prog lay194_ren := {
  mixed := by kernel_rfl,
  f194 := Tryz.func291.trans (congrArg some (by kernel_rfl)),
  t0 := Tryz.underlying0,
  a0 := Tryz.isAgg0,
  z0 := Tryz.sizeOf0,
  v0 := Tryz.zeroValue0,
  t3 := Tryz.underlying3,
  a3 := Tryz.isAgg3,
  z3 := Tryz.sizeOf3,
  v3 := Tryz.zeroValue3,
  t4 := Tryz.underlying4,
  a4 := Tryz.isAgg4,
  z4 := Tryz.sizeOf4,
  v4 := Tryz.zeroValue4,
  t9 := Tryz.underlying9,
  a9 := Tryz.isAgg9,
  z9 := Tryz.sizeOf9,
  v9 := Tryz.zeroValue9,
  t31 := Tryz.underlying64,
  a31 := Tryz.isAgg64,
  z31 := Tryz.sizeOf64,
  v31 := Tryz.zeroValue64 }

theorem d291 : CompactsS Tryz.prog 291 where
  ent := fun args w => by simp [callFunc, Tryz.func291, Tryz.f291]
  some := fun blk cap zs w h1 h2 h3 => Any.slices_Compact_string lay194 blk 0 cap zs w h1 h2 h3
  none := fun a cap w => Any.slices_Compact_string_empty lay194 a cap w


-- spread.Domains
def F219.j19 (rec8 : (List Str × Int) → Option (List Str)) (p8 : List Str × Int) : (List Str) → Option (List Str) := fun p19 =>
  rec8 (p19, w64 (p8.2 + (1 : Int)))
def F219.l8 (a0 : State) (a1 : Str) (rec8 : (List Str × Int) → Option (List Str)) : (List Str × Int) → Option (List Str) := fun p8 =>
  if decide (p8.2 < (List.length a0.Nodes : Int)) = true then ((getI a0.Nodes p8.2).bind fun x14_0 => if (labelGet x14_0.Labels a1).2 = true then (if fits 16 (List.length (p8.1 ++ [(labelGet x14_0.Labels a1).1])) then (F219.j19 rec8 p8 (p8.1 ++ [(labelGet x14_0.Labels a1).1])) else none) else (F219.j19 rec8 p8 p8.1)) else (if List.length p8.1 < 4611686018427387904 then (if List.length (sortS p8.1) ≤ 9223372036854775807 then (some (compS (sortS p8.1))) else none) else none)
def F219 (l8 : (List Str × Int) → Option (List Str)) (a0 : State) (a1 : Str) : Option (List Str) :=
  l8 (([] : List Str), 0)
/-- ballast/spread.Domains -/
theorem c219 (a0 : State) (a1 : Str) (l8 : (List Str × Int) → Option (List Str)) (hl8 : Rounds (F219.l8 a0 a1) (l8)) (r : (List Str)) (h : F219 l8 a0 a1 = some r) :
    Det Tryz.prog 219 [State.av a0, AV.str a1] (.ret (AV.lst 1 AV.str r)) := by
  refine Det.of_le ?_
  refine @calls_of_body Tryz.prog 219 Tryz.f219 _ Tryz.func219 rfl (by kernel_rfl) [.tmp 4] (by rw [Tryz.results219]) 34 Tryz.ntmps219 _ _ _ (by simp only [List.length_cons, List.length_nil]; decide) ?_
  unfold F219 at h
  refine awp_sr kpNone [] [] [1, 2] (cs := []) (st' := ⟨34, [(1, AV.str a1), (2, .varp 2 0)], [(2, (false, a0.cs))], [], []⟩) (by kernel_rfl) trivial ?_
  refine awp_sr kpNone [] [] [1, 2, 5] (cs := []) (st' := ⟨34, [(1, AV.str a1), (2, .varp 2 0), (5, .nils)], [(2, (false, a0.cs))], [], []⟩) (by kernel_rfl) trivial ?_
  refine awp_seq fun N5 hN5 => ?_
  refine awp_sr kpNone [(2, AV.int (List.length a0.Nodes : Int))] [] [1, 5, 11, 12, 13] (cs := [((AV.int (List.length a0.Nodes : Int) = .val (.int .i64 (List.length (List.map Node.av a0.Nodes) : Int))))]) (st' := ⟨34, [(1, AV.str a1), (5, .nils), (11, AV.lst 5 Node.av a0.Nodes), (12, AV.int (List.length a0.Nodes : Int)), (13, AV.int 0)], [(2, (false, a0.cs))], [], []⟩) (by kernel_rfl) ⟨len_map _ _, trivial⟩ ?_
  refine awp_block ?_
  refine awp_loop ?_
  refine awpL_le (st' := ⟨34, [(1, AV.str a1), (5, .slice (.own 28) 1 (List.map AV.str ([] : List Str))), (11, AV.lst 5 Node.av a0.Nodes), (12, AV.int (List.length a0.Nodes : Int)), (13, AV.int 0)], [], [], [(28, (9, 1, List.length (List.map AV.str ([] : List Str))))]⟩) ?_ ?_
  · exact Le.mk rfl ⟨rfl, .inr ⟨rfl, rfl, rfl⟩, .inl rfl, rfl, rfl, trivial⟩ trivial ⟨⟨rfl, by decide⟩, trivial⟩ trivial
  refine awpL_fix hl8 r (fun p8 => ⟨34, [(1, AV.str a1), (5, .slice (.own 28) 1 (List.map AV.str p8.1)), (11, AV.lst 5 Node.av a0.Nodes), (12, AV.int (List.length a0.Nodes : Int)), (13, AV.int p8.2)], [], [], [(28, (9, 1, List.length (List.map AV.str p8.1)))]⟩) (fun rec8 hrec8 p8 h => ?_) (([] : List Str), 0) h
  unfold F219.l8 at h
  refine awpL_round ?_
  refine awp_sr kpNone [] [] [1, 5, 11, 12, 13, 14] (cs := []) (st' := ⟨34, [(1, AV.str a1), (5, .slice (.own 28) 1 (List.map AV.str p8.1)), (11, AV.lst 5 Node.av a0.Nodes), (12, AV.int (List.length a0.Nodes : Int)), (13, AV.int p8.2), (14, AV.bool (decide (p8.2 < (List.length a0.Nodes : Int))))], [], [], [(28, (9, 1, List.length (List.map AV.str p8.1)))]⟩) (by kernel_rfl) trivial ?_
  refine awp_seq fun N11 hN11 => ?_
  refine awp_cond (t := decide (p8.2 < (List.length a0.Nodes : Int))) rfl (fun hb => ?_) (fun hb => ?_)
  · rw [if_pos hb] at h
    refine awp_skip ?_
    refine hN11 _ ?_
    refine awp_seq fun N12 hN12 => ?_
    refine awp_block ?_
    obtain ⟨x14_0, hx14_0, h⟩ := Option.bind_eq_some_iff.1 h
    refine awp_sr kpNone [(0, Node.av x14_0)] [] [1, 5, 7, 11, 12, 13] (cs := [(0 ≤ p8.2), ((List.map Node.av a0.Nodes)[Int.toNat p8.2]? = some (Node.av x14_0))]) (st' := ⟨34, [(1, AV.str a1), (5, .slice (.own 28) 1 (List.map AV.str p8.1)), (7, .varp 7 0), (11, AV.lst 5 Node.av a0.Nodes), (12, AV.int (List.length a0.Nodes : Int)), (13, AV.int p8.2)], [(7, (false, x14_0.cs))], [], [(28, (9, 1, List.length (List.map AV.str p8.1)))]⟩) (by kernel_rfl) ⟨getI_le hx14_0, getI_map hx14_0 _, trivial⟩ ?_
    refine awp_sr kpNone [(3, .tuple [AV.str ((labelGet x14_0.Labels a1).1), AV.bool ((labelGet x14_0.Labels a1).2)])] [] [1, 5, 8, 9, 11, 12, 13] (cs := [(Det Tryz.prog 286 [AV.lst 2 Pair.av x14_0.Labels, AV.str a1] (.ret (.tuple [AV.str ((labelGet x14_0.Labels a1).1), AV.bool ((labelGet x14_0.Labels a1).2)])))]) (st' := ⟨34, [(1, AV.str a1), (5, .slice (.own 28) 1 (List.map AV.str p8.1)), (8, AV.str ((labelGet x14_0.Labels a1).1)), (9, AV.bool ((labelGet x14_0.Labels a1).2)), (11, AV.lst 5 Node.av a0.Nodes), (12, AV.int (List.length a0.Nodes : Int)), (13, AV.int p8.2)], [(7, (false, x14_0.cs))], [], [(28, (9, 1, List.length (List.map AV.str p8.1)))]⟩) (by kernel_rfl) ⟨d286 x14_0.Labels a1, trivial⟩ ?_
    refine awp_sr kpNone [] [] [1, 5, 8, 11, 12, 13, 24] (cs := []) (st' := ⟨34, [(1, AV.str a1), (5, .slice (.own 28) 1 (List.map AV.str p8.1)), (8, AV.str ((labelGet x14_0.Labels a1).1)), (11, AV.lst 5 Node.av a0.Nodes), (12, AV.int (List.length a0.Nodes : Int)), (13, AV.int p8.2), (24, AV.bool ((labelGet x14_0.Labels a1).2))], [(7, (false, x14_0.cs))], [], [(28, (9, 1, List.length (List.map AV.str p8.1)))]⟩) (by kernel_rfl) trivial ?_
    refine awp_to (σ := List Str) (fun p19 => ⟨34, [(1, AV.str a1), (5, .slice (.own 28) 1 (List.map AV.str p19)), (11, AV.lst 5 Node.av a0.Nodes), (12, AV.int (List.length a0.Nodes : Int)), (13, AV.int p8.2)], [(7, (false, x14_0.cs))], [], [(28, (9, 1, List.length (List.map AV.str p19)))]⟩) (fun p19 => F219.j19 rec8 p8 p19 = some r) (fun p19 h => ?_) (fun N19 hJ19 => ?_)
    · unfold F219.j19 at h
      refine hN12 _ ?_
      refine awp_reg kpNone [] [] [1, 5, 11, 12, 13] (cs := []) (st' := ⟨34, [(1, AV.str a1), (5, .slice (.own 28) 1 (List.map AV.str p19)), (11, AV.lst 5 Node.av a0.Nodes), (12, AV.int (List.length a0.Nodes : Int)), (13, AV.int (w64 (p8.2 + (1 : Int))))], [(7, (false, x14_0.cs))], [], [(28, (9, 1, List.length (List.map AV.str p19)))]⟩) (by kernel_rfl) trivial ?_
      refine awpL_le ?_ (hrec8 _ h)
      exact Le.mk rfl ⟨rfl, .inl ⟨rfl, rfl⟩, .inl rfl, rfl, rfl, trivial⟩ trivial ⟨rfl, trivial⟩ trivial
    · refine awp_cond (t := (labelGet x14_0.Labels a1).2) rfl (fun hb => ?_) (fun hb => ?_)
      · rw [if_pos hb] at h
        obtain ⟨hp21_3, h⟩ := guardP h
        refine awp_reg kpNone [(3, AV.lst 1 AV.str (p8.1 ++ [(labelGet x14_0.Labels a1).1]))] [] [1, 5, 11, 12, 13] (cs := [(List.length (List.map AV.str p8.1) = List.length (List.map AV.str p8.1)), (List.length (List.map AV.str (p8.1 ++ [(labelGet x14_0.Labels a1).1])) * 16 ≤ 140737488355328), (List.length (List.map AV.str (p8.1 ++ [(labelGet x14_0.Labels a1).1])) ≤ 140737488355328), (List.map AV.str p8.1 ++ List.map AV.str [(labelGet x14_0.Labels a1).1] = List.map AV.str (p8.1 ++ [(labelGet x14_0.Labels a1).1]))]) (st' := ⟨34, [(1, AV.str a1), (5, .slice (.own 28) 1 (List.map AV.str (p8.1 ++ [(labelGet x14_0.Labels a1).1]))), (11, AV.lst 5 Node.av a0.Nodes), (12, AV.int (List.length a0.Nodes : Int)), (13, AV.int p8.2)], [(7, (false, x14_0.cs))], [], [(28, (9, 1, List.length (List.map AV.str (p8.1 ++ [(labelGet x14_0.Labels a1).1])))), (27, (9, 1, 1))]⟩) (by kernel_rfl) ⟨by simp only [List.length_map, List.length_cons, List.length_nil], len_mul _ _ _ _ hp21_3.1, len_ge _ _ hp21_3.2, lst_app _ _ _, trivial⟩ ?_
        exact hJ19 (p8.1 ++ [(labelGet x14_0.Labels a1).1]) _ h (Le.mk rfl ⟨rfl, .inl ⟨rfl, rfl⟩, .inl rfl, rfl, rfl, trivial⟩ ⟨⟨rfl, ⟨rfl, .inl rfl, .inl rfl, .inl rfl, rfl, trivial⟩⟩, trivial⟩ ⟨rfl, trivial⟩ trivial)
      · rw [if_false hb] at h
        refine awp_skip ?_
        exact hJ19 p8.1 _ h (Le.mk rfl ⟨rfl, .inl ⟨rfl, rfl⟩, .inl rfl, rfl, rfl, trivial⟩ ⟨⟨rfl, ⟨rfl, .inl rfl, .inl rfl, .inl rfl, rfl, trivial⟩⟩, trivial⟩ ⟨rfl, trivial⟩ trivial)
  · rw [if_false hb] at h
    refine awp_exit ?_
    refine hN5 _ ?_
    refine awp_seq fun N22 hN22 => ?_
    obtain ⟨hp23, h⟩ := guardP h
    refine awp_sort d290 (t0 := 5) (i := 28) (e := 9) (ss := p8.1) rfl rfl rfl (show 30 < 34 by decide) (by decide) rfl rfl rfl (by decide) rfl rfl rfl hp23 ?_
    refine hN22 _ ?_
    refine awp_seq fun N24 hN24 => ?_
    obtain ⟨hp25, h⟩ := guardP h
    refine awp_compact d291 (t0 := 5) (i := 28) (e := 9) (ss := sortS p8.1) rfl rfl rfl (show 32 < 34 by decide) rfl rfl rfl (show 33 < 34 by decide) rfl rfl rfl (show 4 < 34 by decide) rfl rfl rfl hp25 ?_
    refine hN24 _ ?_
    have h := Option.some.inj h
    subst h
    exact awp_ret ⟨[AV.lst 1 AV.str (compS (sortS p8.1))], by kernel_rfl, Lw.refl _⟩
def A219.l8 (a0 : State) (a1 : Str) : (List Str × Int) → Option (List Str) := iterL (F219.l8 a0 a1) 4096
def A219 (a0 : State) (a1 : Str) : Option (List Str) := F219 (A219.l8 a0 a1) a0 a1
theorem d219 (a0 : State) (a1 : Str) (r : (List Str)) (h : A219 a0 a1 = some r) :
    Det Tryz.prog 219 [State.av a0, AV.str a1] (.ret (AV.lst 1 AV.str r)) := by
  exact c219 a0 a1 (A219.l8 a0 a1) (rounds_iter _ _) r h


-- spread.Skew$1
def F216.j19 (rec10 : (Int × Int) → Option ((Res Unit) × Int)) (p10 : Int × Int) : (Int) → Option ((Res Unit) × Int) := fun p19 =>
  rec10 (p19, w64 (p10.2 + (1 : Int)))
def F216.l10 (x9_3 : (List Str)) (x2_4 : Str) (a0 : State) (a2 : Pod) (x4_3 : Int) (rec10 : (Int × Int) → Option ((Res Unit) × Int)) : (Int × Int) → Option ((Res Unit) × Int) := fun p10 =>
  if decide (p10.2 < (List.length x9_3 : Int)) = true then ((getI x9_3 p10.2).bind fun x16_0 => if decide (¬ x16_0 = x2_4) = true then ((A218 a0 a2 x16_0).bind fun x21_4 => F216.j19 rec10 p10 (if x21_4 < p10.1 then x21_4 else p10.1)) else (F216.j19 rec10 p10 p10.1)) else (some ((.ret ()), w64 ((w64 (x4_3 + (1 : Int))) - p10.1)))
def F216 (l10 : ((List Str)) → (Str) → (Int) → (Int × Int) → Option ((Res Unit) × Int)) (a0 : State) (a1 : Str) (a2 : Pod) (a3 : Int) : Option ((Res Unit) × Int) :=
  thnX (F217 a0 a1 a2.Key) (fun e => some (.stop e, a3)) fun x2_4 => (A218 a0 a2 x2_4).bind fun x4_3 => (A219 a0 a2.Key).bind fun x9_3 => l10 x9_3 x2_4 x4_3 (w64 (x4_3 + (1 : Int)), 0)
/-- ballast/spread.Skew$1 -/
theorem c216 (a0 : State) (a1 : Str) (a2 : Pod) (a3 : Int) (l10 : ((List Str)) → (Str) → (Int) → (Int × Int) → Option ((Res Unit) × Int)) (hl10 : ∀ (x9_3 : (List Str)), ∀ (x2_4 : Str), ∀ (x4_3 : Int), Rounds (F216.l10 x9_3 x2_4 a0 a2 x4_3) (l10 x9_3 x2_4 x4_3)) (r : ((Res Unit) × Int)) (h : F216 l10 a0 a1 a2 a3 = some r) :
    DetX Tryz.prog 216 [.inp a0.cs, .inp [AV.str a1], .inp a2.cs, .extp 0 0] [[AV.int a3]] (Res.out 279 (fun q => .tuple []) r.1) [[AV.int r.2]] := by
  refine DetX.of_le ?_
  refine @calls_of_body Tryz.prog 216 Tryz.f216 _ Tryz.func216 rfl (by kernel_rfl) [] (by rw [Tryz.results216]) 42 Tryz.ntmps216 _ _ _ (by simp only [List.length_cons, List.length_nil]; decide) ?_
  unfold F216 at h
  refine awp_seq fun N1 hN1 => ?_
  rcases thnX_some h with ⟨e, hx2_4, h⟩ | ⟨x2_4, hx2_4, h⟩
  · have h := Option.some.inj h; subst h
    refine awp_panT kpNone [] [] 4 (v := AV.iface 279 (.agg [AV.int e])) (cs := [(Det Tryz.prog 217 [State.av a0, AV.str a1, AV.str a2.Key] (.panic (AV.iface 279 (.agg [AV.int e]))))]) (st' := ⟨42, [], [], [[AV.int a3]], []⟩) (by kernel_rfl) ⟨c217 a0 a1 a2.Key (.stop e) hx2_4, trivial⟩ ?_
    exact ⟨(Lw.refl _), ⟨⟨(Lw.refl _), trivial⟩, trivial⟩⟩
  refine awp_reg kpNone [(4, AV.str x2_4)] [] [0, 2, 3, 4] (cs := [(Det Tryz.prog 217 [State.av a0, AV.str a1, AV.str a2.Key] (.ret (AV.str x2_4)))]) (st' := ⟨42, [(0, .inp a0.cs), (2, .inp a2.cs), (3, .extp 0 0), (4, AV.str x2_4)], [], [[AV.int a3]], []⟩) (by kernel_rfl) ⟨c217 a0 a1 a2.Key (.ret x2_4) hx2_4, trivial⟩ ?_
  refine hN1 _ ?_
  obtain ⟨x4_3, hx4_3, h⟩ := Option.bind_eq_some_iff.1 h
  refine awp_sr kpNone [(3, AV.int x4_3)] [] [0, 2, 3, 4, 5] (cs := [(Det Tryz.prog 218 [State.av a0, Pod.av a2, AV.str x2_4] (.ret (AV.int x4_3)))]) (st' := ⟨42, [(0, .inp a0.cs), (2, .inp a2.cs), (3, .extp 0 0), (4, AV.str x2_4), (5, AV.int (w64 (x4_3 + (1 : Int))))], [], [[AV.int a3]], []⟩) (by kernel_rfl) ⟨d218 a0 a2 x2_4 _ hx4_3, trivial⟩ ?_
  refine awp_sr kpNone [] [] [0, 2, 3, 4, 5, 6] (cs := []) (st' := ⟨42, [(0, .inp a0.cs), (2, .inp a2.cs), (3, .extp 0 0), (4, AV.str x2_4), (5, AV.int (w64 (x4_3 + (1 : Int)))), (6, AV.int (w64 (x4_3 + (1 : Int))))], [], [[AV.int a3]], []⟩) (by kernel_rfl) trivial ?_
  refine awp_seq fun N7 hN7 => ?_
  obtain ⟨x9_3, hx9_3, h⟩ := Option.bind_eq_some_iff.1 h
  refine awp_sr kpNone [(3, AV.lst 1 AV.str x9_3), (4, AV.int (List.length x9_3 : Int))] [] [0, 2, 3, 4, 5, 6, 23, 24, 25] (cs := [(Det Tryz.prog 219 [State.av a0, AV.str a2.Key] (.ret (AV.lst 1 AV.str x9_3))), ((AV.int (List.length x9_3 : Int) = .val (.int .i64 (List.length (List.map AV.str x9_3) : Int))))]) (st' := ⟨42, [(0, .inp a0.cs), (2, .inp a2.cs), (3, .extp 0 0), (4, AV.str x2_4), (5, AV.int (w64 (x4_3 + (1 : Int)))), (6, AV.int (w64 (x4_3 + (1 : Int)))), (23, AV.lst 1 AV.str x9_3), (24, AV.int (List.length x9_3 : Int)), (25, AV.int 0)], [], [[AV.int a3]], []⟩) (by kernel_rfl) ⟨d219 a0 a2.Key _ hx9_3, len_map _ _, trivial⟩ ?_
  refine awp_block ?_
  refine awp_loop ?_
  refine awpL_le (st' := ⟨42, [(0, .inp a0.cs), (2, .inp a2.cs), (3, .extp 0 0), (4, AV.str x2_4), (5, AV.int (w64 (x4_3 + (1 : Int)))), (6, AV.int (w64 (x4_3 + (1 : Int)))), (23, AV.lst 1 AV.str x9_3), (24, AV.int (List.length x9_3 : Int)), (25, AV.int 0)], [], [[AV.int a3]], []⟩) ?_ ?_
  · exact Le.rfl'
  refine awpL_fix (hl10 x9_3 x2_4 x4_3) r (fun p10 => ⟨42, [(0, .inp a0.cs), (2, .inp a2.cs), (3, .extp 0 0), (4, AV.str x2_4), (5, AV.int (w64 (x4_3 + (1 : Int)))), (6, AV.int p10.1), (23, AV.lst 1 AV.str x9_3), (24, AV.int (List.length x9_3 : Int)), (25, AV.int p10.2)], [], [[AV.int a3]], []⟩) (fun rec10 hrec10 p10 h => ?_) (w64 (x4_3 + (1 : Int)), 0) h
  unfold F216.l10 at h
  refine awpL_round ?_
  refine awp_sr kpNone [] [] [0, 2, 3, 4, 5, 6, 23, 24, 25, 26] (cs := []) (st' := ⟨42, [(0, .inp a0.cs), (2, .inp a2.cs), (3, .extp 0 0), (4, AV.str x2_4), (5, AV.int (w64 (x4_3 + (1 : Int)))), (6, AV.int p10.1), (23, AV.lst 1 AV.str x9_3), (24, AV.int (List.length x9_3 : Int)), (25, AV.int p10.2), (26, AV.bool (decide (p10.2 < (List.length x9_3 : Int))))], [], [[AV.int a3]], []⟩) (by kernel_rfl) trivial ?_
  refine awp_seq fun N13 hN13 => ?_
  refine awp_cond (t := decide (p10.2 < (List.length x9_3 : Int))) rfl (fun hb => ?_) (fun hb => ?_)
  · rw [if_pos hb] at h
    refine awp_skip ?_
    refine hN13 _ ?_
    refine awp_seq fun N14 hN14 => ?_
    refine awp_block ?_
    obtain ⟨x16_0, hx16_0, h⟩ := Option.bind_eq_some_iff.1 h
    refine awp_sr kpNone [(0, AV.str x16_0)] [] [0, 2, 3, 4, 5, 6, 8, 23, 24, 25] (cs := [(0 ≤ p10.2), ((List.map AV.str x9_3)[Int.toNat p10.2]? = some (AV.str x16_0))]) (st' := ⟨42, [(0, .inp a0.cs), (2, .inp a2.cs), (3, .extp 0 0), (4, AV.str x2_4), (5, AV.int (w64 (x4_3 + (1 : Int)))), (6, AV.int p10.1), (8, AV.str x16_0), (23, AV.lst 1 AV.str x9_3), (24, AV.int (List.length x9_3 : Int)), (25, AV.int p10.2)], [], [[AV.int a3]], []⟩) (by kernel_rfl) ⟨getI_le hx16_0, getI_map hx16_0 _, trivial⟩ ?_
    refine awp_sr kpNone [] [] [0, 2, 3, 4, 5, 6, 8, 23, 24, 25, 31] (cs := []) (st' := ⟨42, [(0, .inp a0.cs), (2, .inp a2.cs), (3, .extp 0 0), (4, AV.str x2_4), (5, AV.int (w64 (x4_3 + (1 : Int)))), (6, AV.int p10.1), (8, AV.str x16_0), (23, AV.lst 1 AV.str x9_3), (24, AV.int (List.length x9_3 : Int)), (25, AV.int p10.2), (31, AV.bool (decide (¬ x16_0 = x2_4)))], [], [[AV.int a3]], []⟩) (by kernel_rfl) trivial ?_
    refine awp_to (σ := Int) (fun p19 => ⟨42, [(0, .inp a0.cs), (2, .inp a2.cs), (3, .extp 0 0), (4, AV.str x2_4), (5, AV.int (w64 (x4_3 + (1 : Int)))), (6, AV.int p19), (23, AV.lst 1 AV.str x9_3), (24, AV.int (List.length x9_3 : Int)), (25, AV.int p10.2)], [], [[AV.int a3]], []⟩) (fun p19 => F216.j19 rec10 p10 p19 = some r) (fun p19 h => ?_) (fun N19 hJ19 => ?_)
    · unfold F216.j19 at h
      refine hN14 _ ?_
      refine awp_reg kpNone [] [] [0, 2, 3, 4, 5, 6, 23, 24, 25] (cs := []) (st' := ⟨42, [(0, .inp a0.cs), (2, .inp a2.cs), (3, .extp 0 0), (4, AV.str x2_4), (5, AV.int (w64 (x4_3 + (1 : Int)))), (6, AV.int p19), (23, AV.lst 1 AV.str x9_3), (24, AV.int (List.length x9_3 : Int)), (25, AV.int (w64 (p10.2 + (1 : Int))))], [], [[AV.int a3]], []⟩) (by kernel_rfl) trivial ?_
      refine awpL_le ?_ (hrec10 _ h)
      exact Le.rfl'
    · refine awp_cond (t := decide (¬ x16_0 = x2_4)) rfl (fun hb => ?_) (fun hb => ?_)
      · rw [if_pos hb] at h
        obtain ⟨x21_4, hx21_4, h⟩ := Option.bind_eq_some_iff.1 h
        refine awp_reg kpNone [(4, AV.int x21_4)] [] [0, 2, 3, 4, 5, 6, 23, 24, 25] (cs := [(Det Tryz.prog 218 [State.av a0, Pod.av a2, AV.str x16_0] (.ret (AV.int x21_4)))]) (st' := ⟨42, [(0, .inp a0.cs), (2, .inp a2.cs), (3, .extp 0 0), (4, AV.str x2_4), (5, AV.int (w64 (x4_3 + (1 : Int)))), (6, AV.int (if x21_4 < p10.1 then x21_4 else p10.1)), (23, AV.lst 1 AV.str x9_3), (24, AV.int (List.length x9_3 : Int)), (25, AV.int p10.2)], [], [[AV.int a3]], []⟩) (by kernel_rfl) ⟨d218 a0 a2 x16_0 _ hx21_4, trivial⟩ ?_
        exact hJ19 (if x21_4 < p10.1 then x21_4 else p10.1) _ h (Le.rfl')
      · rw [if_false hb] at h
        refine awp_skip ?_
        exact hJ19 p10.1 _ h (Le.mk rfl ⟨rfl, rfl, rfl, rfl, rfl, rfl, .inl rfl, rfl, rfl, trivial⟩ trivial trivial ⟨⟨rfl, trivial⟩, trivial⟩)
  · rw [if_false hb] at h
    refine awp_exit ?_
    refine hN7 _ ?_
    refine awp_reg kpNone [] [] [] (cs := []) (st' := ⟨42, [], [], [[AV.int (w64 ((w64 (x4_3 + (1 : Int))) - p10.1))]], []⟩) (by kernel_rfl) trivial ?_
    have h := Option.some.inj h
    subst h
    try simp only [thenA, blockA, eq_self, if_true]
    exact (show endQ _ _ _ .normal _ from ⟨[], by kernel_rfl, ⟨(Lw.refl _), ⟨⟨(Lw.refl _), trivial⟩, trivial⟩⟩⟩)
def A216.l10 (a0 : State) (a1 : Str) (a2 : Pod) (a3 : Int) (x9_3 : (List Str)) (x2_4 : Str) (x4_3 : Int) : (Int × Int) → Option ((Res Unit) × Int) := iterL (F216.l10 x9_3 x2_4 a0 a2 x4_3) 4096
def A216 (a0 : State) (a1 : Str) (a2 : Pod) (a3 : Int) : Option ((Res Unit) × Int) := F216 (A216.l10 a0 a1 a2 a3) a0 a1 a2 a3
theorem d216 (a0 : State) (a1 : Str) (a2 : Pod) (a3 : Int) (r : ((Res Unit) × Int)) (h : A216 a0 a1 a2 a3 = some r) :
    DetX Tryz.prog 216 [.inp a0.cs, .inp [AV.str a1], .inp a2.cs, .extp 0 0] [[AV.int a3]] (Res.out 279 (fun q => .tuple []) r.1) [[AV.int r.2]] := by
  exact c216 a0 a1 a2 a3 (A216.l10 a0 a1 a2 a3) (fun _ _ _ => rounds_iter _ _) r h


-- spread.Skew
def F119 (a0 : State) (a1 : Pod) (a2 : Str) : Option (Int × Bool) :=
  if decide (a1.Key = []) = true then (some (0, true)) else ((A216 a0 a2 a1 0).bind fun x11_1 => some (x11_1.2, decide ((tryCode x11_1.1) = (0 : Int))))
/-- ballast/spread.Skew -/
theorem c119 (a0 : State) (a1 : Pod) (a2 : Str) (r : (Int × Bool)) (h : F119 a0 a1 a2 = some r) :
    Det Tryz.prog 119 [State.av a0, Pod.av a1, AV.str a2] (.ret (.tuple [AV.int r.1, AV.bool r.2])) := by
  refine Det.of_le ?_
  refine @calls_of_body Tryz.prog 119 Tryz.f119 _ Tryz.func119 rfl (by kernel_rfl) [.tmp 6, .tmp 7] (by rw [Tryz.results119]) 18 Tryz.ntmps119 _ _ _ (by simp only [List.length_cons, List.length_nil]; decide) ?_
  unfold F119 at h
  refine awp_sr (fun i => i == 8) [] [] [3, 4, 5] (cs := []) (st' := ⟨18, [(3, .varp 3 0), (4, .varp 4 0), (5, .varp 5 0)], [(5, (false, [AV.str a2])), (4, (false, a1.cs)), (3, (false, a0.cs))], [], []⟩) (by kernel_rfl) trivial ?_
  refine awp_seq fun N3 hN3 => ?_
  refine awp_sr (fun i => i == 8) [] [] [3, 4, 5, 12] (cs := []) (st' := ⟨18, [(3, .varp 3 0), (4, .varp 4 0), (5, .varp 5 0), (12, AV.bool (decide (a1.Key = [])))], [(5, (false, [AV.str a2])), (4, (false, a1.cs)), (3, (false, a0.cs))], [], []⟩) (by kernel_rfl) trivial ?_
  refine awp_cond (t := decide (a1.Key = [])) rfl (fun hb => ?_) (fun hb => ?_)
  · rw [if_pos hb] at h
    refine awp_sr (fun i => i == 8) [] [] [6, 7] (cs := []) (st' := ⟨18, [(6, AV.int 0), (7, AV.bool true)], [(5, (false, [AV.str a2])), (4, (false, a1.cs)), (3, (false, a0.cs))], [], []⟩) (by kernel_rfl) trivial ?_
    have h := Option.some.inj h
    subst h
    exact awp_ret ⟨[AV.int 0, AV.bool true], by kernel_rfl, Lw.refl _⟩
  · rw [if_false hb] at h
    refine awp_skip ?_
    refine hN3 _ ?_
    refine awp_sr (fun i => i == 8) [] [] [3, 4, 5, 8] (cs := []) (st' := ⟨18, [(3, .varp 3 0), (4, .varp 4 0), (5, .varp 5 0), (8, .varp 8 0)], [(8, (false, [AV.int 0])), (5, (false, [AV.str a2])), (4, (false, a1.cs)), (3, (false, a0.cs))], [], []⟩) (by kernel_rfl) trivial ?_
    refine awp_seq fun N10 hN10 => ?_
    obtain ⟨x11_1, hx11_1, h⟩ := Option.bind_eq_some_iff.1 h
    refine awp_regX (fun i => i == 8) [] [] [8, 9] 1 [8] [[AV.int x11_1.2]] (AV.int (tryCode x11_1.1)) (by decide) (cs := [(DetX Tryz.prog 113 [.func 216 [.inp a0.cs, .inp [AV.str a2], .inp a1.cs, .extp 0 0]] [[AV.int 0]] (.ret (AV.int (tryCode x11_1.1))) [[AV.int x11_1.2]])]) (st' := ⟨18, [(8, .varp 8 0), (9, AV.int (tryCode x11_1.1))], [(8, (false, [AV.int x11_1.2])), (4, (true, a1.cs)), (5, (true, [AV.str a2])), (3, (true, a0.cs))], [], []⟩) (by kernel_rfl) ⟨try_any (d216 a0 a2 a1 0 x11_1 hx11_1), trivial⟩ ?_
    refine hN10 _ ?_
    refine awp_sr (fun i => i == 8) [] [] [6, 7] (cs := []) (st' := ⟨18, [(6, AV.int x11_1.2), (7, AV.bool (decide ((tryCode x11_1.1) = (0 : Int))))], [(8, (false, [AV.int x11_1.2])), (4, (true, a1.cs)), (5, (true, [AV.str a2])), (3, (true, a0.cs))], [], []⟩) (by kernel_rfl) trivial ?_
    have h := Option.some.inj h
    subst h
    exact awp_ret ⟨[AV.int x11_1.2, AV.bool (decide ((tryCode x11_1.1) = (0 : Int)))], by kernel_rfl, Lw.refl _⟩


-- spread.Bad
def F230.j27 (rec8 : (List Str × Int) → Option (List Str)) (p8 : List Str × Int) : (List Str) → Option (List Str) := fun p27 =>
  rec8 (p27, w64 (p8.2 + (1 : Int)))
def F230.l8 (a0 : State) (rec8 : (List Str × Int) → Option (List Str)) : (List Str × Int) → Option (List Str) := fun p8 =>
  if decide (p8.2 < (List.length a0.Pods : Int)) = true then ((getI a0.Pods p8.2).bind fun x14_0 => if ((decide (x14_0.Node = [])) || (decide (x14_0.Key = []))) = true then (rec8 (p8.1, w64 (p8.2 + (1 : Int)))) else ((F119 a0 x14_0 x14_0.Node).bind fun x22_4 => if ((!x22_4.2) || (decide (x14_0.Most < x22_4.1))) = true then (if fits 16 (List.length (p8.1 ++ [x14_0.Name])) then (F230.j27 rec8 p8 (p8.1 ++ [x14_0.Name])) else none) else (F230.j27 rec8 p8 p8.1))) else (some p8.1)
def F230 (l8 : (List Str × Int) → Option (List Str)) (a0 : State) : Option (List Str) :=
  l8 (([] : List Str), 0)
/-- ballast/spread.Bad -/
theorem c230 (a0 : State) (l8 : (List Str × Int) → Option (List Str)) (hl8 : Rounds (F230.l8 a0) (l8)) (r : (List Str)) (h : F230 l8 a0 = some r) :
    Det Tryz.prog 230 [State.av a0] (.ret (AV.lst 1 AV.str r)) := by
  refine Det.of_le ?_
  refine @calls_of_body Tryz.prog 230 Tryz.f230 _ Tryz.func230 rfl (by kernel_rfl) [.tmp 2] (by rw [Tryz.results230]) 46 Tryz.ntmps230 _ _ _ (by simp only [List.length_cons, List.length_nil]; decide) ?_
  unfold F230 at h
  refine awp_sr kpNone [] [] [1] (cs := []) (st' := ⟨46, [(1, .varp 1 0)], [(1, (false, a0.cs))], [], []⟩) (by kernel_rfl) trivial ?_
  refine awp_sr kpNone [] [] [1, 3] (cs := []) (st' := ⟨46, [(1, .varp 1 0), (3, .nils)], [(1, (false, a0.cs))], [], []⟩) (by kernel_rfl) trivial ?_
  refine awp_seq fun N5 hN5 => ?_
  refine awp_sr kpNone [(2, AV.int (List.length a0.Pods : Int))] [] [1, 3, 9, 10, 11] (cs := [((AV.int (List.length a0.Pods : Int) = .val (.int .i64 (List.length (List.map Pod.av a0.Pods) : Int))))]) (st' := ⟨46, [(1, .varp 1 0), (3, .nils), (9, AV.lst 11 Pod.av a0.Pods), (10, AV.int (List.length a0.Pods : Int)), (11, AV.int 0)], [(1, (false, a0.cs))], [], []⟩) (by kernel_rfl) ⟨len_map _ _, trivial⟩ ?_
  refine awp_block ?_
  refine awp_loop ?_
  refine awpL_le (st' := ⟨46, [(1, .varp 1 0), (3, .slice (.own 43) 1 (List.map AV.str ([] : List Str))), (9, AV.lst 11 Pod.av a0.Pods), (10, AV.int (List.length a0.Pods : Int)), (11, AV.int 0)], [(1, (false, a0.cs))], [], [(43, (9, 1, List.length (List.map AV.str ([] : List Str))))]⟩) ?_ ?_
  · exact Le.mk rfl ⟨⟨rfl, rfl⟩, .inr ⟨rfl, rfl, rfl⟩, .inl rfl, rfl, rfl, trivial⟩ ⟨⟨rfl, ⟨.inl rfl, .inl rfl, .inl rfl, trivial⟩⟩, trivial⟩ ⟨⟨rfl, by decide⟩, trivial⟩ trivial
  refine awpL_fix hl8 r (fun p8 => ⟨46, [(1, .varp 1 0), (3, .slice (.own 43) 1 (List.map AV.str p8.1)), (9, AV.lst 11 Pod.av a0.Pods), (10, AV.int (List.length a0.Pods : Int)), (11, AV.int p8.2)], [(1, (false, a0.cs))], [], [(43, (9, 1, List.length (List.map AV.str p8.1)))]⟩) (fun rec8 hrec8 p8 h => ?_) (([] : List Str), 0) h
  unfold F230.l8 at h
  refine awpL_round ?_
  refine awp_sr kpNone [] [] [1, 3, 9, 10, 11, 12] (cs := []) (st' := ⟨46, [(1, .varp 1 0), (3, .slice (.own 43) 1 (List.map AV.str p8.1)), (9, AV.lst 11 Pod.av a0.Pods), (10, AV.int (List.length a0.Pods : Int)), (11, AV.int p8.2), (12, AV.bool (decide (p8.2 < (List.length a0.Pods : Int))))], [(1, (false, a0.cs))], [], [(43, (9, 1, List.length (List.map AV.str p8.1)))]⟩) (by kernel_rfl) trivial ?_
  refine awp_seq fun N11 hN11 => ?_
  refine awp_cond (t := decide (p8.2 < (List.length a0.Pods : Int))) rfl (fun hb => ?_) (fun hb => ?_)
  · rw [if_pos hb] at h
    refine awp_skip ?_
    refine hN11 _ ?_
    refine awp_seq fun N12 hN12 => ?_
    refine awp_block ?_
    obtain ⟨x14_0, hx14_0, h⟩ := Option.bind_eq_some_iff.1 h
    refine awp_sr kpNone [(0, Pod.av x14_0)] [] [1, 3, 5, 9, 10, 11] (cs := [(0 ≤ p8.2), ((List.map Pod.av a0.Pods)[Int.toNat p8.2]? = some (Pod.av x14_0))]) (st' := ⟨46, [(1, .varp 1 0), (3, .slice (.own 43) 1 (List.map AV.str p8.1)), (5, .varp 5 0), (9, AV.lst 11 Pod.av a0.Pods), (10, AV.int (List.length a0.Pods : Int)), (11, AV.int p8.2)], [(5, (false, x14_0.cs)), (1, (false, a0.cs))], [], [(43, (9, 1, List.length (List.map AV.str p8.1)))]⟩) (by kernel_rfl) ⟨getI_le hx14_0, getI_map hx14_0 _, trivial⟩ ?_
    refine awp_seq fun N15 hN15 => ?_
    refine awp_seq fun N16 hN16 => ?_
    refine awp_to (σ := Bool) (fun p => ⟨46, [(1, .varp 1 0), (3, .slice (.own 43) 1 (List.map AV.str p8.1)), (5, .varp 5 0), (9, AV.lst 11 Pod.av a0.Pods), (10, AV.int (List.length a0.Pods : Int)), (11, AV.int p8.2), (22, AV.bool p)], [(5, (false, x14_0.cs)), (1, (false, a0.cs))], [], [(43, (9, 1, List.length (List.map AV.str p8.1)))]⟩) (fun p => p = ((decide (x14_0.Node = [])) || (decide (x14_0.Key = [])))) (fun p hp => ?_) (fun N19 hJ19 => ?_)
    · subst hp
      refine hN16 _ ?_
      refine awp_cond (t := ((decide (x14_0.Node = [])) || (decide (x14_0.Key = [])))) rfl (fun hb => ?_) (fun hb => ?_)
      · rw [if_pos hb] at h
        refine awp_exit ?_
        refine hN12 _ ?_
        refine awp_reg kpNone [] [] [1, 3, 9, 10, 11] (cs := []) (st' := ⟨46, [(1, .varp 1 0), (3, .slice (.own 43) 1 (List.map AV.str p8.1)), (9, AV.lst 11 Pod.av a0.Pods), (10, AV.int (List.length a0.Pods : Int)), (11, AV.int (w64 (p8.2 + (1 : Int))))], [(5, (false, x14_0.cs)), (1, (false, a0.cs))], [], [(43, (9, 1, List.length (List.map AV.str p8.1)))]⟩) (by kernel_rfl) trivial ?_
        refine awpL_le ?_ (hrec8 _ h)
        exact Le.mk rfl ⟨⟨rfl, rfl⟩, .inl ⟨rfl, rfl⟩, .inl rfl, rfl, rfl, trivial⟩ ⟨⟨rfl, ⟨.inl rfl, .inl rfl, .inl rfl, trivial⟩⟩, trivial⟩ ⟨rfl, trivial⟩ trivial
      · rw [if_false hb] at h
        refine awp_skip ?_
        refine hN15 _ ?_
        obtain ⟨x22_4, hx22_4, h⟩ := Option.bind_eq_some_iff.1 h
        refine awp_sr kpNone [(4, .tuple [AV.int x22_4.1, AV.bool x22_4.2])] [] [1, 3, 5, 6, 7, 9, 10, 11] (cs := [(Det Tryz.prog 119 [State.av a0, Pod.av x14_0, AV.str x14_0.Node] (.ret (.tuple [AV.int x22_4.1, AV.bool x22_4.2])))]) (st' := ⟨46, [(1, .varp 1 0), (3, .slice (.own 43) 1 (List.map AV.str p8.1)), (5, .varp 5 0), (6, AV.int x22_4.1), (7, AV.bool x22_4.2), (9, AV.lst 11 Pod.av a0.Pods), (10, AV.int (List.length a0.Pods : Int)), (11, AV.int p8.2)], [(5, (false, x14_0.cs)), (1, (false, a0.cs))], [], [(43, (9, 1, List.length (List.map AV.str p8.1)))]⟩) (by kernel_rfl) ⟨c119 a0 x14_0 x14_0.Node _ hx22_4, trivial⟩ ?_
        refine awp_seq fun N23 hN23 => ?_
        refine awp_to (σ := Bool) (fun p => ⟨46, [(1, .varp 1 0), (3, .slice (.own 43) 1 (List.map AV.str p8.1)), (5, .varp 5 0), (9, AV.lst 11 Pod.av a0.Pods), (10, AV.int (List.length a0.Pods : Int)), (11, AV.int p8.2), (38, AV.bool p)], [(5, (false, x14_0.cs)), (1, (false, a0.cs))], [], [(43, (9, 1, List.length (List.map AV.str p8.1)))]⟩) (fun p => p = ((!x22_4.2) || (decide (x14_0.Most < x22_4.1)))) (fun p hp => ?_) (fun N26 hJ26 => ?_)
        · subst hp
          refine hN23 _ ?_
          refine awp_to (σ := List Str) (fun p27 => ⟨46, [(1, .varp 1 0), (3, .slice (.own 43) 1 (List.map AV.str p27)), (9, AV.lst 11 Pod.av a0.Pods), (10, AV.int (List.length a0.Pods : Int)), (11, AV.int p8.2)], [(5, (false, x14_0.cs)), (1, (false, a0.cs))], [], [(43, (9, 1, List.length (List.map AV.str p27)))]⟩) (fun p27 => F230.j27 rec8 p8 p27 = some r) (fun p27 h => ?_) (fun N27 hJ27 => ?_)
          · unfold F230.j27 at h
            refine hN12 _ ?_
            refine awp_reg kpNone [] [] [1, 3, 9, 10, 11] (cs := []) (st' := ⟨46, [(1, .varp 1 0), (3, .slice (.own 43) 1 (List.map AV.str p27)), (9, AV.lst 11 Pod.av a0.Pods), (10, AV.int (List.length a0.Pods : Int)), (11, AV.int (w64 (p8.2 + (1 : Int))))], [(5, (false, x14_0.cs)), (1, (false, a0.cs))], [], [(43, (9, 1, List.length (List.map AV.str p27)))]⟩) (by kernel_rfl) trivial ?_
            refine awpL_le ?_ (hrec8 _ h)
            exact Le.mk rfl ⟨⟨rfl, rfl⟩, .inl ⟨rfl, rfl⟩, .inl rfl, rfl, rfl, trivial⟩ ⟨⟨rfl, ⟨.inl rfl, .inl rfl, .inl rfl, trivial⟩⟩, trivial⟩ ⟨rfl, trivial⟩ trivial
          · refine awp_cond (t := ((!x22_4.2) || (decide (x14_0.Most < x22_4.1)))) rfl (fun hb => ?_) (fun hb => ?_)
            · rw [if_pos hb] at h
              obtain ⟨hp29_4, h⟩ := guardP h
              refine awp_reg kpNone [(4, AV.lst 1 AV.str (p8.1 ++ [x14_0.Name]))] [] [1, 3, 9, 10, 11] (cs := [(List.length (List.map AV.str p8.1) = List.length (List.map AV.str p8.1)), (List.length (List.map AV.str (p8.1 ++ [x14_0.Name])) * 16 ≤ 140737488355328), (List.length (List.map AV.str (p8.1 ++ [x14_0.Name])) ≤ 140737488355328), (List.map AV.str p8.1 ++ List.map AV.str [x14_0.Name] = List.map AV.str (p8.1 ++ [x14_0.Name]))]) (st' := ⟨46, [(1, .varp 1 0), (3, .slice (.own 43) 1 (List.map AV.str (p8.1 ++ [x14_0.Name]))), (9, AV.lst 11 Pod.av a0.Pods), (10, AV.int (List.length a0.Pods : Int)), (11, AV.int p8.2)], [(5, (false, x14_0.cs)), (1, (false, a0.cs))], [], [(43, (9, 1, List.length (List.map AV.str (p8.1 ++ [x14_0.Name])))), (42, (9, 1, 1))]⟩) (by kernel_rfl) ⟨by simp only [List.length_map, List.length_cons, List.length_nil], len_mul _ _ _ _ hp29_4.1, len_ge _ _ hp29_4.2, lst_app _ _ _, trivial⟩ ?_
              exact hJ27 (p8.1 ++ [x14_0.Name]) _ h (Le.mk rfl ⟨⟨rfl, rfl⟩, .inl ⟨rfl, rfl⟩, .inl rfl, rfl, rfl, trivial⟩ ⟨⟨rfl, ⟨rfl, rfl, rfl, .inl rfl, .inl rfl, .inl rfl, .inl rfl, rfl, rfl, rfl, rfl, trivial⟩⟩, ⟨rfl, ⟨.inl rfl, .inl rfl, .inl rfl, trivial⟩⟩, trivial⟩ ⟨rfl, trivial⟩ trivial)
            · rw [if_false hb] at h
              refine awp_skip ?_
              exact hJ27 p8.1 _ h (Le.mk rfl ⟨⟨rfl, rfl⟩, .inl ⟨rfl, rfl⟩, .inl rfl, rfl, rfl, trivial⟩ ⟨⟨rfl, ⟨rfl, rfl, rfl, .inl rfl, .inl rfl, .inl rfl, .inl rfl, rfl, rfl, rfl, rfl, trivial⟩⟩, ⟨rfl, ⟨.inl rfl, .inl rfl, .inl rfl, trivial⟩⟩, trivial⟩ ⟨rfl, trivial⟩ trivial)
        · by_cases hg25 : (!x22_4.2) = true
          · refine awp_reg kpNone [] [(2, true)] [1, 3, 5, 9, 10, 11, 38] (cs := [((!x22_4.2) = true)]) (st' := ⟨46, [(1, .varp 1 0), (3, .slice (.own 43) 1 (List.map AV.str p8.1)), (5, .varp 5 0), (9, AV.lst 11 Pod.av a0.Pods), (10, AV.int (List.length a0.Pods : Int)), (11, AV.int p8.2), (38, AV.bool true)], [(5, (false, x14_0.cs)), (1, (false, a0.cs))], [], [(43, (9, 1, List.length (List.map AV.str p8.1)))]⟩) (by kernel_rfl) ⟨hg25, trivial⟩ ?_
            exact hJ26 true _ (by first | rfl | (rw [hg25]; done) | (rw [hg25]; rfl) | (simp [hg25]; done) | (exfalso; revert hg25; simp; done) | (exfalso; revert hg25; simp; intros; assumption)) (Le.rfl')
          · have hg25 := Bool.eq_false_iff.2 hg25
            refine awp_reg kpNone [] [(2, false)] [1, 3, 5, 9, 10, 11, 38] (cs := [((!x22_4.2) = false)]) (st' := ⟨46, [(1, .varp 1 0), (3, .slice (.own 43) 1 (List.map AV.str p8.1)), (5, .varp 5 0), (9, AV.lst 11 Pod.av a0.Pods), (10, AV.int (List.length a0.Pods : Int)), (11, AV.int p8.2), (38, AV.bool (decide (x14_0.Most < x22_4.1)))], [(5, (false, x14_0.cs)), (1, (false, a0.cs))], [], [(43, (9, 1, List.length (List.map AV.str p8.1)))]⟩) (by kernel_rfl) ⟨hg25, trivial⟩ ?_
            exact hJ26 (decide (x14_0.Most < x22_4.1)) _ (by first | rfl | (rw [hg25]; done) | (rw [hg25]; rfl) | (simp [hg25]; done) | (exfalso; revert hg25; simp; done) | (exfalso; revert hg25; simp; intros; assumption)) (Le.rfl')
    · by_cases hg18 : decide (x14_0.Node = []) = true
      · refine awp_reg kpNone [] [(3, true)] [1, 3, 5, 9, 10, 11, 22] (cs := [(decide (x14_0.Node = []) = true)]) (st' := ⟨46, [(1, .varp 1 0), (3, .slice (.own 43) 1 (List.map AV.str p8.1)), (5, .varp 5 0), (9, AV.lst 11 Pod.av a0.Pods), (10, AV.int (List.length a0.Pods : Int)), (11, AV.int p8.2), (22, AV.bool true)], [(5, (false, x14_0.cs)), (1, (false, a0.cs))], [], [(43, (9, 1, List.length (List.map AV.str p8.1)))]⟩) (by kernel_rfl) ⟨hg18, trivial⟩ ?_
        exact hJ19 true _ (by first | rfl | (rw [hg18]; done) | (rw [hg18]; rfl) | (simp [hg18]; done) | (exfalso; revert hg18; simp; done) | (exfalso; revert hg18; simp; intros; assumption)) (Le.rfl')
      · have hg18 := Bool.eq_false_iff.2 hg18
        refine awp_reg kpNone [] [(3, false)] [1, 3, 5, 9, 10, 11, 22] (cs := [(decide (x14_0.Node = []) = false)]) (st' := ⟨46, [(1, .varp 1 0), (3, .slice (.own 43) 1 (List.map AV.str p8.1)), (5, .varp 5 0), (9, AV.lst 11 Pod.av a0.Pods), (10, AV.int (List.length a0.Pods : Int)), (11, AV.int p8.2), (22, AV.bool (decide (x14_0.Key = [])))], [(5, (false, x14_0.cs)), (1, (false, a0.cs))], [], [(43, (9, 1, List.length (List.map AV.str p8.1)))]⟩) (by kernel_rfl) ⟨hg18, trivial⟩ ?_
        exact hJ19 (decide (x14_0.Key = [])) _ (by first | rfl | (rw [hg18]; done) | (rw [hg18]; rfl) | (simp [hg18]; done) | (exfalso; revert hg18; simp; done) | (exfalso; revert hg18; simp; intros; assumption)) (Le.rfl')
  · rw [if_false hb] at h
    refine awp_exit ?_
    refine hN5 _ ?_
    refine awp_sr kpNone [] [] [2] (cs := []) (st' := ⟨46, [(2, .slice (.own 43) 1 (List.map AV.str p8.1))], [(1, (false, a0.cs))], [], [(43, (9, 1, List.length (List.map AV.str p8.1)))]⟩) (by kernel_rfl) trivial ?_
    have h := Option.some.inj h
    subst h
    exact awp_ret ⟨[.slice (.own 43) 1 (List.map AV.str p8.1)], by kernel_rfl, Lw.refl _⟩
def A230.l8 (a0 : State) : (List Str × Int) → Option (List Str) := iterL (F230.l8 a0) 4096
def A230 (a0 : State) : Option (List Str) := F230 (A230.l8 a0) a0
theorem d230 (a0 : State) (r : (List Str)) (h : A230 a0 = some r) :
    Det Tryz.prog 230 [State.av a0] (.ret (AV.lst 1 AV.str r)) := by
  exact c230 a0 (A230.l8 a0) (rounds_iter _ _) r h


-- slices.Index[[]string,string]
def F297.l6 (a0 : (List Str)) (a1 : Str) (rec6 : (Int) → Option Int) : (Int) → Option Int := fun p6 =>
  if decide (p6 < (List.length a0 : Int)) = true then ((getI a0 p6).bind fun x14_3 => if decide (a1 = x14_3) = true then (some p6) else (rec6 (w64 (p6 + (1 : Int))))) else (some (-1))
def F297 (l6 : (Int) → Option Int) (a0 : (List Str)) (a1 : Str) : Option Int :=
  l6 0
/-- slices.Index[[]string,string] -/
theorem c297 (a0 : (List Str)) (a1 : Str) (l6 : (Int) → Option Int) (hl6 : Rounds (F297.l6 a0 a1) (l6)) (r : Int) (h : F297 l6 a0 a1 = some r) :
    Det Tryz.prog 297 [AV.lst 1 AV.str a0, AV.str a1] (.ret (AV.int r)) := by
  refine Det.of_le ?_
  refine @calls_of_body Tryz.prog 297 Tryz.f297 _ Tryz.func297 rfl (by kernel_rfl) [.tmp 4] (by rw [Tryz.results297]) 19 Tryz.ntmps297 _ _ _ (by simp only [List.length_cons, List.length_nil]; decide) ?_
  unfold F297 at h
  refine awp_sr kpNone [] [] [0, 1] (cs := []) (st' := ⟨19, [(0, AV.lst 1 AV.str a0), (1, AV.str a1)], [], [], []⟩) (by kernel_rfl) trivial ?_
  refine awp_seq fun N3 hN3 => ?_
  refine awp_sr kpNone [(1, AV.int (List.length a0 : Int))] [] [0, 1, 7, 8] (cs := [((AV.int (List.length a0 : Int) = .val (.int .i64 (List.length (List.map AV.str a0) : Int))))]) (st' := ⟨19, [(0, AV.lst 1 AV.str a0), (1, AV.str a1), (7, AV.int (List.length a0 : Int)), (8, AV.int 0)], [], [], []⟩) (by kernel_rfl) ⟨len_map _ _, trivial⟩ ?_
  refine awp_block ?_
  refine awp_loop ?_
  refine awpL_le (st' := ⟨19, [(0, AV.lst 1 AV.str a0), (1, AV.str a1), (7, AV.int (List.length a0 : Int)), (8, AV.int 0)], [], [], []⟩) ?_ ?_
  · exact Le.rfl'
  refine awpL_fix hl6 r (fun p6 => ⟨19, [(0, AV.lst 1 AV.str a0), (1, AV.str a1), (7, AV.int (List.length a0 : Int)), (8, AV.int p6)], [], [], []⟩) (fun rec6 hrec6 p6 h => ?_) 0 h
  unfold F297.l6 at h
  refine awpL_round ?_
  refine awp_sr kpNone [] [] [0, 1, 7, 8, 9] (cs := []) (st' := ⟨19, [(0, AV.lst 1 AV.str a0), (1, AV.str a1), (7, AV.int (List.length a0 : Int)), (8, AV.int p6), (9, AV.bool (decide (p6 < (List.length a0 : Int))))], [], [], []⟩) (by kernel_rfl) trivial ?_
  refine awp_seq fun N9 hN9 => ?_
  refine awp_cond (t := decide (p6 < (List.length a0 : Int))) rfl (fun hb => ?_) (fun hb => ?_)
  · rw [if_pos hb] at h
    refine awp_skip ?_
    refine hN9 _ ?_
    refine awp_seq fun N10 hN10 => ?_
    refine awp_block ?_
    refine awp_sr kpNone [] [] [0, 1, 5, 7, 8] (cs := []) (st' := ⟨19, [(0, AV.lst 1 AV.str a0), (1, AV.str a1), (5, AV.int p6), (7, AV.int (List.length a0 : Int)), (8, AV.int p6)], [], [], []⟩) (by kernel_rfl) trivial ?_
    obtain ⟨x14_3, hx14_3, h⟩ := Option.bind_eq_some_iff.1 h
    refine awp_sr kpNone [(3, AV.str x14_3)] [] [0, 1, 5, 7, 8, 16] (cs := [(0 ≤ p6), ((List.map AV.str a0)[Int.toNat p6]? = some (AV.str x14_3))]) (st' := ⟨19, [(0, AV.lst 1 AV.str a0), (1, AV.str a1), (5, AV.int p6), (7, AV.int (List.length a0 : Int)), (8, AV.int p6), (16, AV.bool (decide (a1 = x14_3)))], [], [], []⟩) (by kernel_rfl) ⟨getI_le hx14_3, getI_map hx14_3 _, trivial⟩ ?_
    refine awp_cond (t := decide (a1 = x14_3)) rfl (fun hb => ?_) (fun hb => ?_)
    · rw [if_pos hb] at h
      refine awp_sr kpNone [] [] [4] (cs := []) (st' := ⟨19, [(4, AV.int p6)], [], [], []⟩) (by kernel_rfl) trivial ?_
      have h := Option.some.inj h
      subst h
      exact awp_ret ⟨[AV.int p6], by kernel_rfl, Lw.refl _⟩
    · rw [if_false hb] at h
      refine awp_skip ?_
      refine hN10 _ ?_
      refine awp_reg kpNone [] [] [0, 1, 7, 8] (cs := []) (st' := ⟨19, [(0, AV.lst 1 AV.str a0), (1, AV.str a1), (7, AV.int (List.length a0 : Int)), (8, AV.int (w64 (p6 + (1 : Int))))], [], [], []⟩) (by kernel_rfl) trivial ?_
      refine awpL_le ?_ (hrec6 _ h)
      exact Le.rfl'
  · rw [if_false hb] at h
    refine awp_exit ?_
    refine hN3 _ ?_
    refine awp_sr kpNone [] [] [4] (cs := []) (st' := ⟨19, [(4, AV.int (-1))], [], [], []⟩) (by kernel_rfl) trivial ?_
    have h := Option.some.inj h
    subst h
    exact awp_ret ⟨[AV.int (-1)], by kernel_rfl, Lw.refl _⟩
def A297.l6 (a0 : (List Str)) (a1 : Str) : (Int) → Option Int := iterL (F297.l6 a0 a1) 4096
def A297 (a0 : (List Str)) (a1 : Str) : Option Int := F297 (A297.l6 a0 a1) a0 a1
theorem d297 (a0 : (List Str)) (a1 : Str) (r : Int) (h : A297 a0 a1 = some r) :
    Det Tryz.prog 297 [AV.lst 1 AV.str a0, AV.str a1] (.ret (AV.int r)) := by
  exact c297 a0 a1 (A297.l6 a0 a1) (rounds_iter _ _) r h


-- slices.Contains[[]string,string]
def F232 (a0 : (List Str)) (a1 : Str) : Option Bool :=
  (A297 a0 a1).bind fun x4_2 => some (decide ((0 : Int) ≤ x4_2))
/-- slices.Contains[[]string,string] -/
theorem c232 (a0 : (List Str)) (a1 : Str) (r : Bool) (h : F232 a0 a1 = some r) :
    Det Tryz.prog 232 [AV.lst 1 AV.str a0, AV.str a1] (.ret (AV.bool r)) := by
  refine Det.of_le ?_
  refine @calls_of_body Tryz.prog 232 Tryz.f232 _ Tryz.func232 rfl (by kernel_rfl) [.tmp 4] (by rw [Tryz.results232]) 9 Tryz.ntmps232 _ _ _ (by simp only [List.length_cons, List.length_nil]; decide) ?_
  unfold F232 at h
  refine awp_sr kpNone [] [] [0, 1] (cs := []) (st' := ⟨9, [(0, AV.lst 1 AV.str a0), (1, AV.str a1)], [], [], []⟩) (by kernel_rfl) trivial ?_
  obtain ⟨x4_2, hx4_2, h⟩ := Option.bind_eq_some_iff.1 h
  refine awp_sr kpNone [(2, AV.int x4_2)] [] [4] (cs := [(Det Tryz.prog 297 [AV.lst 1 AV.str a0, AV.str a1] (.ret (AV.int x4_2)))]) (st' := ⟨9, [(4, AV.bool (decide ((0 : Int) ≤ x4_2)))], [], [], []⟩) (by kernel_rfl) ⟨d297 a0 a1 _ hx4_2, trivial⟩ ?_
  have h := Option.some.inj h
  subst h
  exact awp_ret ⟨[AV.bool (decide ((0 : Int) ≤ x4_2))], by kernel_rfl, Lw.refl _⟩


-- strat.bad$2
def F231 (a0 : Pod) (a1 : (List Str)) : Option Bool :=
  (F232 a1 a0.Name).bind fun x4_3 => some x4_3
/-- ballast/strat.bad$2 -/
theorem c231 (a0 : Pod) (a1 : (List Str)) (r : Bool) (h : F231 a0 a1 = some r) :
    Det Tryz.prog 231 [Pod.av a0, .inp [AV.lst 1 AV.str a1]] (.ret (AV.bool r)) := by
  refine Det.of_le ?_
  refine @calls_of_body Tryz.prog 231 Tryz.f231 _ Tryz.func231 rfl (by kernel_rfl) [.tmp 3] (by rw [Tryz.results231]) 8 Tryz.ntmps231 _ _ _ (by simp only [List.length_cons, List.length_nil]; decide) ?_
  unfold F231 at h
  refine awp_sr kpNone [] [] [1, 2] (cs := []) (st' := ⟨8, [(1, .inp [AV.lst 1 AV.str a1]), (2, .varp 2 0)], [(2, (false, a0.cs))], [], []⟩) (by kernel_rfl) trivial ?_
  obtain ⟨x4_3, hx4_3, h⟩ := Option.bind_eq_some_iff.1 h
  refine awp_sr kpNone [(3, AV.bool x4_3)] [] [3] (cs := [(Det Tryz.prog 232 [AV.lst 1 AV.str a1, AV.str a0.Name] (.ret (AV.bool x4_3)))]) (st' := ⟨8, [(3, AV.bool x4_3)], [(2, (false, a0.cs))], [], []⟩) (by kernel_rfl) ⟨c232 a1 a0.Name _ hx4_3, trivial⟩ ?_
  have h := Option.some.inj h
  subst h
  exact awp_ret ⟨[AV.bool x4_3], by kernel_rfl, Lw.refl _⟩


-- state.On
def F50.j19 (rec8 : (List Pod × Int) → Option (List Pod)) (p8 : List Pod × Int) : (List Pod) → Option (List Pod) := fun p19 =>
  rec8 (p19, w64 (p8.2 + (1 : Int)))
def F50.l8 (a0 : State) (a1 : Str) (rec8 : (List Pod × Int) → Option (List Pod)) : (List Pod × Int) → Option (List Pod) := fun p8 =>
  if decide (p8.2 < (List.length a0.Pods : Int)) = true then ((getI a0.Pods p8.2).bind fun x14_0 => if ((decide (x14_0.Node = a1)) && (decide (¬ a1 = []))) = true then (if fits 184 (List.length (p8.1 ++ [x14_0])) then (F50.j19 rec8 p8 (p8.1 ++ [x14_0])) else none) else (F50.j19 rec8 p8 p8.1)) else (some p8.1)
def F50 (l8 : (List Pod × Int) → Option (List Pod)) (a0 : State) (a1 : Str) : Option (List Pod) :=
  l8 (([] : List Pod), 0)
/-- ballast/state.On -/
theorem c50 (a0 : State) (a1 : Str) (l8 : (List Pod × Int) → Option (List Pod)) (hl8 : Rounds (F50.l8 a0 a1) (l8)) (r : (List Pod)) (h : F50 l8 a0 a1 = some r) :
    Det Tryz.prog 50 [State.av a0, AV.str a1] (.ret (AV.lst 11 Pod.av r)) := by
  refine Det.of_le ?_
  refine @calls_of_body Tryz.prog 50 Tryz.f50 _ Tryz.func50 rfl (by kernel_rfl) [.tmp 4] (by rw [Tryz.results50]) 29 Tryz.ntmps50 _ _ _ (by simp only [List.length_cons, List.length_nil]; decide) ?_
  unfold F50 at h
  refine awp_sr kpNone [] [] [1, 2] (cs := []) (st' := ⟨29, [(1, AV.str a1), (2, .varp 2 0)], [(2, (false, a0.cs))], [], []⟩) (by kernel_rfl) trivial ?_
  refine awp_sr kpNone [] [] [1, 2, 5] (cs := []) (st' := ⟨29, [(1, AV.str a1), (2, .varp 2 0), (5, .nils)], [(2, (false, a0.cs))], [], []⟩) (by kernel_rfl) trivial ?_
  refine awp_seq fun N5 hN5 => ?_
  refine awp_sr kpNone [(2, AV.int (List.length a0.Pods : Int))] [] [1, 5, 9, 10, 11] (cs := [((AV.int (List.length a0.Pods : Int) = .val (.int .i64 (List.length (List.map Pod.av a0.Pods) : Int))))]) (st' := ⟨29, [(1, AV.str a1), (5, .nils), (9, AV.lst 11 Pod.av a0.Pods), (10, AV.int (List.length a0.Pods : Int)), (11, AV.int 0)], [(2, (false, a0.cs))], [], []⟩) (by kernel_rfl) ⟨len_map _ _, trivial⟩ ?_
  refine awp_block ?_
  refine awp_loop ?_
  refine awpL_le (st' := ⟨29, [(1, AV.str a1), (5, .slice (.own 26) 11 (List.map Pod.av ([] : List Pod))), (9, AV.lst 11 Pod.av a0.Pods), (10, AV.int (List.length a0.Pods : Int)), (11, AV.int 0)], [], [], [(26, (44, 11, List.length (List.map Pod.av ([] : List Pod))))]⟩) ?_ ?_
  · exact Le.mk rfl ⟨rfl, .inr ⟨rfl, rfl, rfl⟩, .inl rfl, rfl, rfl, trivial⟩ trivial ⟨⟨rfl, by decide⟩, trivial⟩ trivial
  refine awpL_fix hl8 r (fun p8 => ⟨29, [(1, AV.str a1), (5, .slice (.own 26) 11 (List.map Pod.av p8.1)), (9, AV.lst 11 Pod.av a0.Pods), (10, AV.int (List.length a0.Pods : Int)), (11, AV.int p8.2)], [], [], [(26, (44, 11, List.length (List.map Pod.av p8.1)))]⟩) (fun rec8 hrec8 p8 h => ?_) (([] : List Pod), 0) h
  unfold F50.l8 at h
  refine awpL_round ?_
  refine awp_sr kpNone [] [] [1, 5, 9, 10, 11, 12] (cs := []) (st' := ⟨29, [(1, AV.str a1), (5, .slice (.own 26) 11 (List.map Pod.av p8.1)), (9, AV.lst 11 Pod.av a0.Pods), (10, AV.int (List.length a0.Pods : Int)), (11, AV.int p8.2), (12, AV.bool (decide (p8.2 < (List.length a0.Pods : Int))))], [], [], [(26, (44, 11, List.length (List.map Pod.av p8.1)))]⟩) (by kernel_rfl) trivial ?_
  refine awp_seq fun N11 hN11 => ?_
  refine awp_cond (t := decide (p8.2 < (List.length a0.Pods : Int))) rfl (fun hb => ?_) (fun hb => ?_)
  · rw [if_pos hb] at h
    refine awp_skip ?_
    refine hN11 _ ?_
    refine awp_seq fun N12 hN12 => ?_
    refine awp_block ?_
    obtain ⟨x14_0, hx14_0, h⟩ := Option.bind_eq_some_iff.1 h
    refine awp_sr kpNone [(0, Pod.av x14_0)] [] [1, 5, 7, 9, 10, 11] (cs := [(0 ≤ p8.2), ((List.map Pod.av a0.Pods)[Int.toNat p8.2]? = some (Pod.av x14_0))]) (st' := ⟨29, [(1, AV.str a1), (5, .slice (.own 26) 11 (List.map Pod.av p8.1)), (7, .varp 7 0), (9, AV.lst 11 Pod.av a0.Pods), (10, AV.int (List.length a0.Pods : Int)), (11, AV.int p8.2)], [(7, (false, x14_0.cs))], [], [(26, (44, 11, List.length (List.map Pod.av p8.1)))]⟩) (by kernel_rfl) ⟨getI_le hx14_0, getI_map hx14_0 _, trivial⟩ ?_
    refine awp_seq fun N15 hN15 => ?_
    refine awp_to (σ := Bool) (fun p => ⟨29, [(1, AV.str a1), (5, .slice (.own 26) 11 (List.map Pod.av p8.1)), (7, .varp 7 0), (9, AV.lst 11 Pod.av a0.Pods), (10, AV.int (List.length a0.Pods : Int)), (11, AV.int p8.2), (22, AV.bool p)], [(7, (false, x14_0.cs))], [], [(26, (44, 11, List.length (List.map Pod.av p8.1)))]⟩) (fun p => p = ((decide (x14_0.Node = a1)) && (decide (¬ a1 = [])))) (fun p hp => ?_) (fun N18 hJ18 => ?_)
    · subst hp
      refine hN15 _ ?_
      refine awp_to (σ := List Pod) (fun p19 => ⟨29, [(1, AV.str a1), (5, .slice (.own 26) 11 (List.map Pod.av p19)), (9, AV.lst 11 Pod.av a0.Pods), (10, AV.int (List.length a0.Pods : Int)), (11, AV.int p8.2)], [(7, (false, x14_0.cs))], [], [(26, (44, 11, List.length (List.map Pod.av p19)))]⟩) (fun p19 => F50.j19 rec8 p8 p19 = some r) (fun p19 h => ?_) (fun N19 hJ19 => ?_)
      · unfold F50.j19 at h
        refine hN12 _ ?_
        refine awp_reg kpNone [] [] [1, 5, 9, 10, 11] (cs := []) (st' := ⟨29, [(1, AV.str a1), (5, .slice (.own 26) 11 (List.map Pod.av p19)), (9, AV.lst 11 Pod.av a0.Pods), (10, AV.int (List.length a0.Pods : Int)), (11, AV.int (w64 (p8.2 + (1 : Int))))], [(7, (false, x14_0.cs))], [], [(26, (44, 11, List.length (List.map Pod.av p19)))]⟩) (by kernel_rfl) trivial ?_
        refine awpL_le ?_ (hrec8 _ h)
        exact Le.mk rfl ⟨rfl, .inl ⟨rfl, rfl⟩, .inl rfl, rfl, rfl, trivial⟩ trivial ⟨rfl, trivial⟩ trivial
      · refine awp_cond (t := ((decide (x14_0.Node = a1)) && (decide (¬ a1 = [])))) rfl (fun hb => ?_) (fun hb => ?_)
        · rw [if_pos hb] at h
          obtain ⟨hp21_3, h⟩ := guardP h
          refine awp_reg kpNone [(3, AV.lst 11 Pod.av (p8.1 ++ [x14_0]))] [] [1, 5, 9, 10, 11] (cs := [(List.length (List.map Pod.av p8.1) = List.length (List.map Pod.av p8.1)), (List.length (List.map Pod.av (p8.1 ++ [x14_0])) * 184 ≤ 140737488355328), (List.length (List.map Pod.av (p8.1 ++ [x14_0])) ≤ 140737488355328), (List.map Pod.av p8.1 ++ List.map Pod.av [x14_0] = List.map Pod.av (p8.1 ++ [x14_0]))]) (st' := ⟨29, [(1, AV.str a1), (5, .slice (.own 26) 11 (List.map Pod.av (p8.1 ++ [x14_0]))), (9, AV.lst 11 Pod.av a0.Pods), (10, AV.int (List.length a0.Pods : Int)), (11, AV.int p8.2)], [(7, (false, x14_0.cs))], [], [(26, (44, 11, List.length (List.map Pod.av (p8.1 ++ [x14_0])))), (25, (44, 11, 1))]⟩) (by kernel_rfl) ⟨by simp only [List.length_map, List.length_cons, List.length_nil], len_mul _ _ _ _ hp21_3.1, len_ge _ _ hp21_3.2, lst_app _ _ _, trivial⟩ ?_
          exact hJ19 (p8.1 ++ [x14_0]) _ h (Le.mk rfl ⟨rfl, .inl ⟨rfl, rfl⟩, .inl rfl, rfl, rfl, trivial⟩ ⟨⟨rfl, ⟨rfl, rfl, rfl, .inl rfl, .inl rfl, .inl rfl, .inl rfl, rfl, rfl, rfl, rfl, trivial⟩⟩, trivial⟩ ⟨rfl, trivial⟩ trivial)
        · rw [if_false hb] at h
          refine awp_skip ?_
          exact hJ19 p8.1 _ h (Le.mk rfl ⟨rfl, .inl ⟨rfl, rfl⟩, .inl rfl, rfl, rfl, trivial⟩ ⟨⟨rfl, ⟨rfl, rfl, rfl, .inl rfl, .inl rfl, .inl rfl, .inl rfl, rfl, rfl, rfl, rfl, trivial⟩⟩, trivial⟩ ⟨rfl, trivial⟩ trivial)
    · by_cases hg17 : decide (x14_0.Node = a1) = true
      · refine awp_reg kpNone [] [(4, true)] [1, 5, 7, 9, 10, 11, 22] (cs := [(decide (x14_0.Node = a1) = true)]) (st' := ⟨29, [(1, AV.str a1), (5, .slice (.own 26) 11 (List.map Pod.av p8.1)), (7, .varp 7 0), (9, AV.lst 11 Pod.av a0.Pods), (10, AV.int (List.length a0.Pods : Int)), (11, AV.int p8.2), (22, AV.bool (decide (¬ a1 = [])))], [(7, (false, x14_0.cs))], [], [(26, (44, 11, List.length (List.map Pod.av p8.1)))]⟩) (by kernel_rfl) ⟨hg17, trivial⟩ ?_
        exact hJ18 (decide (¬ a1 = [])) _ (by first | rfl | (rw [hg17]; done) | (rw [hg17]; rfl) | (simp [hg17]; done) | (exfalso; revert hg17; simp; done) | (exfalso; revert hg17; simp; intros; assumption)) (Le.rfl')
      · have hg17 := Bool.eq_false_iff.2 hg17
        refine awp_reg kpNone [] [(4, false)] [1, 5, 7, 9, 10, 11, 22] (cs := [(decide (x14_0.Node = a1) = false)]) (st' := ⟨29, [(1, AV.str a1), (5, .slice (.own 26) 11 (List.map Pod.av p8.1)), (7, .varp 7 0), (9, AV.lst 11 Pod.av a0.Pods), (10, AV.int (List.length a0.Pods : Int)), (11, AV.int p8.2), (22, AV.bool false)], [(7, (false, x14_0.cs))], [], [(26, (44, 11, List.length (List.map Pod.av p8.1)))]⟩) (by kernel_rfl) ⟨hg17, trivial⟩ ?_
        exact hJ18 false _ (by first | rfl | (rw [hg17]; done) | (rw [hg17]; rfl) | (simp [hg17]; done) | (exfalso; revert hg17; simp; done) | (exfalso; revert hg17; simp; intros; assumption)) (Le.rfl')
  · rw [if_false hb] at h
    refine awp_exit ?_
    refine hN5 _ ?_
    refine awp_sr kpNone [] [] [4] (cs := []) (st' := ⟨29, [(4, .slice (.own 26) 11 (List.map Pod.av p8.1))], [], [], [(26, (44, 11, List.length (List.map Pod.av p8.1)))]⟩) (by kernel_rfl) trivial ?_
    have h := Option.some.inj h
    subst h
    exact awp_ret ⟨[.slice (.own 26) 11 (List.map Pod.av p8.1)], by kernel_rfl, Lw.refl _⟩
-- {"kind": "opt", "S": "onF", "thm": "d50"}
theorem d50 (a0 : State) (a1 : Str) (r : List Pod) (h : onF a0 a1 = some r) : Det Tryz.prog 50 [State.av a0, AV.str a1] (.ret (AV.lst 11 Pod.av r)) := by
  refine Det.lenF 0 1 rfl rfl fun hl => ?_
  refine c50 a0 a1 _ (rounds_fold a0.Pods hl (fun b t => filtF 184 (onNode a1) b t) _ ?_ ?_) _ ?_
  · intro rec b r h
    obtain ⟨_, rfl⟩ := filtF_some h
    simp [F50.l8]
  · intro rec p b x t r h0 h1 hx hr hw h
    simp only [F50.l8, F50.j19, hx, hw, h1, decide_true, if_true, Option.bind_some]
    by_cases hf : onNode a1 x = true
    · obtain ⟨h2, h3⟩ := filtF_yes h hf
      rw [if_pos (show (decide (x.Node = a1) && decide ¬a1 = []) = true from hf), if_pos h2]
      exact hr _ _ h3
    · rw [if_neg (show ¬ (decide (x.Node = a1) && decide ¬a1 = []) = true from hf)]
      exact hr _ _ (filtF_no h (Bool.eq_false_iff.2 hf))
  · simpa [F50, onF] using h


end Go.Proofs.Eng
