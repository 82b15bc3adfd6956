/- Printed walks and contracts. -/
import Derived.Test.YtdolhcmhdjmoeaaGreatDoorEngX7
set_option linter.unusedSimpArgs false
set_option linter.unusedVariables false
set_option maxRecDepth 100000
namespace Go.Proofs.Eng
open Go Go.Proofs Go.Sort
-- ballastlaw9.Good
def F26.j6  : (Bool) → Option Bool := fun p6 =>
  some p6
def F26 (a0 : State) : Option Bool :=
  if (State.few a0) = true then ((keep State.ok a0).bind fun x4_4 => F26.j6 (decide ((checkState x4_4) = (0 : Int)))) else (F26.j6 false)
/-- ballast/ballastlaw9.Good -/
theorem c26 (a0 : State) (r : Bool) (h : F26 a0 = some r) :
    Det Tryz.prog 26 [State.av a0] (.ret (AV.bool r)) := by
  refine Det.of_le ?_
  refine @calls_of_body Tryz.prog 26 Tryz.f26 _ Tryz.func26 rfl (by kernel_rfl) [.tmp 2] (by rw [Tryz.results26]) 11 Tryz.ntmps26 _ _ _ (by simp only [List.length_cons, List.length_nil]; decide) ?_
  unfold F26 at h
  refine awp_seq fun N1 hN1 => ?_
  refine awp_reg kpNone [] [] [1] (cs := []) (st' := ⟨11, [(1, .varp 1 0)], [(1, (false, [AV.lst 5 Node.av a0.Nodes, AV.lst 11 Pod.av a0.Pods, AV.lst 3 Budget.av a0.Budgets]))], [], []⟩) (by kernel_rfl) trivial ?_
  refine hN1 _ ?_
  refine awp_seq fun N3 hN3 => ?_
  refine awp_to (σ := Bool) (fun p6 => ⟨11, [(2, AV.bool p6)], [(1, (false, [AV.lst 5 Node.av a0.Nodes, AV.lst 11 Pod.av a0.Pods, AV.lst 3 Budget.av a0.Budgets]))], [], []⟩) (fun p6 => F26.j6 p6 = some r) (fun p6 h => ?_) (fun N6 hJ6 => ?_)
  · unfold F26.j6 at h
    refine hN3 _ ?_
    have h := Option.some.inj h
    subst h
    exact awp_ret ⟨[AV.bool p6], by kernel_rfl, Lw.refl _⟩
  · by_cases hg5 : (State.few a0) = true
    · rw [if_pos hg5] at h
      obtain ⟨x4_4, hx4_4, h⟩ := Option.bind_eq_some_iff.1 h
      refine awp_reg kpNone [(1, AV.bool (State.few a0)), (4, State.av x4_4), (5, AV.int (checkState x4_4))] [(2, true)] [2] (cs := [(Det Tryz.prog 52 [State.av a0] (.ret (AV.bool (State.few a0)))), ((State.few a0) = true), (Det Tryz.prog 33 [State.av a0] (.ret (State.av x4_4))), (Det Tryz.prog 53 [State.av x4_4] (.ret (AV.int (checkState x4_4))))]) (st' := ⟨11, [(2, AV.bool (decide ((checkState x4_4) = (0 : Int))))], [(1, (false, [AV.lst 5 Node.av a0.Nodes, AV.lst 11 Pod.av a0.Pods, AV.lst 3 Budget.av a0.Budgets]))], [], []⟩) (by kernel_rfl) ⟨d52 a0, hg5, d33 a0 _ hx4_4, d53 x4_4, trivial⟩ ?_
      exact hJ6 (decide ((checkState x4_4) = (0 : Int))) _ h (Le.rfl')
    · rw [if_neg hg5] at h
      have hg5 := Bool.eq_false_iff.2 hg5
      refine awp_reg kpNone [(1, AV.bool (State.few a0))] [(2, false)] [2] (cs := [(Det Tryz.prog 52 [State.av a0] (.ret (AV.bool (State.few a0)))), ((State.few a0) = false)]) (st' := ⟨11, [(2, AV.bool false)], [(1, (false, [AV.lst 5 Node.av a0.Nodes, AV.lst 11 Pod.av a0.Pods, AV.lst 3 Budget.av a0.Budgets]))], [], []⟩) (by kernel_rfl) ⟨d52 a0, hg5, trivial⟩ ?_
      exact hJ6 false _ h (Le.rfl')


-- ballastlaw18.LevelRises
def F3.l30 (x17_4 : (List Int)) (x19_4 : (List Int)) (rec30 : (Int) → Option Bool) : (Int) → Option Bool := fun p30 =>
  if decide (p30 < (List.length x17_4 : Int)) = true then ((getI x19_4 p30).bind fun x36_2 => (getI x17_4 p30).bind fun x36_6 => if decide (x36_6 < x36_2) = true then (some false) else (rec30 (w64 (p30 + (1 : Int))))) else (some true)
def F3.j13 (a0 : State) (a1 : Nat) (a2 : Nat) (a3 : Nat) (a4 : Nat) (l30 : ((List Int)) → ((List Int)) → (Int) → Option Bool) : (Bool) → Option Bool := fun p13 =>
  if p13 = true then (some true) else ((A28 a0 (⟨a1, a2⟩ : Marks)).bind fun x17_4 => (A28 a0 (⟨a3, a4⟩ : Marks)).bind fun x19_4 => if ((decide (¬ (List.length x17_4 : Int) = (List.length x19_4 : Int))) || (decide (¬ (List.length x17_4 : Int) = (List.length a0.Nodes : Int)))) = true then (some false) else (l30 x17_4 x19_4 0))
def F3 (l30 : ((List Int)) → ((List Int)) → (Int) → Option Bool) (a0 : State) (a1 : Nat) (a2 : Nat) (a3 : Nat) (a4 : Nat) : Option Bool :=
  (F25).bind fun x5_0 => if (!x5_0) = true then (some false) else ((F26 a0).bind fun x10_1 => if (!x10_1) = true then (F3.j13 a0 a1 a2 a3 a4 l30 true) else ((F27 a1 a3).bind fun x10_6 => if decide ((0 : Int) < x10_6) = true then (F3.j13 a0 a1 a2 a3 a4 l30 true) else ((F27 a2 a4).bind fun x10_12 => F3.j13 a0 a1 a2 a3 a4 l30 (decide ((0 : Int) < x10_12)))))
/-- ballast/ballastlaw18.LevelRises -/
theorem c3 (a0 : State) (a1 : Nat) (a2 : Nat) (a3 : Nat) (a4 : Nat) (l30 : ((List Int)) → ((List Int)) → (Int) → Option Bool) (hl30 : ∀ (x17_4 : (List Int)), ∀ (x19_4 : (List Int)), Rounds (F3.l30 x17_4 x19_4) (l30 x17_4 x19_4)) (r : Bool) (h : F3 l30 a0 a1 a2 a3 a4 = some r) :
    Det Tryz.prog 3 [State.av a0, AV.fl a1, AV.fl a2, AV.fl a3, AV.fl a4] (.ret (AV.bool r)) := by
  refine Det.of_le ?_
  refine @calls_of_body Tryz.prog 3 Tryz.f3 _ Tryz.func3 rfl (by kernel_rfl) [.tmp 10] (by rw [Tryz.results3]) 69 Tryz.ntmps3 _ _ _ (by simp only [List.length_cons, List.length_nil]; decide) ?_
  unfold F3 at h
  refine awp_seq fun N1 hN1 => ?_
  refine awp_reg kpNone [] [] [1, 2, 3, 4, 5] (cs := []) (st' := ⟨69, [(1, AV.fl a1), (2, AV.fl a2), (3, AV.fl a3), (4, AV.fl a4), (5, .varp 5 0)], [(5, (false, [AV.lst 5 Node.av a0.Nodes, AV.lst 11 Pod.av a0.Pods, AV.lst 3 Budget.av a0.Budgets]))], [], []⟩) (by kernel_rfl) trivial ?_
  refine hN1 _ ?_
  refine awp_seq fun N3 hN3 => ?_
  refine awp_seq fun N4 hN4 => ?_
  obtain ⟨x5_0, hx5_0, h⟩ := Option.bind_eq_some_iff.1 h
  refine awp_reg kpNone [(0, AV.bool x5_0)] [] [1, 2, 3, 4, 5, 15] (cs := [(Det Tryz.prog 25 [] (.ret (AV.bool x5_0)))]) (st' := ⟨69, [(1, AV.fl a1), (2, AV.fl a2), (3, AV.fl a3), (4, AV.fl a4), (5, .varp 5 0), (15, AV.bool (!x5_0))], [(5, (false, [AV.lst 5 Node.av a0.Nodes, AV.lst 11 Pod.av a0.Pods, AV.lst 3 Budget.av a0.Budgets]))], [], []⟩) (by kernel_rfl) ⟨c25  _ hx5_0, trivial⟩ ?_
  refine hN4 _ ?_
  refine awp_cond (t := (!x5_0)) rfl (fun hb => ?_) (fun hb => ?_)
  · rw [if_pos hb] at h
    refine awp_seq fun N6 hN6 => ?_
    refine awp_reg kpNone [] [] [10] (cs := []) (st' := ⟨69, [(10, AV.bool false)], [(5, (false, [AV.lst 5 Node.av a0.Nodes, AV.lst 11 Pod.av a0.Pods, AV.lst 3 Budget.av a0.Budgets]))], [], []⟩) (by kernel_rfl) trivial ?_
    refine hN6 _ ?_
    have h := Option.some.inj h
    subst h
    exact awp_ret ⟨[AV.bool false], by kernel_rfl, Lw.refl _⟩
  · rw [if_false hb] at h
    refine awp_skip ?_
    refine hN3 _ ?_
    refine awp_seq fun N8 hN8 => ?_
    refine awp_seq fun N9 hN9 => ?_
    refine awp_to (σ := Bool) (fun p13 => ⟨69, [(1, AV.fl a1), (2, AV.fl a2), (3, AV.fl a3), (4, AV.fl a4), (5, .varp 5 0), (30, AV.bool p13)], [(5, (false, [AV.lst 5 Node.av a0.Nodes, AV.lst 11 Pod.av a0.Pods, AV.lst 3 Budget.av a0.Budgets]))], [], []⟩) (fun p13 => F3.j13 a0 a1 a2 a3 a4 l30 p13 = some r) (fun p13 h => ?_) (fun N13 hJ13 => ?_)
    · unfold F3.j13 at h
      refine hN9 _ ?_
      refine awp_cond (t := p13) rfl (fun hb => ?_) (fun hb => ?_)
      · rw [if_pos hb] at h
        refine awp_seq fun N14 hN14 => ?_
        refine awp_reg kpNone [] [] [10] (cs := []) (st' := ⟨69, [(10, AV.bool true)], [(5, (false, [AV.lst 5 Node.av a0.Nodes, AV.lst 11 Pod.av a0.Pods, AV.lst 3 Budget.av a0.Budgets]))], [], []⟩) (by kernel_rfl) trivial ?_
        refine hN14 _ ?_
        have h := Option.some.inj h
        subst h
        exact awp_ret ⟨[AV.bool true], by kernel_rfl, Lw.refl _⟩
      · rw [if_false hb] at h
        refine awp_skip ?_
        refine hN8 _ ?_
        refine awp_seq fun N16 hN16 => ?_
        obtain ⟨x17_4, hx17_4, h⟩ := Option.bind_eq_some_iff.1 h
        refine awp_reg kpNone [(4, AV.lst 1 AV.int x17_4)] [] [3, 4, 5, 11] (cs := [(Det Tryz.prog 28 [State.av a0, .agg [AV.fl a1, AV.fl a2]] (.ret (AV.lst 1 AV.int x17_4)))]) (st' := ⟨69, [(3, AV.fl a3), (4, AV.fl a4), (5, .varp 5 0), (11, AV.lst 1 AV.int x17_4)], [(5, (false, [AV.lst 5 Node.av a0.Nodes, AV.lst 11 Pod.av a0.Pods, AV.lst 3 Budget.av a0.Budgets]))], [], []⟩) (by kernel_rfl) ⟨d28 a0 (⟨a1, a2⟩ : Marks) _ hx17_4, trivial⟩ ?_
        refine hN16 _ ?_
        refine awp_seq fun N18 hN18 => ?_
        obtain ⟨x19_4, hx19_4, h⟩ := Option.bind_eq_some_iff.1 h
        refine awp_reg kpNone [(4, AV.lst 1 AV.int x19_4)] [] [5, 11, 12] (cs := [(Det Tryz.prog 28 [State.av a0, .agg [AV.fl a3, AV.fl a4]] (.ret (AV.lst 1 AV.int x19_4)))]) (st' := ⟨69, [(5, .varp 5 0), (11, AV.lst 1 AV.int x17_4), (12, AV.lst 1 AV.int x19_4)], [(5, (false, [AV.lst 5 Node.av a0.Nodes, AV.lst 11 Pod.av a0.Pods, AV.lst 3 Budget.av a0.Budgets]))], [], []⟩) (by kernel_rfl) ⟨d28 a0 (⟨a3, a4⟩ : Marks) _ hx19_4, trivial⟩ ?_
        refine hN18 _ ?_
        refine awp_seq fun N20 hN20 => ?_
        refine awp_seq fun N21 hN21 => ?_
        refine awp_to (σ := Bool) (fun p => ⟨69, [(11, AV.lst 1 AV.int x17_4), (12, AV.lst 1 AV.int x19_4), (53, AV.bool p)], [(5, (false, [AV.lst 5 Node.av a0.Nodes, AV.lst 11 Pod.av a0.Pods, AV.lst 3 Budget.av a0.Budgets]))], [], []⟩) (fun p => p = ((decide (¬ (List.length x17_4 : Int) = (List.length x19_4 : Int))) || (decide (¬ (List.length x17_4 : Int) = (List.length a0.Nodes : Int))))) (fun p hp => ?_) (fun N24 hJ24 => ?_)
        · subst hp
          refine hN21 _ ?_
          refine awp_cond (t := ((decide (¬ (List.length x17_4 : Int) = (List.length x19_4 : Int))) || (decide (¬ (List.length x17_4 : Int) = (List.length a0.Nodes : Int))))) rfl (fun hb => ?_) (fun hb => ?_)
          · rw [if_pos hb] at h
            refine awp_seq fun N25 hN25 => ?_
            refine awp_reg kpNone [] [] [10] (cs := []) (st' := ⟨69, [(10, AV.bool false)], [(5, (false, [AV.lst 5 Node.av a0.Nodes, AV.lst 11 Pod.av a0.Pods, AV.lst 3 Budget.av a0.Budgets]))], [], []⟩) (by kernel_rfl) trivial ?_
            refine hN25 _ ?_
            have h := Option.some.inj h
            subst h
            exact awp_ret ⟨[AV.bool false], by kernel_rfl, Lw.refl _⟩
          · rw [if_false hb] at h
            refine awp_skip ?_
            refine hN20 _ ?_
            refine awp_seq fun N27 hN27 => ?_
            refine awp_seq fun N28 hN28 => ?_
            refine awp_reg kpNone [] [] [11, 12, 13] (cs := []) (st' := ⟨69, [(11, AV.lst 1 AV.int x17_4), (12, AV.lst 1 AV.int x19_4), (13, AV.int 0)], [(5, (false, [AV.lst 5 Node.av a0.Nodes, AV.lst 11 Pod.av a0.Pods, AV.lst 3 Budget.av a0.Budgets]))], [], []⟩) (by kernel_rfl) trivial ?_
            refine hN28 _ ?_
            refine awp_block ?_
            refine awp_loop ?_
            refine awpL_le (st' := ⟨69, [(11, AV.lst 1 AV.int x17_4), (12, AV.lst 1 AV.int x19_4), (13, AV.int 0)], [], [], []⟩) ?_ ?_
            · exact Le.mk rfl ⟨.inl rfl, .inl rfl, rfl, trivial⟩ trivial trivial trivial
            refine awpL_fix (hl30 x17_4 x19_4) r (fun p30 => ⟨69, [(11, AV.lst 1 AV.int x17_4), (12, AV.lst 1 AV.int x19_4), (13, AV.int p30)], [], [], []⟩) (fun rec30 hrec30 p30 h => ?_) 0 h
            unfold F3.l30 at h
            refine awpL_round ?_
            refine awp_seq fun N31 hN31 => ?_
            refine awp_seq fun N32 hN32 => ?_
            refine awp_reg kpNone [(2, AV.int (List.length x17_4 : Int))] [] [11, 12, 13, 57] (cs := [((AV.int (List.length x17_4 : Int) = .val (.int .i64 (List.length (List.map AV.int x17_4) : Int))))]) (st' := ⟨69, [(11, AV.lst 1 AV.int x17_4), (12, AV.lst 1 AV.int x19_4), (13, AV.int p30), (57, AV.bool (decide (p30 < (List.length x17_4 : Int))))], [], [], []⟩) (by kernel_rfl) ⟨len_map _ _, trivial⟩ ?_
            refine hN32 _ ?_
            refine awp_cond (t := decide (p30 < (List.length x17_4 : Int))) rfl (fun hb => ?_) (fun hb => ?_)
            · rw [if_pos hb] at h
              refine awp_skip ?_
              refine hN31 _ ?_
              refine awp_seq fun N34 hN34 => ?_
              refine awp_block ?_
              refine awp_seq fun N35 hN35 => ?_
              obtain ⟨x36_2, hx36_2, h⟩ := Option.bind_eq_some_iff.1 h
              obtain ⟨x36_6, hx36_6, h⟩ := Option.bind_eq_some_iff.1 h
              refine awp_regD mixedTryz kpNone [(2, AV.int x36_2), (6, AV.int x36_6)] [] [11, 12, 13, 68] (by kernel_rfl) (cs := [(0 ≤ p30), ((List.map AV.int x19_4)[Int.toNat p30]? = some (AV.int x36_2)), (0 ≤ p30), ((List.map AV.int x17_4)[Int.toNat p30]? = some (AV.int x36_6))]) (st' := ⟨69, [(11, AV.lst 1 AV.int x17_4), (12, AV.lst 1 AV.int x19_4), (13, AV.int p30), (68, AV.bool (decide (x36_6 < x36_2)))], [], [], []⟩) (by kernel_rfl) ⟨getI_le hx36_2, getI_map hx36_2 _, getI_le hx36_6, getI_map hx36_6 _, trivial⟩ ?_
              refine hN35 _ ?_
              refine awp_cond (t := decide (x36_6 < x36_2)) rfl (fun hb => ?_) (fun hb => ?_)
              · rw [if_pos hb] at h
                refine awp_seq fun N37 hN37 => ?_
                refine awp_reg kpNone [] [] [10] (cs := []) (st' := ⟨69, [(10, AV.bool false)], [], [], []⟩) (by kernel_rfl) trivial ?_
                refine hN37 _ ?_
                have h := Option.some.inj h
                subst h
                exact awp_ret ⟨[AV.bool false], by kernel_rfl, Lw.refl _⟩
              · rw [if_false hb] at h
                refine awp_skip ?_
                refine hN34 _ ?_
                refine awp_reg kpNone [] [] [11, 12, 13] (cs := []) (st' := ⟨69, [(11, AV.lst 1 AV.int x17_4), (12, AV.lst 1 AV.int x19_4), (13, AV.int (w64 (p30 + (1 : Int))))], [], [], []⟩) (by kernel_rfl) trivial ?_
                refine awpL_le ?_ (hrec30 _ h)
                exact Le.rfl'
            · rw [if_false hb] at h
              refine awp_exit ?_
              refine hN27 _ ?_
              refine awp_seq fun N40 hN40 => ?_
              refine awp_reg kpNone [] [] [10] (cs := []) (st' := ⟨69, [(10, AV.bool true)], [], [], []⟩) (by kernel_rfl) trivial ?_
              refine hN40 _ ?_
              have h := Option.some.inj h
              subst h
              exact awp_ret ⟨[AV.bool true], by kernel_rfl, Lw.refl _⟩
        · by_cases hg23 : decide (¬ (List.length x17_4 : Int) = (List.length x19_4 : Int)) = true
          · refine awp_reg kpNone [(1, AV.int (List.length x17_4 : Int)), (3, AV.int (List.length x19_4 : Int))] [(5, true)] [11, 12, 53] (cs := [((AV.int (List.length x17_4 : Int) = .val (.int .i64 (List.length (List.map AV.int x17_4) : Int)))), ((AV.int (List.length x19_4 : Int) = .val (.int .i64 (List.length (List.map AV.int x19_4) : Int)))), (decide (¬ (List.length x17_4 : Int) = (List.length x19_4 : Int)) = true)]) (st' := ⟨69, [(11, AV.lst 1 AV.int x17_4), (12, AV.lst 1 AV.int x19_4), (53, AV.bool true)], [(5, (false, [AV.lst 5 Node.av a0.Nodes, AV.lst 11 Pod.av a0.Pods, AV.lst 3 Budget.av a0.Budgets]))], [], []⟩) (by kernel_rfl) ⟨len_map _ _, len_map _ _, hg23, trivial⟩ ?_
            exact hJ24 true _ (by first | rfl | (rw [hg23]; done) | (rw [hg23]; rfl) | (simp [hg23]; done) | (exfalso; revert hg23; simp; done) | (exfalso; revert hg23; simp; intros; assumption)) (Le.rfl')
          · have hg23 := Bool.eq_false_iff.2 hg23
            refine awp_reg kpNone [(1, AV.int (List.length x17_4 : Int)), (3, AV.int (List.length x19_4 : Int)), (7, AV.int (List.length x17_4 : Int)), (10, AV.int (List.length a0.Nodes : Int))] [(5, false)] [11, 12, 53] (cs := [((AV.int (List.length x17_4 : Int) = .val (.int .i64 (List.length (List.map AV.int x17_4) : Int)))), ((AV.int (List.length x19_4 : Int) = .val (.int .i64 (List.length (List.map AV.int x19_4) : Int)))), (decide (¬ (List.length x17_4 : Int) = (List.length x19_4 : Int)) = false), ((AV.int (List.length x17_4 : Int) = .val (.int .i64 (List.length (List.map AV.int x17_4) : Int)))), ((AV.int (List.length a0.Nodes : Int) = .val (.int .i64 (List.length (List.map Node.av a0.Nodes) : Int))))]) (st' := ⟨69, [(11, AV.lst 1 AV.int x17_4), (12, AV.lst 1 AV.int x19_4), (53, AV.bool (decide (¬ (List.length x17_4 : Int) = (List.length a0.Nodes : Int))))], [(5, (false, [AV.lst 5 Node.av a0.Nodes, AV.lst 11 Pod.av a0.Pods, AV.lst 3 Budget.av a0.Budgets]))], [], []⟩) (by kernel_rfl) ⟨len_map _ _, len_map _ _, hg23, len_map _ _, len_map _ _, trivial⟩ ?_
            exact hJ24 (decide (¬ (List.length x17_4 : Int) = (List.length a0.Nodes : Int))) _ (by first | rfl | (rw [hg23]; done) | (rw [hg23]; rfl) | (simp [hg23]; done) | (exfalso; revert hg23; simp; done) | (exfalso; revert hg23; simp; intros; assumption)) (Le.rfl')
    · obtain ⟨x10_1, hx10_1, h⟩ := Option.bind_eq_some_iff.1 h
      by_cases hg11 : (!x10_1) = true
      · rw [if_pos hg11] at h
        refine awp_reg kpNone [(1, AV.bool x10_1)] [(3, true)] [1, 2, 3, 4, 5, 30] (cs := [(Det Tryz.prog 26 [State.av a0] (.ret (AV.bool x10_1))), ((!x10_1) = true)]) (st' := ⟨69, [(1, AV.fl a1), (2, AV.fl a2), (3, AV.fl a3), (4, AV.fl a4), (5, .varp 5 0), (30, AV.bool true)], [(5, (false, [AV.lst 5 Node.av a0.Nodes, AV.lst 11 Pod.av a0.Pods, AV.lst 3 Budget.av a0.Budgets]))], [], []⟩) (by kernel_rfl) ⟨c26 a0 _ hx10_1, hg11, trivial⟩ ?_
        exact hJ13 true _ h (Le.rfl')
      · rw [if_neg hg11] at h
        have hg11 := Bool.eq_false_iff.2 hg11
        obtain ⟨x10_6, hx10_6, h⟩ := Option.bind_eq_some_iff.1 h
        by_cases hg12 : decide ((0 : Int) < x10_6) = true
        · rw [if_pos hg12] at h
          refine awp_reg kpNone [(1, AV.bool x10_1), (6, AV.int x10_6)] [(3, false), (9, true)] [1, 2, 3, 4, 5, 30] (cs := [(Det Tryz.prog 26 [State.av a0] (.ret (AV.bool x10_1))), ((!x10_1) = false), (Det Tryz.prog 27 [AV.fl a1, AV.fl a3] (.ret (AV.int x10_6))), (decide ((0 : Int) < x10_6) = true)]) (st' := ⟨69, [(1, AV.fl a1), (2, AV.fl a2), (3, AV.fl a3), (4, AV.fl a4), (5, .varp 5 0), (30, AV.bool true)], [(5, (false, [AV.lst 5 Node.av a0.Nodes, AV.lst 11 Pod.av a0.Pods, AV.lst 3 Budget.av a0.Budgets]))], [], []⟩) (by kernel_rfl) ⟨c26 a0 _ hx10_1, hg11, c27 a1 a3 _ hx10_6, hg12, trivial⟩ ?_
          exact hJ13 true _ h (Le.rfl')
        · rw [if_neg hg12] at h
          have hg12 := Bool.eq_false_iff.2 hg12
          obtain ⟨x10_12, hx10_12, h⟩ := Option.bind_eq_some_iff.1 h
          refine awp_reg kpNone [(1, AV.bool x10_1), (6, AV.int x10_6), (12, AV.int x10_12)] [(3, false), (9, false)] [1, 2, 3, 4, 5, 30] (cs := [(Det Tryz.prog 26 [State.av a0] (.ret (AV.bool x10_1))), ((!x10_1) = false), (Det Tryz.prog 27 [AV.fl a1, AV.fl a3] (.ret (AV.int x10_6))), (decide ((0 : Int) < x10_6) = false), (Det Tryz.prog 27 [AV.fl a2, AV.fl a4] (.ret (AV.int x10_12)))]) (st' := ⟨69, [(1, AV.fl a1), (2, AV.fl a2), (3, AV.fl a3), (4, AV.fl a4), (5, .varp 5 0), (30, AV.bool (decide ((0 : Int) < x10_12)))], [(5, (false, [AV.lst 5 Node.av a0.Nodes, AV.lst 11 Pod.av a0.Pods, AV.lst 3 Budget.av a0.Budgets]))], [], []⟩) (by kernel_rfl) ⟨c26 a0 _ hx10_1, hg11, c27 a1 a3 _ hx10_6, hg12, c27 a2 a4 _ hx10_12, trivial⟩ ?_
          exact hJ13 (decide ((0 : Int) < x10_12)) _ h (Le.rfl')
def A3.l30 (a0 : State) (a1 : Nat) (a2 : Nat) (a3 : Nat) (a4 : Nat) (x17_4 : (List Int)) (x19_4 : (List Int)) : (Int) → Option Bool := iterL (F3.l30 x17_4 x19_4) 4096
def A3 (a0 : State) (a1 : Nat) (a2 : Nat) (a3 : Nat) (a4 : Nat) : Option Bool := F3 (A3.l30 a0 a1 a2 a3 a4) a0 a1 a2 a3 a4
theorem d3 (a0 : State) (a1 : Nat) (a2 : Nat) (a3 : Nat) (a4 : Nat) (r : Bool) (h : A3 a0 a1 a2 a3 a4 = some r) :
    Det Tryz.prog 3 [State.av a0, AV.fl a1, AV.fl a2, AV.fl a3, AV.fl a4] (.ret (AV.bool r)) := by
  exact c3 a0 a1 a2 a3 a4 (A3.l30 a0 a1 a2 a3 a4) (fun _ _ => rounds_iter _ _) r h


end Go.Proofs.Eng
