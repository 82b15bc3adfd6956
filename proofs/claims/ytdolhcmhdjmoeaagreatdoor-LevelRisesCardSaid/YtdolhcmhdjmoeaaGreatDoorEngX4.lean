/- Printed walks and contracts. -/
import Derived.Test.YtdolhcmhdjmoeaaGreatDoorEngX3
set_option linter.unusedSimpArgs false
set_option linter.unusedVariables false
set_option maxRecDepth 100000
namespace Go.Proofs.Eng
open Go Go.Proofs Go.Sort
-- ratio.best
def F281.j22 (rec13 : (Nat × Int) → Option Nat) (p13 : Nat × Int) : (Nat) → Option Nat := fun p22 =>
  rec13 (p22, w64 (p13.2 + (1 : Int)))
def F281.l13 (a0 : (List Nat)) (a1 : Int) (rec13 : (Nat × Int) → Option Nat) : (Nat × Int) → Option Nat := fun p13 =>
  if decide (p13.2 < (List.length (List.drop (Int.toNat (1 : Int)) (List.take (List.length a0) a0)) : Int)) = true then ((getI (List.drop (Int.toNat (1 : Int)) (List.take (List.length a0) a0)) p13.2).bind fun x19_0 => (F27 x19_0 p13.1).bind fun x21_2 => if decide ((w64 (x21_2 * a1)) < (0 : Int)) = true then (F281.j22 rec13 p13 x19_0) else (F281.j22 rec13 p13 p13.1)) else (some p13.1)
def F281 (l13 : (Nat × Int) → Option Nat) (a0 : (List Nat)) (a1 : Int) : Option Nat :=
  if decide ((List.length a0 : Int) = (0 : Int)) = true then ((F309).bind fun x7_0 => some x7_0) else ((getI a0 (0 : Int)).bind fun x9_1 => if 0 ≤ (1 : Int) ∧ Int.toNat (1 : Int) ≤ List.length a0 then (l13 (x9_1, 0)) else none)
/-- ballast/ratio.best -/
theorem c281 (a0 : (List Nat)) (a1 : Int) (l13 : (Nat × Int) → Option Nat) (hl13 : Rounds (F281.l13 a0 a1) (l13)) (r : Nat) (h : F281 l13 a0 a1 = some r) :
    Det Tryz.prog 281 [AV.lst 1 AV.fl a0, AV.int a1] (.ret (AV.fl r)) := by
  refine Det.of_le ?_
  refine @calls_of_body Tryz.prog 281 Tryz.f281 _ Tryz.func281 rfl (by kernel_rfl) [.tmp 4] (by rw [Tryz.results281]) 31 Tryz.ntmps281 _ _ _ (by simp only [List.length_cons, List.length_nil]; decide) ?_
  unfold F281 at h
  refine awp_seq fun N1 hN1 => ?_
  refine awp_reg kpNone [] [] [0, 1] (cs := []) (st' := ⟨31, [(0, AV.lst 1 AV.fl a0), (1, AV.int a1)], [], [], []⟩) (by kernel_rfl) trivial ?_
  refine hN1 _ ?_
  refine awp_seq fun N3 hN3 => ?_
  refine awp_seq fun N4 hN4 => ?_
  refine awp_reg kpNone [(1, AV.int (List.length a0 : Int))] [] [0, 1, 10] (cs := [((AV.int (List.length a0 : Int) = .val (.int .i64 (List.length (List.map AV.fl a0) : Int))))]) (st' := ⟨31, [(0, AV.lst 1 AV.fl a0), (1, AV.int a1), (10, AV.bool (decide ((List.length a0 : Int) = (0 : Int))))], [], [], []⟩) (by kernel_rfl) ⟨len_map _ _, trivial⟩ ?_
  refine hN4 _ ?_
  refine awp_cond (t := decide ((List.length a0 : Int) = (0 : Int))) rfl (fun hb => ?_) (fun hb => ?_)
  · rw [if_pos hb] at h
    refine awp_seq fun N6 hN6 => ?_
    obtain ⟨x7_0, hx7_0, h⟩ := Option.bind_eq_some_iff.1 h
    refine awp_reg kpNone [(0, AV.fl x7_0)] [] [4] (cs := [(Det Tryz.prog 309 [] (.ret (AV.fl x7_0)))]) (st' := ⟨31, [(4, AV.fl x7_0)], [], [], []⟩) (by kernel_rfl) ⟨c309  _ hx7_0, trivial⟩ ?_
    refine hN6 _ ?_
    have h := Option.some.inj h
    subst h
    exact awp_ret ⟨[AV.fl x7_0], by kernel_rfl, Lw.refl _⟩
  · rw [if_false hb] at h
    refine awp_skip ?_
    refine hN3 _ ?_
    refine awp_seq fun N8 hN8 => ?_
    obtain ⟨x9_1, hx9_1, h⟩ := Option.bind_eq_some_iff.1 h
    refine awp_reg kpNone [(1, AV.fl x9_1)] [] [0, 1, 5] (cs := [(0 ≤ (0 : Int)), ((List.map AV.fl a0)[Int.toNat (0 : Int)]? = some (AV.fl x9_1))]) (st' := ⟨31, [(0, AV.lst 1 AV.fl a0), (1, AV.int a1), (5, AV.fl x9_1)], [], [], []⟩) (by kernel_rfl) ⟨getI_le hx9_1, getI_map hx9_1 _, trivial⟩ ?_
    refine hN8 _ ?_
    refine awp_seq fun N10 hN10 => ?_
    refine awp_seq fun N11 hN11 => ?_
    obtain ⟨hp12_1, h⟩ := guardP h
    refine awp_reg kpNone [(1, AV.lst 1 AV.fl (List.drop (Int.toNat (1 : Int)) (List.take (List.length a0) a0))), (2, AV.int (List.length (List.drop (Int.toNat (1 : Int)) (List.take (List.length a0) a0)) : Int))] [] [1, 5, 16, 17, 18] (cs := [(0 ≤ (1 : Int)), (Int.toNat (1 : Int) ≤ List.length (List.map AV.fl a0)), (List.length (List.map AV.fl a0) ≤ List.length (List.map AV.fl a0)), (List.drop (Int.toNat (1 : Int)) (List.take (List.length (List.map AV.fl a0)) (List.map AV.fl a0)) = List.map AV.fl (List.drop (Int.toNat (1 : Int)) (List.take (List.length a0) a0))), ((AV.int (List.length (List.drop (Int.toNat (1 : Int)) (List.take (List.length a0) a0)) : Int) = .val (.int .i64 (List.length (List.map AV.fl (List.drop (Int.toNat (1 : Int)) (List.take (List.length a0) a0))) : Int))))]) (st' := ⟨31, [(1, AV.int a1), (5, AV.fl x9_1), (16, AV.lst 1 AV.fl (List.drop (Int.toNat (1 : Int)) (List.take (List.length a0) a0))), (17, AV.int (List.length (List.drop (Int.toNat (1 : Int)) (List.take (List.length a0) a0)) : Int)), (18, AV.int 0)], [], [], []⟩) (by kernel_rfl) ⟨hp12_1.1, len_le _ _ hp12_1.2, Nat.le_refl _, lst_cut' _ _ _, len_map _ _, trivial⟩ ?_
    refine hN11 _ ?_
    refine awp_block ?_
    refine awp_loop ?_
    refine awpL_le (st' := ⟨31, [(1, AV.int a1), (5, AV.fl x9_1), (16, AV.lst 1 AV.fl (List.drop (Int.toNat (1 : Int)) (List.take (List.length a0) a0))), (17, AV.int (List.length (List.drop (Int.toNat (1 : Int)) (List.take (List.length a0) a0)) : Int)), (18, AV.int 0)], [], [], []⟩) ?_ ?_
    · exact Le.rfl'
    refine awpL_fix hl13 r (fun p13 => ⟨31, [(1, AV.int a1), (5, AV.fl p13.1), (16, AV.lst 1 AV.fl (List.drop (Int.toNat (1 : Int)) (List.take (List.length a0) a0))), (17, AV.int (List.length (List.drop (Int.toNat (1 : Int)) (List.take (List.length a0) a0)) : Int)), (18, AV.int p13.2)], [], [], []⟩) (fun rec13 hrec13 p13 h => ?_) (x9_1, 0) h
    unfold F281.l13 at h
    refine awpL_round ?_
    refine awp_seq fun N14 hN14 => ?_
    refine awp_reg kpNone [] [] [1, 5, 16, 17, 18, 19] (cs := []) (st' := ⟨31, [(1, AV.int a1), (5, AV.fl p13.1), (16, AV.lst 1 AV.fl (List.drop (Int.toNat (1 : Int)) (List.take (List.length a0) a0))), (17, AV.int (List.length (List.drop (Int.toNat (1 : Int)) (List.take (List.length a0) a0)) : Int)), (18, AV.int p13.2), (19, AV.bool (decide (p13.2 < (List.length (List.drop (Int.toNat (1 : Int)) (List.take (List.length a0) a0)) : Int))))], [], [], []⟩) (by kernel_rfl) trivial ?_
    refine hN14 _ ?_
    refine awp_seq fun N16 hN16 => ?_
    refine awp_cond (t := decide (p13.2 < (List.length (List.drop (Int.toNat (1 : Int)) (List.take (List.length a0) a0)) : Int))) rfl (fun hb => ?_) (fun hb => ?_)
    · rw [if_pos hb] at h
      refine awp_skip ?_
      refine hN16 _ ?_
      refine awp_seq fun N17 hN17 => ?_
      refine awp_block ?_
      refine awp_seq fun N18 hN18 => ?_
      obtain ⟨x19_0, hx19_0, h⟩ := Option.bind_eq_some_iff.1 h
      refine awp_reg kpNone [(0, AV.fl x19_0)] [] [1, 5, 7, 16, 17, 18] (cs := [(0 ≤ p13.2), ((List.map AV.fl (List.drop (Int.toNat (1 : Int)) (List.take (List.length a0) a0)))[Int.toNat p13.2]? = some (AV.fl x19_0))]) (st' := ⟨31, [(1, AV.int a1), (5, AV.fl p13.1), (7, AV.fl x19_0), (16, AV.lst 1 AV.fl (List.drop (Int.toNat (1 : Int)) (List.take (List.length a0) a0))), (17, AV.int (List.length (List.drop (Int.toNat (1 : Int)) (List.take (List.length a0) a0)) : Int)), (18, AV.int p13.2)], [], [], []⟩) (by kernel_rfl) ⟨getI_le hx19_0, getI_map hx19_0 _, trivial⟩ ?_
      refine hN18 _ ?_
      refine awp_seq fun N20 hN20 => ?_
      obtain ⟨x21_2, hx21_2, h⟩ := Option.bind_eq_some_iff.1 h
      refine awp_reg kpNone [(2, AV.int x21_2)] [] [1, 5, 7, 16, 17, 18, 27] (cs := [(Det Tryz.prog 27 [AV.fl x19_0, AV.fl p13.1] (.ret (AV.int x21_2)))]) (st' := ⟨31, [(1, AV.int a1), (5, AV.fl p13.1), (7, AV.fl x19_0), (16, AV.lst 1 AV.fl (List.drop (Int.toNat (1 : Int)) (List.take (List.length a0) a0))), (17, AV.int (List.length (List.drop (Int.toNat (1 : Int)) (List.take (List.length a0) a0)) : Int)), (18, AV.int p13.2), (27, AV.bool (decide ((w64 (x21_2 * a1)) < (0 : Int))))], [], [], []⟩) (by kernel_rfl) ⟨c27 x19_0 p13.1 _ hx21_2, trivial⟩ ?_
      refine hN20 _ ?_
      refine awp_to (σ := Nat) (fun p22 => ⟨31, [(1, AV.int a1), (5, AV.fl p22), (16, AV.lst 1 AV.fl (List.drop (Int.toNat (1 : Int)) (List.take (List.length a0) a0))), (17, AV.int (List.length (List.drop (Int.toNat (1 : Int)) (List.take (List.length a0) a0)) : Int)), (18, AV.int p13.2)], [], [], []⟩) (fun p22 => F281.j22 rec13 p13 p22 = some r) (fun p22 h => ?_) (fun N22 hJ22 => ?_)
      · unfold F281.j22 at h
        refine hN17 _ ?_
        refine awp_reg kpNone [] [] [1, 5, 16, 17, 18] (cs := []) (st' := ⟨31, [(1, AV.int a1), (5, AV.fl p22), (16, AV.lst 1 AV.fl (List.drop (Int.toNat (1 : Int)) (List.take (List.length a0) a0))), (17, AV.int (List.length (List.drop (Int.toNat (1 : Int)) (List.take (List.length a0) a0)) : Int)), (18, AV.int (w64 (p13.2 + (1 : Int))))], [], [], []⟩) (by kernel_rfl) trivial ?_
        refine awpL_le ?_ (hrec13 _ h)
        exact Le.rfl'
      · refine awp_cond (t := decide ((w64 (x21_2 * a1)) < (0 : Int))) rfl (fun hb => ?_) (fun hb => ?_)
        · rw [if_pos hb] at h
          refine awp_reg kpNone [] [] [1, 5, 16, 17, 18] (cs := []) (st' := ⟨31, [(1, AV.int a1), (5, AV.fl x19_0), (16, AV.lst 1 AV.fl (List.drop (Int.toNat (1 : Int)) (List.take (List.length a0) a0))), (17, AV.int (List.length (List.drop (Int.toNat (1 : Int)) (List.take (List.length a0) a0)) : Int)), (18, AV.int p13.2)], [], [], []⟩) (by kernel_rfl) trivial ?_
          exact hJ22 x19_0 _ h (Le.rfl')
        · rw [if_false hb] at h
          refine awp_skip ?_
          exact hJ22 p13.1 _ h (Le.mk rfl ⟨rfl, rfl, .inl rfl, rfl, rfl, trivial⟩ trivial trivial trivial)
    · rw [if_false hb] at h
      refine awp_exit ?_
      refine hN10 _ ?_
      refine awp_seq fun N25 hN25 => ?_
      refine awp_reg kpNone [] [] [4] (cs := []) (st' := ⟨31, [(4, AV.fl p13.1)], [], [], []⟩) (by kernel_rfl) trivial ?_
      refine hN25 _ ?_
      have h := Option.some.inj h
      subst h
      exact awp_ret ⟨[AV.fl p13.1], by kernel_rfl, Lw.refl _⟩
def A281.l13 (a0 : (List Nat)) (a1 : Int) : (Nat × Int) → Option Nat := iterL (F281.l13 a0 a1) 4096
def A281 (a0 : (List Nat)) (a1 : Int) : Option Nat := F281 (A281.l13 a0 a1) a0 a1
theorem d281 (a0 : (List Nat)) (a1 : Int) (r : Nat) (h : A281 a0 a1 = some r) :
    Det Tryz.prog 281 [AV.lst 1 AV.fl a0, AV.int a1] (.ret (AV.fl r)) := by
  exact c281 a0 a1 (A281.l13 a0 a1) (rounds_iter _ _) r h


-- ratio.Most
def F204 (a0 : (List Nat)) : Option Nat :=
  (A281 a0 (-1)).bind fun x4_1 => some x4_1
/-- ballast/ratio.Most -/
theorem c204 (a0 : (List Nat)) (r : Nat) (h : F204 a0 = some r) :
    Det Tryz.prog 204 [AV.lst 1 AV.fl a0] (.ret (AV.fl r)) := by
  refine Det.of_le ?_
  refine @calls_of_body Tryz.prog 204 Tryz.f204 _ Tryz.func204 rfl (by kernel_rfl) [.tmp 2] (by rw [Tryz.results204]) 5 Tryz.ntmps204 _ _ _ (by simp only [List.length_cons, List.length_nil]; decide) ?_
  unfold F204 at h
  refine awp_seq fun N1 hN1 => ?_
  refine awp_reg kpNone [] [] [0] (cs := []) (st' := ⟨5, [(0, AV.lst 1 AV.fl a0)], [], [], []⟩) (by kernel_rfl) trivial ?_
  refine hN1 _ ?_
  refine awp_seq fun N3 hN3 => ?_
  obtain ⟨x4_1, hx4_1, h⟩ := Option.bind_eq_some_iff.1 h
  refine awp_reg kpNone [(1, AV.fl x4_1)] [] [2] (cs := [(Det Tryz.prog 281 [AV.lst 1 AV.fl a0, AV.int (-1)] (.ret (AV.fl x4_1)))]) (st' := ⟨5, [(2, AV.fl x4_1)], [], [], []⟩) (by kernel_rfl) ⟨d281 a0 (-1) _ hx4_1, trivial⟩ ?_
  refine hN3 _ ?_
  have h := Option.some.inj h
  subst h
  exact awp_ret ⟨[AV.fl x4_1], by kernel_rfl, Lw.refl _⟩


-- level.Worst
def F93 (a0 : State) (a1 : Str) : Option Nat :=
  (A200 a0 a1).bind fun x4_2 => (F204 x4_2).bind fun x4_3 => some x4_3
/-- ballast/level.Worst -/
theorem c93 (a0 : State) (a1 : Str) (r : Nat) (h : F93 a0 a1 = some r) :
    Det Tryz.prog 93 [State.av a0, AV.str a1] (.ret (AV.fl r)) := by
  refine Det.of_le ?_
  refine @calls_of_body Tryz.prog 93 Tryz.f93 _ Tryz.func93 rfl (by kernel_rfl) [.tmp 4] (by rw [Tryz.results93]) 9 Tryz.ntmps93 _ _ _ (by simp only [List.length_cons, List.length_nil]; decide) ?_
  unfold F93 at h
  refine awp_seq fun N1 hN1 => ?_
  refine awp_reg kpNone [] [] [1, 2] (cs := []) (st' := ⟨9, [(1, AV.str a1), (2, .varp 2 0)], [(2, (false, [AV.lst 5 Node.av a0.Nodes, AV.lst 11 Pod.av a0.Pods, AV.lst 3 Budget.av a0.Budgets]))], [], []⟩) (by kernel_rfl) trivial ?_
  refine hN1 _ ?_
  refine awp_seq fun N3 hN3 => ?_
  obtain ⟨x4_2, hx4_2, h⟩ := Option.bind_eq_some_iff.1 h
  obtain ⟨x4_3, hx4_3, h⟩ := Option.bind_eq_some_iff.1 h
  refine awp_reg kpNone [(2, AV.lst 1 AV.fl x4_2), (3, AV.fl x4_3)] [] [4] (cs := [(Det Tryz.prog 200 [State.av a0, AV.str a1] (.ret (AV.lst 1 AV.fl x4_2))), (Det Tryz.prog 204 [AV.lst 1 AV.fl x4_2] (.ret (AV.fl x4_3)))]) (st' := ⟨9, [(4, AV.fl x4_3)], [(2, (false, [AV.lst 5 Node.av a0.Nodes, AV.lst 11 Pod.av a0.Pods, AV.lst 3 Budget.av a0.Budgets]))], [], []⟩) (by kernel_rfl) ⟨d200 a0 a1 _ hx4_2, c204 x4_2 _ hx4_3, trivial⟩ ?_
  refine hN3 _ ?_
  have h := Option.some.inj h
  subst h
  exact awp_ret ⟨[AV.fl x4_3], by kernel_rfl, Lw.refl _⟩


-- ballastlaw18.known
def F25.j27  : (Bool) → Option Bool := fun p27 =>
  some p27
def F25 : Option Bool :=
  (F75 [97] 10).bind fun x4_0 => (F75 [98] 10).bind fun x4_1 => (F75 [100] 10).bind fun x4_3 => (F76 [120] 9 [97]).bind fun x4_5 => (F76 [121] 5 [100]).bind fun x4_6 => (A28 (⟨[x4_0, x4_1, (⟨[99], ([] : (List Amount)), ([] : (List Pair)), ([] : (List Taint)), false⟩ : Node), x4_3], [x4_5, x4_6], ([] : (List Budget))⟩ : State) (⟨4596373779694328218, 4605380978949069210⟩ : Marks)).bind fun x8_2 => if decide (¬ (List.length x8_2 : Int) = (4 : Int)) = true then (some false) else ((F91 0 0).bind fun x15_0 => (getI x8_2 (0 : Int)).bind fun x17_1 => if decide (x17_1 = (2 : Int)) = true then ((getI x8_2 (1 : Int)).bind fun x17_6 => if decide (x17_6 = (0 : Int)) = true then ((getI x8_2 (2 : Int)).bind fun x17_12 => if decide (x17_12 = (1 : Int)) = true then ((getI x8_2 (3 : Int)).bind fun x17_18 => if decide (x17_18 = (1 : Int)) = true then ((F92 (⟨[x4_0, x4_1, (⟨[99], ([] : (List Amount)), ([] : (List Pair)), ([] : (List Taint)), false⟩ : Node), x4_3], [x4_5, x4_6], ([] : (List Budget))⟩ : State) [98] (⟨0, 4607182418800017408⟩ : Marks)).bind fun x17_25 => if decide (x17_25 = (1 : Int)) = true then ((F92 (⟨[x4_0, x4_1, (⟨[99], ([] : (List Amount)), ([] : (List Pair)), ([] : (List Taint)), false⟩ : Node), x4_3], [x4_5, x4_6], ([] : (List Budget))⟩ : State) [97] (⟨x15_0, x15_0⟩ : Marks)).bind fun x17_33 => if decide (x17_33 = (0 : Int)) = true then ((F92 (⟨[x4_0, x4_1, (⟨[99], ([] : (List Amount)), ([] : (List Pair)), ([] : (List Taint)), false⟩ : Node), x4_3], [x4_5, x4_6], ([] : (List Budget))⟩ : State) [97] (⟨x15_0, 4602678819172646912⟩ : Marks)).bind fun x17_40 => if decide (x17_40 = (2 : Int)) = true then ((F93 (⟨[x4_0, x4_1, (⟨[99], ([] : (List Amount)), ([] : (List Pair)), ([] : (List Taint)), false⟩ : Node), x4_3], [x4_5, x4_6], ([] : (List Budget))⟩ : State) [97]).bind fun x17_45 => if fEq x17_45 4606281698874543309 = true then ((F93 (⟨[x4_0, x4_1, (⟨[99], ([] : (List Amount)), ([] : (List Pair)), ([] : (List Taint)), false⟩ : Node), x4_3], [x4_5, x4_6], ([] : (List Budget))⟩ : State) [99]).bind fun x17_50 => (F94 x17_50).bind fun x17_51 => if decide (x17_51 = (6 : Int)) = true then ((F92 (⟨[x4_0, x4_1, (⟨[99], ([] : (List Amount)), ([] : (List Pair)), ([] : (List Taint)), false⟩ : Node), x4_3], [x4_5, x4_6], ([] : (List Budget))⟩ : State) [122] (⟨4596373779694328218, 4605380978949069210⟩ : Marks)).bind fun x17_57 => F25.j27 (decide (x17_57 = (1 : Int)))) else (F25.j27 false)) else (F25.j27 false)) else (F25.j27 false)) else (F25.j27 false)) else (F25.j27 false)) else (F25.j27 false)) else (F25.j27 false)) else (F25.j27 false)) else (F25.j27 false))
/-- ballast/ballastlaw18.known -/
theorem c25 (r : Bool) (h : F25  = some r) :
    Det Tryz.prog 25 [] (.ret (AV.bool r)) := by
  refine Det.of_le ?_
  refine @calls_of_body Tryz.prog 25 Tryz.f25 _ Tryz.func25 rfl (by kernel_rfl) [.tmp 0] (by rw [Tryz.results25]) 82 Tryz.ntmps25 _ _ _ (by simp only [List.length_cons, List.length_nil]; decide) ?_
  unfold F25 at h
  refine awp_seq fun N1 hN1 => ?_
  refine awp_reg kpNone [] [] [] (cs := []) (st' := ⟨82, [], [], [], []⟩) (by kernel_rfl) trivial ?_
  refine hN1 _ ?_
  refine awp_seq fun N3 hN3 => ?_
  obtain ⟨x4_0, hx4_0, h⟩ := Option.bind_eq_some_iff.1 h
  obtain ⟨x4_1, hx4_1, h⟩ := Option.bind_eq_some_iff.1 h
  obtain ⟨x4_3, hx4_3, h⟩ := Option.bind_eq_some_iff.1 h
  obtain ⟨x4_5, hx4_5, h⟩ := Option.bind_eq_some_iff.1 h
  obtain ⟨x4_6, hx4_6, h⟩ := Option.bind_eq_some_iff.1 h
  refine awp_reg kpNone [(0, Node.av x4_0), (1, Node.av x4_1), (3, Node.av x4_3), (5, Pod.av x4_5), (6, Pod.av x4_6)] [] [1] (cs := [(Det Tryz.prog 75 [AV.str [97], AV.int 10] (.ret (Node.av x4_0))), (Det Tryz.prog 75 [AV.str [98], AV.int 10] (.ret (Node.av x4_1))), (Det Tryz.prog 75 [AV.str [100], AV.int 10] (.ret (Node.av x4_3))), (Det Tryz.prog 76 [AV.str [120], AV.int 9, AV.str [97]] (.ret (Pod.av x4_5))), (Det Tryz.prog 76 [AV.str [121], AV.int 5, AV.str [100]] (.ret (Pod.av x4_6)))]) (st' := ⟨82, [(1, .varp 1 0)], [(1, (false, [.slice (.own 9) 5 [Node.av x4_0, Node.av x4_1, .agg [AV.str [99], .nils, .nils, .nils, AV.bool false], Node.av x4_3], .slice (.own 12) 11 (List.map Pod.av [x4_5, x4_6]), .nils]))], [], [(12, (44, 11, 2)), (9, (71, 5, 4))]⟩) (by kernel_rfl) ⟨c75 [97] 10 _ hx4_0, c75 [98] 10 _ hx4_1, c75 [100] 10 _ hx4_3, c76 [120] 9 [97] _ hx4_5, c76 [121] 5 [100] _ hx4_6, trivial⟩ ?_
  refine hN3 _ ?_
  refine awp_seq fun N5 hN5 => ?_
  refine awp_reg kpNone [] [] [1, 2] (cs := []) (st' := ⟨82, [(1, .varp 1 0), (2, .varp 2 0)], [(2, (false, [AV.fl 4596373779694328218, AV.fl 4605380978949069210])), (1, (false, [.slice (.own 9) 5 [Node.av x4_0, Node.av x4_1, .agg [AV.str [99], .nils, .nils, .nils, AV.bool false], Node.av x4_3], .slice (.own 12) 11 (List.map Pod.av [x4_5, x4_6]), .nils]))], [], [(12, (44, 11, 2)), (9, (71, 5, 4))]⟩) (by kernel_rfl) trivial ?_
  refine hN5 _ ?_
  refine awp_seq fun N7 hN7 => ?_
  obtain ⟨x8_2, hx8_2, h⟩ := Option.bind_eq_some_iff.1 h
  refine awp_reg kpNone [(2, AV.lst 1 AV.int x8_2)] [] [1, 2, 3] (cs := [(Det Tryz.prog 28 [.agg [.slice .non 5 [Node.av x4_0, Node.av x4_1, .agg [AV.str [99], .nils, .nils, .nils, AV.bool false], Node.av x4_3], AV.lst 11 Pod.av [x4_5, x4_6], .nils], .agg [AV.fl 4596373779694328218, AV.fl 4605380978949069210]] (.ret (AV.lst 1 AV.int x8_2)))]) (st' := ⟨82, [(1, .varp 1 0), (2, .varp 2 0), (3, AV.lst 1 AV.int x8_2)], [(2, (false, [AV.fl 4596373779694328218, AV.fl 4605380978949069210])), (1, (false, [.slice (.own 9) 5 [Node.av x4_0, Node.av x4_1, .agg [AV.str [99], .nils, .nils, .nils, AV.bool false], Node.av x4_3], .slice (.own 12) 11 (List.map Pod.av [x4_5, x4_6]), .nils]))], [], [(12, (44, 11, 2)), (9, (71, 5, 4))]⟩) (by kernel_rfl) ⟨Det.args (d28 (⟨[x4_0, x4_1, (⟨[99], ([] : (List Amount)), ([] : (List Pair)), ([] : (List Taint)), false⟩ : Node), x4_3], [x4_5, x4_6], ([] : (List Budget))⟩ : State) (⟨4596373779694328218, 4605380978949069210⟩ : Marks) _ hx8_2) ⟨(Lw.aggL ⟨(Lw.sliceL ⟨⟨LwL_rfl _, rfl⟩, ⟨LwL_rfl _, rfl⟩, ⟨⟨(Lw.refl _), (Lw.nils _), (Lw.nils _), (Lw.nils _), (Lw.refl _), trivial⟩, rfl⟩, ⟨LwL_rfl _, rfl⟩, trivial⟩), (Lw.refl _), (Lw.nils _), trivial⟩), (Lw.refl _), trivial⟩, trivial⟩ ?_
  refine hN7 _ ?_
  refine awp_seq fun N9 hN9 => ?_
  refine awp_seq fun N10 hN10 => ?_
  refine awp_reg kpNone [(1, AV.int (List.length x8_2 : Int))] [] [1, 2, 3, 20] (cs := [((AV.int (List.length x8_2 : Int) = .val (.int .i64 (List.length (List.map AV.int x8_2) : Int))))]) (st' := ⟨82, [(1, .varp 1 0), (2, .varp 2 0), (3, AV.lst 1 AV.int x8_2), (20, AV.bool (decide (¬ (List.length x8_2 : Int) = (4 : Int))))], [(2, (false, [AV.fl 4596373779694328218, AV.fl 4605380978949069210])), (1, (false, [.slice (.own 9) 5 [Node.av x4_0, Node.av x4_1, .agg [AV.str [99], .nils, .nils, .nils, AV.bool false], Node.av x4_3], .slice (.own 12) 11 (List.map Pod.av [x4_5, x4_6]), .nils]))], [], [(12, (44, 11, 2)), (9, (71, 5, 4))]⟩) (by kernel_rfl) ⟨len_map _ _, trivial⟩ ?_
  refine hN10 _ ?_
  refine awp_cond (t := decide (¬ (List.length x8_2 : Int) = (4 : Int))) rfl (fun hb => ?_) (fun hb => ?_)
  · rw [if_pos hb] at h
    refine awp_seq fun N12 hN12 => ?_
    refine awp_reg kpNone [] [] [0] (cs := []) (st' := ⟨82, [(0, AV.bool false)], [(2, (false, [AV.fl 4596373779694328218, AV.fl 4605380978949069210])), (1, (false, [.slice (.own 9) 5 [Node.av x4_0, Node.av x4_1, .agg [AV.str [99], .nils, .nils, .nils, AV.bool false], Node.av x4_3], .slice (.own 12) 11 (List.map Pod.av [x4_5, x4_6]), .nils]))], [], [(12, (44, 11, 2)), (9, (71, 5, 4))]⟩) (by kernel_rfl) trivial ?_
    refine hN12 _ ?_
    have h := Option.some.inj h
    subst h
    exact awp_ret ⟨[AV.bool false], by kernel_rfl, Lw.refl _⟩
  · rw [if_false hb] at h
    refine awp_skip ?_
    refine hN9 _ ?_
    refine awp_seq fun N14 hN14 => ?_
    obtain ⟨x15_0, hx15_0, h⟩ := Option.bind_eq_some_iff.1 h
    refine awp_reg kpNone [(0, AV.fl x15_0)] [] [1, 2, 3, 4] (cs := [(Det Tryz.prog 91 [AV.int 0, AV.int 0] (.ret (AV.fl x15_0)))]) (st' := ⟨82, [(1, .varp 1 0), (2, .varp 2 0), (3, AV.lst 1 AV.int x8_2), (4, AV.fl x15_0)], [(2, (false, [AV.fl 4596373779694328218, AV.fl 4605380978949069210])), (1, (false, [.slice (.own 9) 5 [Node.av x4_0, Node.av x4_1, .agg [AV.str [99], .nils, .nils, .nils, AV.bool false], Node.av x4_3], .slice (.own 12) 11 (List.map Pod.av [x4_5, x4_6]), .nils]))], [], [(12, (44, 11, 2)), (9, (71, 5, 4))]⟩) (by kernel_rfl) ⟨c91 0 0 _ hx15_0, trivial⟩ ?_
    refine hN14 _ ?_
    refine awp_seq fun N16 hN16 => ?_
    refine awp_to (σ := Bool) (fun p27 => ⟨82, [(0, AV.bool p27)], [(2, (false, [AV.fl 4596373779694328218, AV.fl 4605380978949069210])), (1, (false, [.slice (.own 9) 5 [Node.av x4_0, Node.av x4_1, .agg [AV.str [99], .nils, .nils, .nils, AV.bool false], Node.av x4_3], .slice (.own 12) 11 (List.map Pod.av [x4_5, x4_6]), .nils]))], [], [(9, (71, 5, 4)), (12, (44, 11, List.length (List.map Pod.av [x4_5, x4_6])))]⟩) (fun p27 => F25.j27 p27 = some r) (fun p27 h => ?_) (fun N27 hJ27 => ?_)
    · unfold F25.j27 at h
      refine hN16 _ ?_
      have h := Option.some.inj h
      subst h
      exact awp_ret ⟨[AV.bool p27], by kernel_rfl, Lw.refl _⟩
    · obtain ⟨x17_1, hx17_1, h⟩ := Option.bind_eq_some_iff.1 h
      by_cases hg18 : decide (x17_1 = (2 : Int)) = true
      · rw [if_pos hg18] at h
        obtain ⟨x17_6, hx17_6, h⟩ := Option.bind_eq_some_iff.1 h
        by_cases hg19 : decide (x17_6 = (0 : Int)) = true
        · rw [if_pos hg19] at h
          obtain ⟨x17_12, hx17_12, h⟩ := Option.bind_eq_some_iff.1 h
          by_cases hg20 : decide (x17_12 = (1 : Int)) = true
          · rw [if_pos hg20] at h
            obtain ⟨x17_18, hx17_18, h⟩ := Option.bind_eq_some_iff.1 h
            by_cases hg21 : decide (x17_18 = (1 : Int)) = true
            · rw [if_pos hg21] at h
              obtain ⟨x17_25, hx17_25, h⟩ := Option.bind_eq_some_iff.1 h
              by_cases hg22 : decide (x17_25 = (1 : Int)) = true
              · rw [if_pos hg22] at h
                obtain ⟨x17_33, hx17_33, h⟩ := Option.bind_eq_some_iff.1 h
                by_cases hg23 : decide (x17_33 = (0 : Int)) = true
                · rw [if_pos hg23] at h
                  obtain ⟨x17_40, hx17_40, h⟩ := Option.bind_eq_some_iff.1 h
                  by_cases hg24 : decide (x17_40 = (2 : Int)) = true
                  · rw [if_pos hg24] at h
                    obtain ⟨x17_45, hx17_45, h⟩ := Option.bind_eq_some_iff.1 h
                    by_cases hg25 : fEq x17_45 4606281698874543309 = true
                    · rw [if_pos hg25] at h
                      obtain ⟨x17_50, hx17_50, h⟩ := Option.bind_eq_some_iff.1 h
                      obtain ⟨x17_51, hx17_51, h⟩ := Option.bind_eq_some_iff.1 h
                      by_cases hg26 : decide (x17_51 = (6 : Int)) = true
                      · rw [if_pos hg26] at h
                        obtain ⟨x17_57, hx17_57, h⟩ := Option.bind_eq_some_iff.1 h
                        refine awp_reg kpNone [(1, AV.int x17_1), (6, AV.int x17_6), (12, AV.int x17_12), (18, AV.int x17_18), (25, AV.int x17_25), (33, AV.int x17_33), (40, AV.int x17_40), (45, AV.fl x17_45), (50, AV.fl x17_50), (51, AV.int x17_51), (57, AV.int x17_57)] [(4, true), (10, true), (16, true), (22, true), (28, true), (36, true), (43, true), (48, true), (54, true)] [0] (cs := [(0 ≤ (0 : Int)), ((List.map AV.int x8_2)[Int.toNat (0 : Int)]? = some (AV.int x17_1)), (decide (x17_1 = (2 : Int)) = true), (0 ≤ (1 : Int)), ((List.map AV.int x8_2)[Int.toNat (1 : Int)]? = some (AV.int x17_6)), (decide (x17_6 = (0 : Int)) = true), (0 ≤ (2 : Int)), ((List.map AV.int x8_2)[Int.toNat (2 : Int)]? = some (AV.int x17_12)), (decide (x17_12 = (1 : Int)) = true), (0 ≤ (3 : Int)), ((List.map AV.int x8_2)[Int.toNat (3 : Int)]? = some (AV.int x17_18)), (decide (x17_18 = (1 : Int)) = true), (Det Tryz.prog 92 [.agg [.slice .non 5 [Node.av x4_0, Node.av x4_1, .agg [AV.str [99], .nils, .nils, .nils, AV.bool false], Node.av x4_3], AV.lst 11 Pod.av [x4_5, x4_6], .nils], AV.str [98], .agg [AV.fl 0, AV.fl 4607182418800017408]] (.ret (AV.int x17_25))), (decide (x17_25 = (1 : Int)) = true), (Det Tryz.prog 92 [.agg [.slice .non 5 [Node.av x4_0, Node.av x4_1, .agg [AV.str [99], .nils, .nils, .nils, AV.bool false], Node.av x4_3], AV.lst 11 Pod.av [x4_5, x4_6], .nils], AV.str [97], .agg [AV.fl x15_0, AV.fl x15_0]] (.ret (AV.int x17_33))), (decide (x17_33 = (0 : Int)) = true), (Det Tryz.prog 92 [.agg [.slice .non 5 [Node.av x4_0, Node.av x4_1, .agg [AV.str [99], .nils, .nils, .nils, AV.bool false], Node.av x4_3], AV.lst 11 Pod.av [x4_5, x4_6], .nils], AV.str [97], .agg [AV.fl x15_0, AV.fl 4602678819172646912]] (.ret (AV.int x17_40))), (decide (x17_40 = (2 : Int)) = true), (Det Tryz.prog 93 [.agg [.slice .non 5 [Node.av x4_0, Node.av x4_1, .agg [AV.str [99], .nils, .nils, .nils, AV.bool false], Node.av x4_3], AV.lst 11 Pod.av [x4_5, x4_6], .nils], AV.str [97]] (.ret (AV.fl x17_45))), (fEq x17_45 4606281698874543309 = true), (Det Tryz.prog 93 [.agg [.slice .non 5 [Node.av x4_0, Node.av x4_1, .agg [AV.str [99], .nils, .nils, .nils, AV.bool false], Node.av x4_3], AV.lst 11 Pod.av [x4_5, x4_6], .nils], AV.str [99]] (.ret (AV.fl x17_50))), (Det Tryz.prog 94 [AV.fl x17_50] (.ret (AV.int x17_51))), (decide (x17_51 = (6 : Int)) = true), (Det Tryz.prog 92 [.agg [.slice .non 5 [Node.av x4_0, Node.av x4_1, .agg [AV.str [99], .nils, .nils, .nils, AV.bool false], Node.av x4_3], AV.lst 11 Pod.av [x4_5, x4_6], .nils], AV.str [122], .agg [AV.fl 4596373779694328218, AV.fl 4605380978949069210]] (.ret (AV.int x17_57)))]) (st' := ⟨82, [(0, AV.bool (decide (x17_57 = (1 : Int))))], [(2, (false, [AV.fl 4596373779694328218, AV.fl 4605380978949069210])), (1, (false, [.slice (.own 9) 5 [Node.av x4_0, Node.av x4_1, .agg [AV.str [99], .nils, .nils, .nils, AV.bool false], Node.av x4_3], .slice (.own 12) 11 (List.map Pod.av [x4_5, x4_6]), .nils]))], [], [(12, (44, 11, 2)), (9, (71, 5, 4))]⟩) (by kernel_rfl) ⟨getI_le hx17_1, getI_map hx17_1 _, hg18, getI_le hx17_6, getI_map hx17_6 _, hg19, getI_le hx17_12, getI_map hx17_12 _, hg20, getI_le hx17_18, getI_map hx17_18 _, hg21, Det.args (c92 (⟨[x4_0, x4_1, (⟨[99], ([] : (List Amount)), ([] : (List Pair)), ([] : (List Taint)), false⟩ : Node), x4_3], [x4_5, x4_6], ([] : (List Budget))⟩ : State) [98] (⟨0, 4607182418800017408⟩ : Marks) _ hx17_25) ⟨(Lw.aggL ⟨(Lw.sliceL ⟨⟨LwL_rfl _, rfl⟩, ⟨LwL_rfl _, rfl⟩, ⟨⟨(Lw.refl _), (Lw.nils _), (Lw.nils _), (Lw.nils _), (Lw.refl _), trivial⟩, rfl⟩, ⟨LwL_rfl _, rfl⟩, trivial⟩), (Lw.refl _), (Lw.nils _), trivial⟩), (Lw.refl _), (Lw.refl _), trivial⟩, hg22, Det.args (c92 (⟨[x4_0, x4_1, (⟨[99], ([] : (List Amount)), ([] : (List Pair)), ([] : (List Taint)), false⟩ : Node), x4_3], [x4_5, x4_6], ([] : (List Budget))⟩ : State) [97] (⟨x15_0, x15_0⟩ : Marks) _ hx17_33) ⟨(Lw.aggL ⟨(Lw.sliceL ⟨⟨LwL_rfl _, rfl⟩, ⟨LwL_rfl _, rfl⟩, ⟨⟨(Lw.refl _), (Lw.nils _), (Lw.nils _), (Lw.nils _), (Lw.refl _), trivial⟩, rfl⟩, ⟨LwL_rfl _, rfl⟩, trivial⟩), (Lw.refl _), (Lw.nils _), trivial⟩), (Lw.refl _), (Lw.refl _), trivial⟩, hg23, Det.args (c92 (⟨[x4_0, x4_1, (⟨[99], ([] : (List Amount)), ([] : (List Pair)), ([] : (List Taint)), false⟩ : Node), x4_3], [x4_5, x4_6], ([] : (List Budget))⟩ : State) [97] (⟨x15_0, 4602678819172646912⟩ : Marks) _ hx17_40) ⟨(Lw.aggL ⟨(Lw.sliceL ⟨⟨LwL_rfl _, rfl⟩, ⟨LwL_rfl _, rfl⟩, ⟨⟨(Lw.refl _), (Lw.nils _), (Lw.nils _), (Lw.nils _), (Lw.refl _), trivial⟩, rfl⟩, ⟨LwL_rfl _, rfl⟩, trivial⟩), (Lw.refl _), (Lw.nils _), trivial⟩), (Lw.refl _), (Lw.refl _), trivial⟩, hg24, Det.args (c93 (⟨[x4_0, x4_1, (⟨[99], ([] : (List Amount)), ([] : (List Pair)), ([] : (List Taint)), false⟩ : Node), x4_3], [x4_5, x4_6], ([] : (List Budget))⟩ : State) [97] _ hx17_45) ⟨(Lw.aggL ⟨(Lw.sliceL ⟨⟨LwL_rfl _, rfl⟩, ⟨LwL_rfl _, rfl⟩, ⟨⟨(Lw.refl _), (Lw.nils _), (Lw.nils _), (Lw.nils _), (Lw.refl _), trivial⟩, rfl⟩, ⟨LwL_rfl _, rfl⟩, trivial⟩), (Lw.refl _), (Lw.nils _), trivial⟩), (Lw.refl _), trivial⟩, hg25, Det.args (c93 (⟨[x4_0, x4_1, (⟨[99], ([] : (List Amount)), ([] : (List Pair)), ([] : (List Taint)), false⟩ : Node), x4_3], [x4_5, x4_6], ([] : (List Budget))⟩ : State) [99] _ hx17_50) ⟨(Lw.aggL ⟨(Lw.sliceL ⟨⟨LwL_rfl _, rfl⟩, ⟨LwL_rfl _, rfl⟩, ⟨⟨(Lw.refl _), (Lw.nils _), (Lw.nils _), (Lw.nils _), (Lw.refl _), trivial⟩, rfl⟩, ⟨LwL_rfl _, rfl⟩, trivial⟩), (Lw.refl _), (Lw.nils _), trivial⟩), (Lw.refl _), trivial⟩, c94 x17_50 _ hx17_51, hg26, Det.args (c92 (⟨[x4_0, x4_1, (⟨[99], ([] : (List Amount)), ([] : (List Pair)), ([] : (List Taint)), false⟩ : Node), x4_3], [x4_5, x4_6], ([] : (List Budget))⟩ : State) [122] (⟨4596373779694328218, 4605380978949069210⟩ : Marks) _ hx17_57) ⟨(Lw.aggL ⟨(Lw.sliceL ⟨⟨LwL_rfl _, rfl⟩, ⟨LwL_rfl _, rfl⟩, ⟨⟨(Lw.refl _), (Lw.nils _), (Lw.nils _), (Lw.nils _), (Lw.refl _), trivial⟩, rfl⟩, ⟨LwL_rfl _, rfl⟩, trivial⟩), (Lw.refl _), (Lw.nils _), trivial⟩), (Lw.refl _), (Lw.refl _), trivial⟩, trivial⟩ ?_
                        exact hJ27 (decide (x17_57 = (1 : Int))) _ h (Le.mk rfl ⟨rfl, trivial⟩ ⟨⟨rfl, ⟨rfl, rfl, trivial⟩⟩, ⟨rfl, ⟨.inl ⟨rfl, rfl⟩, .inl ⟨rfl, rfl⟩, rfl, trivial⟩⟩, trivial⟩ ⟨rfl, rfl, trivial⟩ trivial)
                      · rw [if_neg hg26] at h
                        have hg26 := Bool.eq_false_iff.2 hg26
                        refine awp_reg kpNone [(1, AV.int x17_1), (6, AV.int x17_6), (12, AV.int x17_12), (18, AV.int x17_18), (25, AV.int x17_25), (33, AV.int x17_33), (40, AV.int x17_40), (45, AV.fl x17_45), (50, AV.fl x17_50), (51, AV.int x17_51)] [(4, true), (10, true), (16, true), (22, true), (28, true), (36, true), (43, true), (48, true), (54, false)] [0] (cs := [(0 ≤ (0 : Int)), ((List.map AV.int x8_2)[Int.toNat (0 : Int)]? = some (AV.int x17_1)), (decide (x17_1 = (2 : Int)) = true), (0 ≤ (1 : Int)), ((List.map AV.int x8_2)[Int.toNat (1 : Int)]? = some (AV.int x17_6)), (decide (x17_6 = (0 : Int)) = true), (0 ≤ (2 : Int)), ((List.map AV.int x8_2)[Int.toNat (2 : Int)]? = some (AV.int x17_12)), (decide (x17_12 = (1 : Int)) = true), (0 ≤ (3 : Int)), ((List.map AV.int x8_2)[Int.toNat (3 : Int)]? = some (AV.int x17_18)), (decide (x17_18 = (1 : Int)) = true), (Det Tryz.prog 92 [.agg [.slice .non 5 [Node.av x4_0, Node.av x4_1, .agg [AV.str [99], .nils, .nils, .nils, AV.bool false], Node.av x4_3], AV.lst 11 Pod.av [x4_5, x4_6], .nils], AV.str [98], .agg [AV.fl 0, AV.fl 4607182418800017408]] (.ret (AV.int x17_25))), (decide (x17_25 = (1 : Int)) = true), (Det Tryz.prog 92 [.agg [.slice .non 5 [Node.av x4_0, Node.av x4_1, .agg [AV.str [99], .nils, .nils, .nils, AV.bool false], Node.av x4_3], AV.lst 11 Pod.av [x4_5, x4_6], .nils], AV.str [97], .agg [AV.fl x15_0, AV.fl x15_0]] (.ret (AV.int x17_33))), (decide (x17_33 = (0 : Int)) = true), (Det Tryz.prog 92 [.agg [.slice .non 5 [Node.av x4_0, Node.av x4_1, .agg [AV.str [99], .nils, .nils, .nils, AV.bool false], Node.av x4_3], AV.lst 11 Pod.av [x4_5, x4_6], .nils], AV.str [97], .agg [AV.fl x15_0, AV.fl 4602678819172646912]] (.ret (AV.int x17_40))), (decide (x17_40 = (2 : Int)) = true), (Det Tryz.prog 93 [.agg [.slice .non 5 [Node.av x4_0, Node.av x4_1, .agg [AV.str [99], .nils, .nils, .nils, AV.bool false], Node.av x4_3], AV.lst 11 Pod.av [x4_5, x4_6], .nils], AV.str [97]] (.ret (AV.fl x17_45))), (fEq x17_45 4606281698874543309 = true), (Det Tryz.prog 93 [.agg [.slice .non 5 [Node.av x4_0, Node.av x4_1, .agg [AV.str [99], .nils, .nils, .nils, AV.bool false], Node.av x4_3], AV.lst 11 Pod.av [x4_5, x4_6], .nils], AV.str [99]] (.ret (AV.fl x17_50))), (Det Tryz.prog 94 [AV.fl x17_50] (.ret (AV.int x17_51))), (decide (x17_51 = (6 : Int)) = false)]) (st' := ⟨82, [(0, AV.bool false)], [(2, (false, [AV.fl 4596373779694328218, AV.fl 4605380978949069210])), (1, (false, [.slice (.own 9) 5 [Node.av x4_0, Node.av x4_1, .agg [AV.str [99], .nils, .nils, .nils, AV.bool false], Node.av x4_3], .slice (.own 12) 11 (List.map Pod.av [x4_5, x4_6]), .nils]))], [], [(12, (44, 11, 2)), (9, (71, 5, 4))]⟩) (by kernel_rfl) ⟨getI_le hx17_1, getI_map hx17_1 _, hg18, getI_le hx17_6, getI_map hx17_6 _, hg19, getI_le hx17_12, getI_map hx17_12 _, hg20, getI_le hx17_18, getI_map hx17_18 _, hg21, Det.args (c92 (⟨[x4_0, x4_1, (⟨[99], ([] : (List Amount)), ([] : (List Pair)), ([] : (List Taint)), false⟩ : Node), x4_3], [x4_5, x4_6], ([] : (List Budget))⟩ : State) [98] (⟨0, 4607182418800017408⟩ : Marks) _ hx17_25) ⟨(Lw.aggL ⟨(Lw.sliceL ⟨⟨LwL_rfl _, rfl⟩, ⟨LwL_rfl _, rfl⟩, ⟨⟨(Lw.refl _), (Lw.nils _), (Lw.nils _), (Lw.nils _), (Lw.refl _), trivial⟩, rfl⟩, ⟨LwL_rfl _, rfl⟩, trivial⟩), (Lw.refl _), (Lw.nils _), trivial⟩), (Lw.refl _), (Lw.refl _), trivial⟩, hg22, Det.args (c92 (⟨[x4_0, x4_1, (⟨[99], ([] : (List Amount)), ([] : (List Pair)), ([] : (List Taint)), false⟩ : Node), x4_3], [x4_5, x4_6], ([] : (List Budget))⟩ : State) [97] (⟨x15_0, x15_0⟩ : Marks) _ hx17_33) ⟨(Lw.aggL ⟨(Lw.sliceL ⟨⟨LwL_rfl _, rfl⟩, ⟨LwL_rfl _, rfl⟩, ⟨⟨(Lw.refl _), (Lw.nils _), (Lw.nils _), (Lw.nils _), (Lw.refl _), trivial⟩, rfl⟩, ⟨LwL_rfl _, rfl⟩, trivial⟩), (Lw.refl _), (Lw.nils _), trivial⟩), (Lw.refl _), (Lw.refl _), trivial⟩, hg23, Det.args (c92 (⟨[x4_0, x4_1, (⟨[99], ([] : (List Amount)), ([] : (List Pair)), ([] : (List Taint)), false⟩ : Node), x4_3], [x4_5, x4_6], ([] : (List Budget))⟩ : State) [97] (⟨x15_0, 4602678819172646912⟩ : Marks) _ hx17_40) ⟨(Lw.aggL ⟨(Lw.sliceL ⟨⟨LwL_rfl _, rfl⟩, ⟨LwL_rfl _, rfl⟩, ⟨⟨(Lw.refl _), (Lw.nils _), (Lw.nils _), (Lw.nils _), (Lw.refl _), trivial⟩, rfl⟩, ⟨LwL_rfl _, rfl⟩, trivial⟩), (Lw.refl _), (Lw.nils _), trivial⟩), (Lw.refl _), (Lw.refl _), trivial⟩, hg24, Det.args (c93 (⟨[x4_0, x4_1, (⟨[99], ([] : (List Amount)), ([] : (List Pair)), ([] : (List Taint)), false⟩ : Node), x4_3], [x4_5, x4_6], ([] : (List Budget))⟩ : State) [97] _ hx17_45) ⟨(Lw.aggL ⟨(Lw.sliceL ⟨⟨LwL_rfl _, rfl⟩, ⟨LwL_rfl _, rfl⟩, ⟨⟨(Lw.refl _), (Lw.nils _), (Lw.nils _), (Lw.nils _), (Lw.refl _), trivial⟩, rfl⟩, ⟨LwL_rfl _, rfl⟩, trivial⟩), (Lw.refl _), (Lw.nils _), trivial⟩), (Lw.refl _), trivial⟩, hg25, Det.args (c93 (⟨[x4_0, x4_1, (⟨[99], ([] : (List Amount)), ([] : (List Pair)), ([] : (List Taint)), false⟩ : Node), x4_3], [x4_5, x4_6], ([] : (List Budget))⟩ : State) [99] _ hx17_50) ⟨(Lw.aggL ⟨(Lw.sliceL ⟨⟨LwL_rfl _, rfl⟩, ⟨LwL_rfl _, rfl⟩, ⟨⟨(Lw.refl _), (Lw.nils _), (Lw.nils _), (Lw.nils _), (Lw.refl _), trivial⟩, rfl⟩, ⟨LwL_rfl _, rfl⟩, trivial⟩), (Lw.refl _), (Lw.nils _), trivial⟩), (Lw.refl _), trivial⟩, c94 x17_50 _ hx17_51, hg26, trivial⟩ ?_
                        exact hJ27 false _ h (Le.mk rfl ⟨rfl, trivial⟩ ⟨⟨rfl, ⟨rfl, rfl, trivial⟩⟩, ⟨rfl, ⟨.inl ⟨rfl, rfl⟩, .inl ⟨rfl, rfl⟩, rfl, trivial⟩⟩, trivial⟩ ⟨rfl, rfl, trivial⟩ trivial)
                    · rw [if_neg hg25] at h
                      have hg25 := Bool.eq_false_iff.2 hg25
                      refine awp_reg kpNone [(1, AV.int x17_1), (6, AV.int x17_6), (12, AV.int x17_12), (18, AV.int x17_18), (25, AV.int x17_25), (33, AV.int x17_33), (40, AV.int x17_40), (45, AV.fl x17_45)] [(4, true), (10, true), (16, true), (22, true), (28, true), (36, true), (43, true), (48, false)] [0] (cs := [(0 ≤ (0 : Int)), ((List.map AV.int x8_2)[Int.toNat (0 : Int)]? = some (AV.int x17_1)), (decide (x17_1 = (2 : Int)) = true), (0 ≤ (1 : Int)), ((List.map AV.int x8_2)[Int.toNat (1 : Int)]? = some (AV.int x17_6)), (decide (x17_6 = (0 : Int)) = true), (0 ≤ (2 : Int)), ((List.map AV.int x8_2)[Int.toNat (2 : Int)]? = some (AV.int x17_12)), (decide (x17_12 = (1 : Int)) = true), (0 ≤ (3 : Int)), ((List.map AV.int x8_2)[Int.toNat (3 : Int)]? = some (AV.int x17_18)), (decide (x17_18 = (1 : Int)) = true), (Det Tryz.prog 92 [.agg [.slice .non 5 [Node.av x4_0, Node.av x4_1, .agg [AV.str [99], .nils, .nils, .nils, AV.bool false], Node.av x4_3], AV.lst 11 Pod.av [x4_5, x4_6], .nils], AV.str [98], .agg [AV.fl 0, AV.fl 4607182418800017408]] (.ret (AV.int x17_25))), (decide (x17_25 = (1 : Int)) = true), (Det Tryz.prog 92 [.agg [.slice .non 5 [Node.av x4_0, Node.av x4_1, .agg [AV.str [99], .nils, .nils, .nils, AV.bool false], Node.av x4_3], AV.lst 11 Pod.av [x4_5, x4_6], .nils], AV.str [97], .agg [AV.fl x15_0, AV.fl x15_0]] (.ret (AV.int x17_33))), (decide (x17_33 = (0 : Int)) = true), (Det Tryz.prog 92 [.agg [.slice .non 5 [Node.av x4_0, Node.av x4_1, .agg [AV.str [99], .nils, .nils, .nils, AV.bool false], Node.av x4_3], AV.lst 11 Pod.av [x4_5, x4_6], .nils], AV.str [97], .agg [AV.fl x15_0, AV.fl 4602678819172646912]] (.ret (AV.int x17_40))), (decide (x17_40 = (2 : Int)) = true), (Det Tryz.prog 93 [.agg [.slice .non 5 [Node.av x4_0, Node.av x4_1, .agg [AV.str [99], .nils, .nils, .nils, AV.bool false], Node.av x4_3], AV.lst 11 Pod.av [x4_5, x4_6], .nils], AV.str [97]] (.ret (AV.fl x17_45))), (fEq x17_45 4606281698874543309 = false)]) (st' := ⟨82, [(0, AV.bool false)], [(2, (false, [AV.fl 4596373779694328218, AV.fl 4605380978949069210])), (1, (false, [.slice (.own 9) 5 [Node.av x4_0, Node.av x4_1, .agg [AV.str [99], .nils, .nils, .nils, AV.bool false], Node.av x4_3], .slice (.own 12) 11 (List.map Pod.av [x4_5, x4_6]), .nils]))], [], [(12, (44, 11, 2)), (9, (71, 5, 4))]⟩) (by kernel_rfl) ⟨getI_le hx17_1, getI_map hx17_1 _, hg18, getI_le hx17_6, getI_map hx17_6 _, hg19, getI_le hx17_12, getI_map hx17_12 _, hg20, getI_le hx17_18, getI_map hx17_18 _, hg21, Det.args (c92 (⟨[x4_0, x4_1, (⟨[99], ([] : (List Amount)), ([] : (List Pair)), ([] : (List Taint)), false⟩ : Node), x4_3], [x4_5, x4_6], ([] : (List Budget))⟩ : State) [98] (⟨0, 4607182418800017408⟩ : Marks) _ hx17_25) ⟨(Lw.aggL ⟨(Lw.sliceL ⟨⟨LwL_rfl _, rfl⟩, ⟨LwL_rfl _, rfl⟩, ⟨⟨(Lw.refl _), (Lw.nils _), (Lw.nils _), (Lw.nils _), (Lw.refl _), trivial⟩, rfl⟩, ⟨LwL_rfl _, rfl⟩, trivial⟩), (Lw.refl _), (Lw.nils _), trivial⟩), (Lw.refl _), (Lw.refl _), trivial⟩, hg22, Det.args (c92 (⟨[x4_0, x4_1, (⟨[99], ([] : (List Amount)), ([] : (List Pair)), ([] : (List Taint)), false⟩ : Node), x4_3], [x4_5, x4_6], ([] : (List Budget))⟩ : State) [97] (⟨x15_0, x15_0⟩ : Marks) _ hx17_33) ⟨(Lw.aggL ⟨(Lw.sliceL ⟨⟨LwL_rfl _, rfl⟩, ⟨LwL_rfl _, rfl⟩, ⟨⟨(Lw.refl _), (Lw.nils _), (Lw.nils _), (Lw.nils _), (Lw.refl _), trivial⟩, rfl⟩, ⟨LwL_rfl _, rfl⟩, trivial⟩), (Lw.refl _), (Lw.nils _), trivial⟩), (Lw.refl _), (Lw.refl _), trivial⟩, hg23, Det.args (c92 (⟨[x4_0, x4_1, (⟨[99], ([] : (List Amount)), ([] : (List Pair)), ([] : (List Taint)), false⟩ : Node), x4_3], [x4_5, x4_6], ([] : (List Budget))⟩ : State) [97] (⟨x15_0, 4602678819172646912⟩ : Marks) _ hx17_40) ⟨(Lw.aggL ⟨(Lw.sliceL ⟨⟨LwL_rfl _, rfl⟩, ⟨LwL_rfl _, rfl⟩, ⟨⟨(Lw.refl _), (Lw.nils _), (Lw.nils _), (Lw.nils _), (Lw.refl _), trivial⟩, rfl⟩, ⟨LwL_rfl _, rfl⟩, trivial⟩), (Lw.refl _), (Lw.nils _), trivial⟩), (Lw.refl _), (Lw.refl _), trivial⟩, hg24, Det.args (c93 (⟨[x4_0, x4_1, (⟨[99], ([] : (List Amount)), ([] : (List Pair)), ([] : (List Taint)), false⟩ : Node), x4_3], [x4_5, x4_6], ([] : (List Budget))⟩ : State) [97] _ hx17_45) ⟨(Lw.aggL ⟨(Lw.sliceL ⟨⟨LwL_rfl _, rfl⟩, ⟨LwL_rfl _, rfl⟩, ⟨⟨(Lw.refl _), (Lw.nils _), (Lw.nils _), (Lw.nils _), (Lw.refl _), trivial⟩, rfl⟩, ⟨LwL_rfl _, rfl⟩, trivial⟩), (Lw.refl _), (Lw.nils _), trivial⟩), (Lw.refl _), trivial⟩, hg25, trivial⟩ ?_
                      exact hJ27 false _ h (Le.mk rfl ⟨rfl, trivial⟩ ⟨⟨rfl, ⟨rfl, rfl, trivial⟩⟩, ⟨rfl, ⟨.inl ⟨rfl, rfl⟩, .inl ⟨rfl, rfl⟩, rfl, trivial⟩⟩, trivial⟩ ⟨rfl, rfl, trivial⟩ trivial)
                  · rw [if_neg hg24] at h
                    have hg24 := Bool.eq_false_iff.2 hg24
                    refine awp_reg kpNone [(1, AV.int x17_1), (6, AV.int x17_6), (12, AV.int x17_12), (18, AV.int x17_18), (25, AV.int x17_25), (33, AV.int x17_33), (40, AV.int x17_40)] [(4, true), (10, true), (16, true), (22, true), (28, true), (36, true), (43, false)] [0] (cs := [(0 ≤ (0 : Int)), ((List.map AV.int x8_2)[Int.toNat (0 : Int)]? = some (AV.int x17_1)), (decide (x17_1 = (2 : Int)) = true), (0 ≤ (1 : Int)), ((List.map AV.int x8_2)[Int.toNat (1 : Int)]? = some (AV.int x17_6)), (decide (x17_6 = (0 : Int)) = true), (0 ≤ (2 : Int)), ((List.map AV.int x8_2)[Int.toNat (2 : Int)]? = some (AV.int x17_12)), (decide (x17_12 = (1 : Int)) = true), (0 ≤ (3 : Int)), ((List.map AV.int x8_2)[Int.toNat (3 : Int)]? = some (AV.int x17_18)), (decide (x17_18 = (1 : Int)) = true), (Det Tryz.prog 92 [.agg [.slice .non 5 [Node.av x4_0, Node.av x4_1, .agg [AV.str [99], .nils, .nils, .nils, AV.bool false], Node.av x4_3], AV.lst 11 Pod.av [x4_5, x4_6], .nils], AV.str [98], .agg [AV.fl 0, AV.fl 4607182418800017408]] (.ret (AV.int x17_25))), (decide (x17_25 = (1 : Int)) = true), (Det Tryz.prog 92 [.agg [.slice .non 5 [Node.av x4_0, Node.av x4_1, .agg [AV.str [99], .nils, .nils, .nils, AV.bool false], Node.av x4_3], AV.lst 11 Pod.av [x4_5, x4_6], .nils], AV.str [97], .agg [AV.fl x15_0, AV.fl x15_0]] (.ret (AV.int x17_33))), (decide (x17_33 = (0 : Int)) = true), (Det Tryz.prog 92 [.agg [.slice .non 5 [Node.av x4_0, Node.av x4_1, .agg [AV.str [99], .nils, .nils, .nils, AV.bool false], Node.av x4_3], AV.lst 11 Pod.av [x4_5, x4_6], .nils], AV.str [97], .agg [AV.fl x15_0, AV.fl 4602678819172646912]] (.ret (AV.int x17_40))), (decide (x17_40 = (2 : Int)) = false)]) (st' := ⟨82, [(0, AV.bool false)], [(2, (false, [AV.fl 4596373779694328218, AV.fl 4605380978949069210])), (1, (false, [.slice (.own 9) 5 [Node.av x4_0, Node.av x4_1, .agg [AV.str [99], .nils, .nils, .nils, AV.bool false], Node.av x4_3], .slice (.own 12) 11 (List.map Pod.av [x4_5, x4_6]), .nils]))], [], [(12, (44, 11, 2)), (9, (71, 5, 4))]⟩) (by kernel_rfl) ⟨getI_le hx17_1, getI_map hx17_1 _, hg18, getI_le hx17_6, getI_map hx17_6 _, hg19, getI_le hx17_12, getI_map hx17_12 _, hg20, getI_le hx17_18, getI_map hx17_18 _, hg21, Det.args (c92 (⟨[x4_0, x4_1, (⟨[99], ([] : (List Amount)), ([] : (List Pair)), ([] : (List Taint)), false⟩ : Node), x4_3], [x4_5, x4_6], ([] : (List Budget))⟩ : State) [98] (⟨0, 4607182418800017408⟩ : Marks) _ hx17_25) ⟨(Lw.aggL ⟨(Lw.sliceL ⟨⟨LwL_rfl _, rfl⟩, ⟨LwL_rfl _, rfl⟩, ⟨⟨(Lw.refl _), (Lw.nils _), (Lw.nils _), (Lw.nils _), (Lw.refl _), trivial⟩, rfl⟩, ⟨LwL_rfl _, rfl⟩, trivial⟩), (Lw.refl _), (Lw.nils _), trivial⟩), (Lw.refl _), (Lw.refl _), trivial⟩, hg22, Det.args (c92 (⟨[x4_0, x4_1, (⟨[99], ([] : (List Amount)), ([] : (List Pair)), ([] : (List Taint)), false⟩ : Node), x4_3], [x4_5, x4_6], ([] : (List Budget))⟩ : State) [97] (⟨x15_0, x15_0⟩ : Marks) _ hx17_33) ⟨(Lw.aggL ⟨(Lw.sliceL ⟨⟨LwL_rfl _, rfl⟩, ⟨LwL_rfl _, rfl⟩, ⟨⟨(Lw.refl _), (Lw.nils _), (Lw.nils _), (Lw.nils _), (Lw.refl _), trivial⟩, rfl⟩, ⟨LwL_rfl _, rfl⟩, trivial⟩), (Lw.refl _), (Lw.nils _), trivial⟩), (Lw.refl _), (Lw.refl _), trivial⟩, hg23, Det.args (c92 (⟨[x4_0, x4_1, (⟨[99], ([] : (List Amount)), ([] : (List Pair)), ([] : (List Taint)), false⟩ : Node), x4_3], [x4_5, x4_6], ([] : (List Budget))⟩ : State) [97] (⟨x15_0, 4602678819172646912⟩ : Marks) _ hx17_40) ⟨(Lw.aggL ⟨(Lw.sliceL ⟨⟨LwL_rfl _, rfl⟩, ⟨LwL_rfl _, rfl⟩, ⟨⟨(Lw.refl _), (Lw.nils _), (Lw.nils _), (Lw.nils _), (Lw.refl _), trivial⟩, rfl⟩, ⟨LwL_rfl _, rfl⟩, trivial⟩), (Lw.refl _), (Lw.nils _), trivial⟩), (Lw.refl _), (Lw.refl _), trivial⟩, hg24, trivial⟩ ?_
                    exact hJ27 false _ h (Le.mk rfl ⟨rfl, trivial⟩ ⟨⟨rfl, ⟨rfl, rfl, trivial⟩⟩, ⟨rfl, ⟨.inl ⟨rfl, rfl⟩, .inl ⟨rfl, rfl⟩, rfl, trivial⟩⟩, trivial⟩ ⟨rfl, rfl, trivial⟩ trivial)
                · rw [if_neg hg23] at h
                  have hg23 := Bool.eq_false_iff.2 hg23
                  refine awp_reg kpNone [(1, AV.int x17_1), (6, AV.int x17_6), (12, AV.int x17_12), (18, AV.int x17_18), (25, AV.int x17_25), (33, AV.int x17_33)] [(4, true), (10, true), (16, true), (22, true), (28, true), (36, false)] [0] (cs := [(0 ≤ (0 : Int)), ((List.map AV.int x8_2)[Int.toNat (0 : Int)]? = some (AV.int x17_1)), (decide (x17_1 = (2 : Int)) = true), (0 ≤ (1 : Int)), ((List.map AV.int x8_2)[Int.toNat (1 : Int)]? = some (AV.int x17_6)), (decide (x17_6 = (0 : Int)) = true), (0 ≤ (2 : Int)), ((List.map AV.int x8_2)[Int.toNat (2 : Int)]? = some (AV.int x17_12)), (decide (x17_12 = (1 : Int)) = true), (0 ≤ (3 : Int)), ((List.map AV.int x8_2)[Int.toNat (3 : Int)]? = some (AV.int x17_18)), (decide (x17_18 = (1 : Int)) = true), (Det Tryz.prog 92 [.agg [.slice .non 5 [Node.av x4_0, Node.av x4_1, .agg [AV.str [99], .nils, .nils, .nils, AV.bool false], Node.av x4_3], AV.lst 11 Pod.av [x4_5, x4_6], .nils], AV.str [98], .agg [AV.fl 0, AV.fl 4607182418800017408]] (.ret (AV.int x17_25))), (decide (x17_25 = (1 : Int)) = true), (Det Tryz.prog 92 [.agg [.slice .non 5 [Node.av x4_0, Node.av x4_1, .agg [AV.str [99], .nils, .nils, .nils, AV.bool false], Node.av x4_3], AV.lst 11 Pod.av [x4_5, x4_6], .nils], AV.str [97], .agg [AV.fl x15_0, AV.fl x15_0]] (.ret (AV.int x17_33))), (decide (x17_33 = (0 : Int)) = false)]) (st' := ⟨82, [(0, AV.bool false)], [(2, (false, [AV.fl 4596373779694328218, AV.fl 4605380978949069210])), (1, (false, [.slice (.own 9) 5 [Node.av x4_0, Node.av x4_1, .agg [AV.str [99], .nils, .nils, .nils, AV.bool false], Node.av x4_3], .slice (.own 12) 11 (List.map Pod.av [x4_5, x4_6]), .nils]))], [], [(12, (44, 11, 2)), (9, (71, 5, 4))]⟩) (by kernel_rfl) ⟨getI_le hx17_1, getI_map hx17_1 _, hg18, getI_le hx17_6, getI_map hx17_6 _, hg19, getI_le hx17_12, getI_map hx17_12 _, hg20, getI_le hx17_18, getI_map hx17_18 _, hg21, Det.args (c92 (⟨[x4_0, x4_1, (⟨[99], ([] : (List Amount)), ([] : (List Pair)), ([] : (List Taint)), false⟩ : Node), x4_3], [x4_5, x4_6], ([] : (List Budget))⟩ : State) [98] (⟨0, 4607182418800017408⟩ : Marks) _ hx17_25) ⟨(Lw.aggL ⟨(Lw.sliceL ⟨⟨LwL_rfl _, rfl⟩, ⟨LwL_rfl _, rfl⟩, ⟨⟨(Lw.refl _), (Lw.nils _), (Lw.nils _), (Lw.nils _), (Lw.refl _), trivial⟩, rfl⟩, ⟨LwL_rfl _, rfl⟩, trivial⟩), (Lw.refl _), (Lw.nils _), trivial⟩), (Lw.refl _), (Lw.refl _), trivial⟩, hg22, Det.args (c92 (⟨[x4_0, x4_1, (⟨[99], ([] : (List Amount)), ([] : (List Pair)), ([] : (List Taint)), false⟩ : Node), x4_3], [x4_5, x4_6], ([] : (List Budget))⟩ : State) [97] (⟨x15_0, x15_0⟩ : Marks) _ hx17_33) ⟨(Lw.aggL ⟨(Lw.sliceL ⟨⟨LwL_rfl _, rfl⟩, ⟨LwL_rfl _, rfl⟩, ⟨⟨(Lw.refl _), (Lw.nils _), (Lw.nils _), (Lw.nils _), (Lw.refl _), trivial⟩, rfl⟩, ⟨LwL_rfl _, rfl⟩, trivial⟩), (Lw.refl _), (Lw.nils _), trivial⟩), (Lw.refl _), (Lw.refl _), trivial⟩, hg23, trivial⟩ ?_
                  exact hJ27 false _ h (Le.mk rfl ⟨rfl, trivial⟩ ⟨⟨rfl, ⟨rfl, rfl, trivial⟩⟩, ⟨rfl, ⟨.inl ⟨rfl, rfl⟩, .inl ⟨rfl, rfl⟩, rfl, trivial⟩⟩, trivial⟩ ⟨rfl, rfl, trivial⟩ trivial)
              · rw [if_neg hg22] at h
                have hg22 := Bool.eq_false_iff.2 hg22
                refine awp_reg kpNone [(1, AV.int x17_1), (6, AV.int x17_6), (12, AV.int x17_12), (18, AV.int x17_18), (25, AV.int x17_25)] [(4, true), (10, true), (16, true), (22, true), (28, false)] [0] (cs := [(0 ≤ (0 : Int)), ((List.map AV.int x8_2)[Int.toNat (0 : Int)]? = some (AV.int x17_1)), (decide (x17_1 = (2 : Int)) = true), (0 ≤ (1 : Int)), ((List.map AV.int x8_2)[Int.toNat (1 : Int)]? = some (AV.int x17_6)), (decide (x17_6 = (0 : Int)) = true), (0 ≤ (2 : Int)), ((List.map AV.int x8_2)[Int.toNat (2 : Int)]? = some (AV.int x17_12)), (decide (x17_12 = (1 : Int)) = true), (0 ≤ (3 : Int)), ((List.map AV.int x8_2)[Int.toNat (3 : Int)]? = some (AV.int x17_18)), (decide (x17_18 = (1 : Int)) = true), (Det Tryz.prog 92 [.agg [.slice .non 5 [Node.av x4_0, Node.av x4_1, .agg [AV.str [99], .nils, .nils, .nils, AV.bool false], Node.av x4_3], AV.lst 11 Pod.av [x4_5, x4_6], .nils], AV.str [98], .agg [AV.fl 0, AV.fl 4607182418800017408]] (.ret (AV.int x17_25))), (decide (x17_25 = (1 : Int)) = false)]) (st' := ⟨82, [(0, AV.bool false)], [(2, (false, [AV.fl 4596373779694328218, AV.fl 4605380978949069210])), (1, (false, [.slice (.own 9) 5 [Node.av x4_0, Node.av x4_1, .agg [AV.str [99], .nils, .nils, .nils, AV.bool false], Node.av x4_3], .slice (.own 12) 11 (List.map Pod.av [x4_5, x4_6]), .nils]))], [], [(12, (44, 11, 2)), (9, (71, 5, 4))]⟩) (by kernel_rfl) ⟨getI_le hx17_1, getI_map hx17_1 _, hg18, getI_le hx17_6, getI_map hx17_6 _, hg19, getI_le hx17_12, getI_map hx17_12 _, hg20, getI_le hx17_18, getI_map hx17_18 _, hg21, Det.args (c92 (⟨[x4_0, x4_1, (⟨[99], ([] : (List Amount)), ([] : (List Pair)), ([] : (List Taint)), false⟩ : Node), x4_3], [x4_5, x4_6], ([] : (List Budget))⟩ : State) [98] (⟨0, 4607182418800017408⟩ : Marks) _ hx17_25) ⟨(Lw.aggL ⟨(Lw.sliceL ⟨⟨LwL_rfl _, rfl⟩, ⟨LwL_rfl _, rfl⟩, ⟨⟨(Lw.refl _), (Lw.nils _), (Lw.nils _), (Lw.nils _), (Lw.refl _), trivial⟩, rfl⟩, ⟨LwL_rfl _, rfl⟩, trivial⟩), (Lw.refl _), (Lw.nils _), trivial⟩), (Lw.refl _), (Lw.refl _), trivial⟩, hg22, trivial⟩ ?_
                exact hJ27 false _ h (Le.mk rfl ⟨rfl, trivial⟩ ⟨⟨rfl, ⟨rfl, rfl, trivial⟩⟩, ⟨rfl, ⟨.inl ⟨rfl, rfl⟩, .inl ⟨rfl, rfl⟩, rfl, trivial⟩⟩, trivial⟩ ⟨rfl, rfl, trivial⟩ trivial)
            · rw [if_neg hg21] at h
              have hg21 := Bool.eq_false_iff.2 hg21
              refine awp_reg kpNone [(1, AV.int x17_1), (6, AV.int x17_6), (12, AV.int x17_12), (18, AV.int x17_18)] [(4, true), (10, true), (16, true), (22, false)] [0] (cs := [(0 ≤ (0 : Int)), ((List.map AV.int x8_2)[Int.toNat (0 : Int)]? = some (AV.int x17_1)), (decide (x17_1 = (2 : Int)) = true), (0 ≤ (1 : Int)), ((List.map AV.int x8_2)[Int.toNat (1 : Int)]? = some (AV.int x17_6)), (decide (x17_6 = (0 : Int)) = true), (0 ≤ (2 : Int)), ((List.map AV.int x8_2)[Int.toNat (2 : Int)]? = some (AV.int x17_12)), (decide (x17_12 = (1 : Int)) = true), (0 ≤ (3 : Int)), ((List.map AV.int x8_2)[Int.toNat (3 : Int)]? = some (AV.int x17_18)), (decide (x17_18 = (1 : Int)) = false)]) (st' := ⟨82, [(0, AV.bool false)], [(2, (false, [AV.fl 4596373779694328218, AV.fl 4605380978949069210])), (1, (false, [.slice (.own 9) 5 [Node.av x4_0, Node.av x4_1, .agg [AV.str [99], .nils, .nils, .nils, AV.bool false], Node.av x4_3], .slice (.own 12) 11 (List.map Pod.av [x4_5, x4_6]), .nils]))], [], [(12, (44, 11, 2)), (9, (71, 5, 4))]⟩) (by kernel_rfl) ⟨getI_le hx17_1, getI_map hx17_1 _, hg18, getI_le hx17_6, getI_map hx17_6 _, hg19, getI_le hx17_12, getI_map hx17_12 _, hg20, getI_le hx17_18, getI_map hx17_18 _, hg21, trivial⟩ ?_
              exact hJ27 false _ h (Le.mk rfl ⟨rfl, trivial⟩ ⟨⟨rfl, ⟨rfl, rfl, trivial⟩⟩, ⟨rfl, ⟨.inl ⟨rfl, rfl⟩, .inl ⟨rfl, rfl⟩, rfl, trivial⟩⟩, trivial⟩ ⟨rfl, rfl, trivial⟩ trivial)
          · rw [if_neg hg20] at h
            have hg20 := Bool.eq_false_iff.2 hg20
            refine awp_reg kpNone [(1, AV.int x17_1), (6, AV.int x17_6), (12, AV.int x17_12)] [(4, true), (10, true), (16, false)] [0] (cs := [(0 ≤ (0 : Int)), ((List.map AV.int x8_2)[Int.toNat (0 : Int)]? = some (AV.int x17_1)), (decide (x17_1 = (2 : Int)) = true), (0 ≤ (1 : Int)), ((List.map AV.int x8_2)[Int.toNat (1 : Int)]? = some (AV.int x17_6)), (decide (x17_6 = (0 : Int)) = true), (0 ≤ (2 : Int)), ((List.map AV.int x8_2)[Int.toNat (2 : Int)]? = some (AV.int x17_12)), (decide (x17_12 = (1 : Int)) = false)]) (st' := ⟨82, [(0, AV.bool false)], [(2, (false, [AV.fl 4596373779694328218, AV.fl 4605380978949069210])), (1, (false, [.slice (.own 9) 5 [Node.av x4_0, Node.av x4_1, .agg [AV.str [99], .nils, .nils, .nils, AV.bool false], Node.av x4_3], .slice (.own 12) 11 (List.map Pod.av [x4_5, x4_6]), .nils]))], [], [(12, (44, 11, 2)), (9, (71, 5, 4))]⟩) (by kernel_rfl) ⟨getI_le hx17_1, getI_map hx17_1 _, hg18, getI_le hx17_6, getI_map hx17_6 _, hg19, getI_le hx17_12, getI_map hx17_12 _, hg20, trivial⟩ ?_
            exact hJ27 false _ h (Le.mk rfl ⟨rfl, trivial⟩ ⟨⟨rfl, ⟨rfl, rfl, trivial⟩⟩, ⟨rfl, ⟨.inl ⟨rfl, rfl⟩, .inl ⟨rfl, rfl⟩, rfl, trivial⟩⟩, trivial⟩ ⟨rfl, rfl, trivial⟩ trivial)
        · rw [if_neg hg19] at h
          have hg19 := Bool.eq_false_iff.2 hg19
          refine awp_reg kpNone [(1, AV.int x17_1), (6, AV.int x17_6)] [(4, true), (10, false)] [0] (cs := [(0 ≤ (0 : Int)), ((List.map AV.int x8_2)[Int.toNat (0 : Int)]? = some (AV.int x17_1)), (decide (x17_1 = (2 : Int)) = true), (0 ≤ (1 : Int)), ((List.map AV.int x8_2)[Int.toNat (1 : Int)]? = some (AV.int x17_6)), (decide (x17_6 = (0 : Int)) = false)]) (st' := ⟨82, [(0, AV.bool false)], [(2, (false, [AV.fl 4596373779694328218, AV.fl 4605380978949069210])), (1, (false, [.slice (.own 9) 5 [Node.av x4_0, Node.av x4_1, .agg [AV.str [99], .nils, .nils, .nils, AV.bool false], Node.av x4_3], .slice (.own 12) 11 (List.map Pod.av [x4_5, x4_6]), .nils]))], [], [(12, (44, 11, 2)), (9, (71, 5, 4))]⟩) (by kernel_rfl) ⟨getI_le hx17_1, getI_map hx17_1 _, hg18, getI_le hx17_6, getI_map hx17_6 _, hg19, trivial⟩ ?_
          exact hJ27 false _ h (Le.mk rfl ⟨rfl, trivial⟩ ⟨⟨rfl, ⟨rfl, rfl, trivial⟩⟩, ⟨rfl, ⟨.inl ⟨rfl, rfl⟩, .inl ⟨rfl, rfl⟩, rfl, trivial⟩⟩, trivial⟩ ⟨rfl, rfl, trivial⟩ trivial)
      · rw [if_neg hg18] at h
        have hg18 := Bool.eq_false_iff.2 hg18
        refine awp_reg kpNone [(1, AV.int x17_1)] [(4, false)] [0] (cs := [(0 ≤ (0 : Int)), ((List.map AV.int x8_2)[Int.toNat (0 : Int)]? = some (AV.int x17_1)), (decide (x17_1 = (2 : Int)) = false)]) (st' := ⟨82, [(0, AV.bool false)], [(2, (false, [AV.fl 4596373779694328218, AV.fl 4605380978949069210])), (1, (false, [.slice (.own 9) 5 [Node.av x4_0, Node.av x4_1, .agg [AV.str [99], .nils, .nils, .nils, AV.bool false], Node.av x4_3], .slice (.own 12) 11 (List.map Pod.av [x4_5, x4_6]), .nils]))], [], [(12, (44, 11, 2)), (9, (71, 5, 4))]⟩) (by kernel_rfl) ⟨getI_le hx17_1, getI_map hx17_1 _, hg18, trivial⟩ ?_
        exact hJ27 false _ h (Le.mk rfl ⟨rfl, trivial⟩ ⟨⟨rfl, ⟨rfl, rfl, trivial⟩⟩, ⟨rfl, ⟨.inl ⟨rfl, rfl⟩, .inl ⟨rfl, rfl⟩, rfl, trivial⟩⟩, trivial⟩ ⟨rfl, rfl, trivial⟩ trivial)


-- ballastlaw4.FewSel
def F100.j19 (rec11 : (Int) → Option Bool) (p11 : Int) : (Bool) → Option Bool := fun p19 =>
  if p19 = true then (some false) else (rec11 (w64 (p11 + (1 : Int))))
def F100.l11 (a0 : (List Term)) (rec11 : (Int) → Option Bool) : (Int) → Option Bool := fun p11 =>
  if decide (p11 < (List.length a0 : Int)) = true then ((getI a0 p11).bind fun x17_2 => if decide ((50 : Int) < (List.length x17_2.Key : Int)) = true then (F100.j19 rec11 p11 true) else ((getI a0 p11).bind fun x17_10 => F100.j19 rec11 p11 (decide ((50 : Int) < (List.length x17_10.Val : Int))))) else (some true)
def F100 (l11 : (Int) → Option Bool) (a0 : (List Term)) : Option Bool :=
  if decide ((20 : Int) < (List.length a0 : Int)) = true then (some false) else (l11 0)
/-- ballast/ballastlaw4.FewSel -/
theorem c100 (a0 : (List Term)) (l11 : (Int) → Option Bool) (hl11 : Rounds (F100.l11 a0) (l11)) (r : Bool) (h : F100 l11 a0 = some r) :
    Det Tryz.prog 100 [AV.lst 3 Term.av a0] (.ret (AV.bool r)) := by
  refine Det.of_le ?_
  refine @calls_of_body Tryz.prog 100 Tryz.f100 _ Tryz.func100 rfl (by kernel_rfl) [.tmp 2] (by rw [Tryz.results100]) 29 Tryz.ntmps100 _ _ _ (by simp only [List.length_cons, List.length_nil]; decide) ?_
  unfold F100 at h
  refine awp_seq fun N1 hN1 => ?_
  refine awp_reg kpNone [] [] [0] (cs := []) (st' := ⟨29, [(0, AV.lst 3 Term.av a0)], [], [], []⟩) (by kernel_rfl) trivial ?_
  refine hN1 _ ?_
  refine awp_seq fun N3 hN3 => ?_
  refine awp_seq fun N4 hN4 => ?_
  refine awp_reg kpNone [(1, AV.int (List.length a0 : Int))] [] [0, 6] (cs := [((AV.int (List.length a0 : Int) = .val (.int .i64 (List.length (List.map Term.av a0) : Int))))]) (st' := ⟨29, [(0, AV.lst 3 Term.av a0), (6, AV.bool (decide ((20 : Int) < (List.length a0 : Int))))], [], [], []⟩) (by kernel_rfl) ⟨len_map _ _, trivial⟩ ?_
  refine hN4 _ ?_
  refine awp_cond (t := decide ((20 : Int) < (List.length a0 : Int))) rfl (fun hb => ?_) (fun hb => ?_)
  · rw [if_pos hb] at h
    refine awp_seq fun N6 hN6 => ?_
    refine awp_reg kpNone [] [] [2] (cs := []) (st' := ⟨29, [(2, AV.bool false)], [], [], []⟩) (by kernel_rfl) trivial ?_
    refine hN6 _ ?_
    have h := Option.some.inj h
    subst h
    exact awp_ret ⟨[AV.bool false], by kernel_rfl, Lw.refl _⟩
  · rw [if_false hb] at h
    refine awp_skip ?_
    refine hN3 _ ?_
    refine awp_seq fun N8 hN8 => ?_
    refine awp_seq fun N9 hN9 => ?_
    refine awp_reg kpNone [] [] [0, 3] (cs := []) (st' := ⟨29, [(0, AV.lst 3 Term.av a0), (3, AV.int 0)], [], [], []⟩) (by kernel_rfl) trivial ?_
    refine hN9 _ ?_
    refine awp_block ?_
    refine awp_loop ?_
    refine awpL_le (st' := ⟨29, [(0, AV.lst 3 Term.av a0), (3, AV.int 0)], [], [], []⟩) ?_ ?_
    · exact Le.rfl'
    refine awpL_fix hl11 r (fun p11 => ⟨29, [(0, AV.lst 3 Term.av a0), (3, AV.int p11)], [], [], []⟩) (fun rec11 hrec11 p11 h => ?_) 0 h
    unfold F100.l11 at h
    refine awpL_round ?_
    refine awp_seq fun N12 hN12 => ?_
    refine awp_seq fun N13 hN13 => ?_
    refine awp_reg kpNone [(2, AV.int (List.length a0 : Int))] [] [0, 3, 10] (cs := [((AV.int (List.length a0 : Int) = .val (.int .i64 (List.length (List.map Term.av a0) : Int))))]) (st' := ⟨29, [(0, AV.lst 3 Term.av a0), (3, AV.int p11), (10, AV.bool (decide (p11 < (List.length a0 : Int))))], [], [], []⟩) (by kernel_rfl) ⟨len_map _ _, trivial⟩ ?_
    refine hN13 _ ?_
    refine awp_cond (t := decide (p11 < (List.length a0 : Int))) rfl (fun hb => ?_) (fun hb => ?_)
    · rw [if_pos hb] at h
      refine awp_skip ?_
      refine hN12 _ ?_
      refine awp_seq fun N15 hN15 => ?_
      refine awp_block ?_
      refine awp_seq fun N16 hN16 => ?_
      refine awp_to (σ := Bool) (fun p19 => ⟨29, [(0, AV.lst 3 Term.av a0), (3, AV.int p11), (28, AV.bool p19)], [], [], []⟩) (fun p19 => F100.j19 rec11 p11 p19 = some r) (fun p19 h => ?_) (fun N19 hJ19 => ?_)
      · unfold F100.j19 at h
        refine hN16 _ ?_
        refine awp_cond (t := p19) rfl (fun hb => ?_) (fun hb => ?_)
        · rw [if_pos hb] at h
          refine awp_seq fun N20 hN20 => ?_
          refine awp_reg kpNone [] [] [2] (cs := []) (st' := ⟨29, [(2, AV.bool false)], [], [], []⟩) (by kernel_rfl) trivial ?_
          refine hN20 _ ?_
          have h := Option.some.inj h
          subst h
          exact awp_ret ⟨[AV.bool false], by kernel_rfl, Lw.refl _⟩
        · rw [if_false hb] at h
          refine awp_skip ?_
          refine hN15 _ ?_
          refine awp_reg kpNone [] [] [0, 3] (cs := []) (st' := ⟨29, [(0, AV.lst 3 Term.av a0), (3, AV.int (w64 (p11 + (1 : Int))))], [], [], []⟩) (by kernel_rfl) trivial ?_
          refine awpL_le ?_ (hrec11 _ h)
          exact Le.rfl'
      · obtain ⟨x17_2, hx17_2, h⟩ := Option.bind_eq_some_iff.1 h
        by_cases hg18 : decide ((50 : Int) < (List.length x17_2.Key : Int)) = true
        · rw [if_pos hg18] at h
          refine awp_reg kpNone [(2, Term.av x17_2)] [(7, true)] [0, 3, 28] (cs := [(0 ≤ p11), ((List.map Term.av a0)[Int.toNat p11]? = some (Term.av x17_2)), (decide ((50 : Int) < (List.length x17_2.Key : Int)) = true)]) (st' := ⟨29, [(0, AV.lst 3 Term.av a0), (3, AV.int p11), (28, AV.bool true)], [], [], []⟩) (by kernel_rfl) ⟨getI_le hx17_2, getI_map hx17_2 _, hg18, trivial⟩ ?_
          exact hJ19 true _ h (Le.rfl')
        · rw [if_neg hg18] at h
          have hg18 := Bool.eq_false_iff.2 hg18
          obtain ⟨x17_10, hx17_10, h⟩ := Option.bind_eq_some_iff.1 h
          refine awp_reg kpNone [(2, Term.av x17_2), (10, Term.av x17_10)] [(7, false)] [0, 3, 28] (cs := [(0 ≤ p11), ((List.map Term.av a0)[Int.toNat p11]? = some (Term.av x17_2)), (decide ((50 : Int) < (List.length x17_2.Key : Int)) = false), (0 ≤ p11), ((List.map Term.av a0)[Int.toNat p11]? = some (Term.av x17_10))]) (st' := ⟨29, [(0, AV.lst 3 Term.av a0), (3, AV.int p11), (28, AV.bool (decide ((50 : Int) < (List.length x17_10.Val : Int))))], [], [], []⟩) (by kernel_rfl) ⟨getI_le hx17_2, getI_map hx17_2 _, hg18, getI_le hx17_10, getI_map hx17_10 _, trivial⟩ ?_
          exact hJ19 (decide ((50 : Int) < (List.length x17_10.Val : Int))) _ h (Le.rfl')
    · rw [if_false hb] at h
      refine awp_exit ?_
      refine hN8 _ ?_
      refine awp_seq fun N23 hN23 => ?_
      refine awp_reg kpNone [] [] [2] (cs := []) (st' := ⟨29, [(2, AV.bool true)], [], [], []⟩) (by kernel_rfl) trivial ?_
      refine hN23 _ ?_
      have h := Option.some.inj h
      subst h
      exact awp_ret ⟨[AV.bool true], by kernel_rfl, Lw.refl _⟩
-- {"kind": "tot", "S": "few Term.short", "thm": "d100"}
theorem d100 (a0 : List Term) : Det Tryz.prog 100 [AV.lst 3 Term.av a0] (.ret (AV.bool (few Term.short a0))) := by
  refine Det.len 0 rfl fun hl => c100 a0 _ (rounds_list a0 hl (fun t => some (t.all Term.short)) _ ?_ ?_) _ ?_
  · intro rec
    simp [F100.l11]
  · intro rec p x t h0 h1 hx hd hr hw
    simp only [F100.l11, F100.j19, hx, hw, hr, h1, decide_true, if_true, Option.bind_some, List.all_cons, Term.short, decide_eq_true_eq]
    by_cases h : x.Key.length ≤ 50
    · rw [if_neg (by omega)]
      by_cases h' : x.Val.length ≤ 50
      · rw [if_neg (by omega)]; simp [h, h']
      · rw [if_pos (by omega)]; simp [h, h']
    · rw [if_pos (by omega)]; simp [h]
  · simp only [F100, few, decide_eq_true_eq]
    by_cases h : a0.length ≤ 20
    · rw [if_neg (by omega)]; simp [h]
    · rw [if_pos (by omega)]; simp [h]


-- ballastlaw8.Few
def F143.j19 (rec11 : (Int) → Option Bool) (p11 : Int) : (Bool) → Option Bool := fun p19 =>
  if p19 = true then (some false) else (rec11 (w64 (p11 + (1 : Int))))
def F143.l11 (a0 : (List Budget)) (rec11 : (Int) → Option Bool) : (Int) → Option Bool := fun p11 =>
  if decide (p11 < (List.length a0 : Int)) = true then ((getI a0 p11).bind fun x17_2 => if decide ((50 : Int) < (List.length x17_2.Name : Int)) = true then (F143.j19 rec11 p11 true) else ((getI a0 p11).bind fun x17_10 => F143.j19 rec11 p11 (!(few Term.short x17_10.Sel)))) else (some true)
def F143 (l11 : (Int) → Option Bool) (a0 : (List Budget)) : Option Bool :=
  if decide ((20 : Int) < (List.length a0 : Int)) = true then (some false) else (l11 0)
/-- ballast/ballastlaw8.Few -/
theorem c143 (a0 : (List Budget)) (l11 : (Int) → Option Bool) (hl11 : Rounds (F143.l11 a0) (l11)) (r : Bool) (h : F143 l11 a0 = some r) :
    Det Tryz.prog 143 [AV.lst 3 Budget.av a0] (.ret (AV.bool r)) := by
  refine Det.of_le ?_
  refine @calls_of_body Tryz.prog 143 Tryz.f143 _ Tryz.func143 rfl (by kernel_rfl) [.tmp 2] (by rw [Tryz.results143]) 29 Tryz.ntmps143 _ _ _ (by simp only [List.length_cons, List.length_nil]; decide) ?_
  unfold F143 at h
  refine awp_seq fun N1 hN1 => ?_
  refine awp_reg kpNone [] [] [0] (cs := []) (st' := ⟨29, [(0, AV.lst 3 Budget.av a0)], [], [], []⟩) (by kernel_rfl) trivial ?_
  refine hN1 _ ?_
  refine awp_seq fun N3 hN3 => ?_
  refine awp_seq fun N4 hN4 => ?_
  refine awp_reg kpNone [(1, AV.int (List.length a0 : Int))] [] [0, 6] (cs := [((AV.int (List.length a0 : Int) = .val (.int .i64 (List.length (List.map Budget.av a0) : Int))))]) (st' := ⟨29, [(0, AV.lst 3 Budget.av a0), (6, AV.bool (decide ((20 : Int) < (List.length a0 : Int))))], [], [], []⟩) (by kernel_rfl) ⟨len_map _ _, trivial⟩ ?_
  refine hN4 _ ?_
  refine awp_cond (t := decide ((20 : Int) < (List.length a0 : Int))) rfl (fun hb => ?_) (fun hb => ?_)
  · rw [if_pos hb] at h
    refine awp_seq fun N6 hN6 => ?_
    refine awp_reg kpNone [] [] [2] (cs := []) (st' := ⟨29, [(2, AV.bool false)], [], [], []⟩) (by kernel_rfl) trivial ?_
    refine hN6 _ ?_
    have h := Option.some.inj h
    subst h
    exact awp_ret ⟨[AV.bool false], by kernel_rfl, Lw.refl _⟩
  · rw [if_false hb] at h
    refine awp_skip ?_
    refine hN3 _ ?_
    refine awp_seq fun N8 hN8 => ?_
    refine awp_seq fun N9 hN9 => ?_
    refine awp_reg kpNone [] [] [0, 3] (cs := []) (st' := ⟨29, [(0, AV.lst 3 Budget.av a0), (3, AV.int 0)], [], [], []⟩) (by kernel_rfl) trivial ?_
    refine hN9 _ ?_
    refine awp_block ?_
    refine awp_loop ?_
    refine awpL_le (st' := ⟨29, [(0, AV.lst 3 Budget.av a0), (3, AV.int 0)], [], [], []⟩) ?_ ?_
    · exact Le.rfl'
    refine awpL_fix hl11 r (fun p11 => ⟨29, [(0, AV.lst 3 Budget.av a0), (3, AV.int p11)], [], [], []⟩) (fun rec11 hrec11 p11 h => ?_) 0 h
    unfold F143.l11 at h
    refine awpL_round ?_
    refine awp_seq fun N12 hN12 => ?_
    refine awp_seq fun N13 hN13 => ?_
    refine awp_reg kpNone [(2, AV.int (List.length a0 : Int))] [] [0, 3, 10] (cs := [((AV.int (List.length a0 : Int) = .val (.int .i64 (List.length (List.map Budget.av a0) : Int))))]) (st' := ⟨29, [(0, AV.lst 3 Budget.av a0), (3, AV.int p11), (10, AV.bool (decide (p11 < (List.length a0 : Int))))], [], [], []⟩) (by kernel_rfl) ⟨len_map _ _, trivial⟩ ?_
    refine hN13 _ ?_
    refine awp_cond (t := decide (p11 < (List.length a0 : Int))) rfl (fun hb => ?_) (fun hb => ?_)
    · rw [if_pos hb] at h
      refine awp_skip ?_
      refine hN12 _ ?_
      refine awp_seq fun N15 hN15 => ?_
      refine awp_block ?_
      refine awp_seq fun N16 hN16 => ?_
      refine awp_to (σ := Bool) (fun p19 => ⟨29, [(0, AV.lst 3 Budget.av a0), (3, AV.int p11), (28, AV.bool p19)], [], [], []⟩) (fun p19 => F143.j19 rec11 p11 p19 = some r) (fun p19 h => ?_) (fun N19 hJ19 => ?_)
      · unfold F143.j19 at h
        refine hN16 _ ?_
        refine awp_cond (t := p19) rfl (fun hb => ?_) (fun hb => ?_)
        · rw [if_pos hb] at h
          refine awp_seq fun N20 hN20 => ?_
          refine awp_reg kpNone [] [] [2] (cs := []) (st' := ⟨29, [(2, AV.bool false)], [], [], []⟩) (by kernel_rfl) trivial ?_
          refine hN20 _ ?_
          have h := Option.some.inj h
          subst h
          exact awp_ret ⟨[AV.bool false], by kernel_rfl, Lw.refl _⟩
        · rw [if_false hb] at h
          refine awp_skip ?_
          refine hN15 _ ?_
          refine awp_reg kpNone [] [] [0, 3] (cs := []) (st' := ⟨29, [(0, AV.lst 3 Budget.av a0), (3, AV.int (w64 (p11 + (1 : Int))))], [], [], []⟩) (by kernel_rfl) trivial ?_
          refine awpL_le ?_ (hrec11 _ h)
          exact Le.rfl'
      · obtain ⟨x17_2, hx17_2, h⟩ := Option.bind_eq_some_iff.1 h
        by_cases hg18 : decide ((50 : Int) < (List.length x17_2.Name : Int)) = true
        · rw [if_pos hg18] at h
          refine awp_reg kpNone [(2, Budget.av x17_2)] [(7, true)] [0, 3, 28] (cs := [(0 ≤ p11), ((List.map Budget.av a0)[Int.toNat p11]? = some (Budget.av x17_2)), (decide ((50 : Int) < (List.length x17_2.Name : Int)) = true)]) (st' := ⟨29, [(0, AV.lst 3 Budget.av a0), (3, AV.int p11), (28, AV.bool true)], [], [], []⟩) (by kernel_rfl) ⟨getI_le hx17_2, getI_map hx17_2 _, hg18, trivial⟩ ?_
          exact hJ19 true _ h (Le.rfl')
        · rw [if_neg hg18] at h
          have hg18 := Bool.eq_false_iff.2 hg18
          obtain ⟨x17_10, hx17_10, h⟩ := Option.bind_eq_some_iff.1 h
          refine awp_reg kpNone [(2, Budget.av x17_2), (10, Budget.av x17_10), (13, AV.bool (few Term.short x17_10.Sel))] [(7, false)] [0, 3, 28] (cs := [(0 ≤ p11), ((List.map Budget.av a0)[Int.toNat p11]? = some (Budget.av x17_2)), (decide ((50 : Int) < (List.length x17_2.Name : Int)) = false), (0 ≤ p11), ((List.map Budget.av a0)[Int.toNat p11]? = some (Budget.av x17_10)), (Det Tryz.prog 100 [AV.lst 3 Term.av x17_10.Sel] (.ret (AV.bool (few Term.short x17_10.Sel))))]) (st' := ⟨29, [(0, AV.lst 3 Budget.av a0), (3, AV.int p11), (28, AV.bool (!(few Term.short x17_10.Sel)))], [], [], []⟩) (by kernel_rfl) ⟨getI_le hx17_2, getI_map hx17_2 _, hg18, getI_le hx17_10, getI_map hx17_10 _, d100 x17_10.Sel, trivial⟩ ?_
          exact hJ19 (!(few Term.short x17_10.Sel)) _ h (Le.rfl')
    · rw [if_false hb] at h
      refine awp_exit ?_
      refine hN8 _ ?_
      refine awp_seq fun N23 hN23 => ?_
      refine awp_reg kpNone [] [] [2] (cs := []) (st' := ⟨29, [(2, AV.bool true)], [], [], []⟩) (by kernel_rfl) trivial ?_
      refine hN23 _ ?_
      have h := Option.some.inj h
      subst h
      exact awp_ret ⟨[AV.bool true], by kernel_rfl, Lw.refl _⟩
-- {"kind": "tot", "S": "few Budget.short", "thm": "d143"}
theorem d143 (a0 : List Budget) : Det Tryz.prog 143 [AV.lst 3 Budget.av a0] (.ret (AV.bool (few Budget.short a0))) := by
  refine Det.len 0 rfl fun hl => c143 a0 _ (rounds_list a0 hl (fun t => some (t.all Budget.short)) _ ?_ ?_) _ ?_
  · intro rec
    simp [F143.l11]
  · intro rec p x t h0 h1 hx hd hr hw
    simp only [F143.l11, F143.j19, hx, hw, hr, h1, decide_true, if_true, Option.bind_some, List.all_cons, Budget.short, decide_eq_true_eq]
    by_cases h : x.Name.length ≤ 50
    · rw [if_neg (by omega)]
      rcases Bool.eq_false_or_eq_true (few Term.short x.Sel) with q | q <;> simp [h, q]
    · rw [if_pos (by omega)]; simp [h]
  · simp only [F143, few, decide_eq_true_eq]
    by_cases h : a0.length ≤ 20
    · rw [if_neg (by omega)]; simp [h]
    · rw [if_pos (by omega)]; simp [h]


-- ballastlaw2.Few
def F98.l11 (a0 : (List Amount)) (rec11 : (Int) → Option Bool) : (Int) → Option Bool := fun p11 =>
  if decide (p11 < (List.length a0 : Int)) = true then ((getI a0 p11).bind fun x17_2 => if decide ((50 : Int) < (List.length x17_2.Name : Int)) = true then (some false) else (rec11 (w64 (p11 + (1 : Int))))) else (some true)
def F98 (l11 : (Int) → Option Bool) (a0 : (List Amount)) : Option Bool :=
  if decide ((20 : Int) < (List.length a0 : Int)) = true then (some false) else (l11 0)
/-- ballast/ballastlaw2.Few -/
theorem c98 (a0 : (List Amount)) (l11 : (Int) → Option Bool) (hl11 : Rounds (F98.l11 a0) (l11)) (r : Bool) (h : F98 l11 a0 = some r) :
    Det Tryz.prog 98 [AV.lst 2 Amount.av a0] (.ret (AV.bool r)) := by
  refine Det.of_le ?_
  refine @calls_of_body Tryz.prog 98 Tryz.f98 _ Tryz.func98 rfl (by kernel_rfl) [.tmp 2] (by rw [Tryz.results98]) 20 Tryz.ntmps98 _ _ _ (by simp only [List.length_cons, List.length_nil]; decide) ?_
  unfold F98 at h
  refine awp_seq fun N1 hN1 => ?_
  refine awp_reg kpNone [] [] [0] (cs := []) (st' := ⟨20, [(0, AV.lst 2 Amount.av a0)], [], [], []⟩) (by kernel_rfl) trivial ?_
  refine hN1 _ ?_
  refine awp_seq fun N3 hN3 => ?_
  refine awp_seq fun N4 hN4 => ?_
  refine awp_reg kpNone [(1, AV.int (List.length a0 : Int))] [] [0, 6] (cs := [((AV.int (List.length a0 : Int) = .val (.int .i64 (List.length (List.map Amount.av a0) : Int))))]) (st' := ⟨20, [(0, AV.lst 2 Amount.av a0), (6, AV.bool (decide ((20 : Int) < (List.length a0 : Int))))], [], [], []⟩) (by kernel_rfl) ⟨len_map _ _, trivial⟩ ?_
  refine hN4 _ ?_
  refine awp_cond (t := decide ((20 : Int) < (List.length a0 : Int))) rfl (fun hb => ?_) (fun hb => ?_)
  · rw [if_pos hb] at h
    refine awp_seq fun N6 hN6 => ?_
    refine awp_reg kpNone [] [] [2] (cs := []) (st' := ⟨20, [(2, AV.bool false)], [], [], []⟩) (by kernel_rfl) trivial ?_
    refine hN6 _ ?_
    have h := Option.some.inj h
    subst h
    exact awp_ret ⟨[AV.bool false], by kernel_rfl, Lw.refl _⟩
  · rw [if_false hb] at h
    refine awp_skip ?_
    refine hN3 _ ?_
    refine awp_seq fun N8 hN8 => ?_
    refine awp_seq fun N9 hN9 => ?_
    refine awp_reg kpNone [] [] [0, 3] (cs := []) (st' := ⟨20, [(0, AV.lst 2 Amount.av a0), (3, AV.int 0)], [], [], []⟩) (by kernel_rfl) trivial ?_
    refine hN9 _ ?_
    refine awp_block ?_
    refine awp_loop ?_
    refine awpL_le (st' := ⟨20, [(0, AV.lst 2 Amount.av a0), (3, AV.int 0)], [], [], []⟩) ?_ ?_
    · exact Le.rfl'
    refine awpL_fix hl11 r (fun p11 => ⟨20, [(0, AV.lst 2 Amount.av a0), (3, AV.int p11)], [], [], []⟩) (fun rec11 hrec11 p11 h => ?_) 0 h
    unfold F98.l11 at h
    refine awpL_round ?_
    refine awp_seq fun N12 hN12 => ?_
    refine awp_seq fun N13 hN13 => ?_
    refine awp_reg kpNone [(2, AV.int (List.length a0 : Int))] [] [0, 3, 10] (cs := [((AV.int (List.length a0 : Int) = .val (.int .i64 (List.length (List.map Amount.av a0) : Int))))]) (st' := ⟨20, [(0, AV.lst 2 Amount.av a0), (3, AV.int p11), (10, AV.bool (decide (p11 < (List.length a0 : Int))))], [], [], []⟩) (by kernel_rfl) ⟨len_map _ _, trivial⟩ ?_
    refine hN13 _ ?_
    refine awp_cond (t := decide (p11 < (List.length a0 : Int))) rfl (fun hb => ?_) (fun hb => ?_)
    · rw [if_pos hb] at h
      refine awp_skip ?_
      refine hN12 _ ?_
      refine awp_seq fun N15 hN15 => ?_
      refine awp_block ?_
      refine awp_seq fun N16 hN16 => ?_
      obtain ⟨x17_2, hx17_2, h⟩ := Option.bind_eq_some_iff.1 h
      refine awp_reg kpNone [(2, Amount.av x17_2)] [] [0, 3, 19] (cs := [(0 ≤ p11), ((List.map Amount.av a0)[Int.toNat p11]? = some (Amount.av x17_2))]) (st' := ⟨20, [(0, AV.lst 2 Amount.av a0), (3, AV.int p11), (19, AV.bool (decide ((50 : Int) < (List.length x17_2.Name : Int))))], [], [], []⟩) (by kernel_rfl) ⟨getI_le hx17_2, getI_map hx17_2 _, trivial⟩ ?_
      refine hN16 _ ?_
      refine awp_cond (t := decide ((50 : Int) < (List.length x17_2.Name : Int))) rfl (fun hb => ?_) (fun hb => ?_)
      · rw [if_pos hb] at h
        refine awp_seq fun N18 hN18 => ?_
        refine awp_reg kpNone [] [] [2] (cs := []) (st' := ⟨20, [(2, AV.bool false)], [], [], []⟩) (by kernel_rfl) trivial ?_
        refine hN18 _ ?_
        have h := Option.some.inj h
        subst h
        exact awp_ret ⟨[AV.bool false], by kernel_rfl, Lw.refl _⟩
      · rw [if_false hb] at h
        refine awp_skip ?_
        refine hN15 _ ?_
        refine awp_reg kpNone [] [] [0, 3] (cs := []) (st' := ⟨20, [(0, AV.lst 2 Amount.av a0), (3, AV.int (w64 (p11 + (1 : Int))))], [], [], []⟩) (by kernel_rfl) trivial ?_
        refine awpL_le ?_ (hrec11 _ h)
        exact Le.rfl'
    · rw [if_false hb] at h
      refine awp_exit ?_
      refine hN8 _ ?_
      refine awp_seq fun N21 hN21 => ?_
      refine awp_reg kpNone [] [] [2] (cs := []) (st' := ⟨20, [(2, AV.bool true)], [], [], []⟩) (by kernel_rfl) trivial ?_
      refine hN21 _ ?_
      have h := Option.some.inj h
      subst h
      exact awp_ret ⟨[AV.bool true], by kernel_rfl, Lw.refl _⟩
-- {"kind": "tot", "S": "few Amount.short", "thm": "d98"}
theorem d98 (a0 : List Amount) : Det Tryz.prog 98 [AV.lst 2 Amount.av a0] (.ret (AV.bool (few Amount.short a0))) := by
  refine Det.len 0 rfl fun hl => c98 a0 _ (rounds_list a0 hl (fun t => some (t.all Amount.short)) _ ?_ ?_) _ ?_
  · intro rec
    simp [F98.l11]
  · intro rec p x t h0 h1 hx hd hr hw
    simp only [F98.l11, hx, hw, hr, h1, decide_true, if_true, Option.bind_some, List.all_cons, Amount.short, decide_eq_true_eq]
    by_cases h : x.Name.length ≤ 50
    · rw [if_neg (by omega)]; simp [h]
    · rw [if_pos (by omega)]; simp [h]
  · simp only [F98, few, decide_eq_true_eq]
    by_cases h : a0.length ≤ 20
    · rw [if_neg (by omega)]; simp [h]
    · rw [if_pos (by omega)]; simp [h]


-- ballastlaw4.Few
def F99.j19 (rec11 : (Int) → Option Bool) (p11 : Int) : (Bool) → Option Bool := fun p19 =>
  if p19 = true then (some false) else (rec11 (w64 (p11 + (1 : Int))))
def F99.l11 (a0 : (List Pair)) (rec11 : (Int) → Option Bool) : (Int) → Option Bool := fun p11 =>
  if decide (p11 < (List.length a0 : Int)) = true then ((getI a0 p11).bind fun x17_2 => if decide ((50 : Int) < (List.length x17_2.Key : Int)) = true then (F99.j19 rec11 p11 true) else ((getI a0 p11).bind fun x17_10 => F99.j19 rec11 p11 (decide ((50 : Int) < (List.length x17_10.Val : Int))))) else (some true)
def F99 (l11 : (Int) → Option Bool) (a0 : (List Pair)) : Option Bool :=
  if decide ((20 : Int) < (List.length a0 : Int)) = true then (some false) else (l11 0)
/-- ballast/ballastlaw4.Few -/
theorem c99 (a0 : (List Pair)) (l11 : (Int) → Option Bool) (hl11 : Rounds (F99.l11 a0) (l11)) (r : Bool) (h : F99 l11 a0 = some r) :
    Det Tryz.prog 99 [AV.lst 2 Pair.av a0] (.ret (AV.bool r)) := by
  refine Det.of_le ?_
  refine @calls_of_body Tryz.prog 99 Tryz.f99 _ Tryz.func99 rfl (by kernel_rfl) [.tmp 2] (by rw [Tryz.results99]) 29 Tryz.ntmps99 _ _ _ (by simp only [List.length_cons, List.length_nil]; decide) ?_
  unfold F99 at h
  refine awp_seq fun N1 hN1 => ?_
  refine awp_reg kpNone [] [] [0] (cs := []) (st' := ⟨29, [(0, AV.lst 2 Pair.av a0)], [], [], []⟩) (by kernel_rfl) trivial ?_
  refine hN1 _ ?_
  refine awp_seq fun N3 hN3 => ?_
  refine awp_seq fun N4 hN4 => ?_
  refine awp_reg kpNone [(1, AV.int (List.length a0 : Int))] [] [0, 6] (cs := [((AV.int (List.length a0 : Int) = .val (.int .i64 (List.length (List.map Pair.av a0) : Int))))]) (st' := ⟨29, [(0, AV.lst 2 Pair.av a0), (6, AV.bool (decide ((20 : Int) < (List.length a0 : Int))))], [], [], []⟩) (by kernel_rfl) ⟨len_map _ _, trivial⟩ ?_
  refine hN4 _ ?_
  refine awp_cond (t := decide ((20 : Int) < (List.length a0 : Int))) rfl (fun hb => ?_) (fun hb => ?_)
  · rw [if_pos hb] at h
    refine awp_seq fun N6 hN6 => ?_
    refine awp_reg kpNone [] [] [2] (cs := []) (st' := ⟨29, [(2, AV.bool false)], [], [], []⟩) (by kernel_rfl) trivial ?_
    refine hN6 _ ?_
    have h := Option.some.inj h
    subst h
    exact awp_ret ⟨[AV.bool false], by kernel_rfl, Lw.refl _⟩
  · rw [if_false hb] at h
    refine awp_skip ?_
    refine hN3 _ ?_
    refine awp_seq fun N8 hN8 => ?_
    refine awp_seq fun N9 hN9 => ?_
    refine awp_reg kpNone [] [] [0, 3] (cs := []) (st' := ⟨29, [(0, AV.lst 2 Pair.av a0), (3, AV.int 0)], [], [], []⟩) (by kernel_rfl) trivial ?_
    refine hN9 _ ?_
    refine awp_block ?_
    refine awp_loop ?_
    refine awpL_le (st' := ⟨29, [(0, AV.lst 2 Pair.av a0), (3, AV.int 0)], [], [], []⟩) ?_ ?_
    · exact Le.rfl'
    refine awpL_fix hl11 r (fun p11 => ⟨29, [(0, AV.lst 2 Pair.av a0), (3, AV.int p11)], [], [], []⟩) (fun rec11 hrec11 p11 h => ?_) 0 h
    unfold F99.l11 at h
    refine awpL_round ?_
    refine awp_seq fun N12 hN12 => ?_
    refine awp_seq fun N13 hN13 => ?_
    refine awp_reg kpNone [(2, AV.int (List.length a0 : Int))] [] [0, 3, 10] (cs := [((AV.int (List.length a0 : Int) = .val (.int .i64 (List.length (List.map Pair.av a0) : Int))))]) (st' := ⟨29, [(0, AV.lst 2 Pair.av a0), (3, AV.int p11), (10, AV.bool (decide (p11 < (List.length a0 : Int))))], [], [], []⟩) (by kernel_rfl) ⟨len_map _ _, trivial⟩ ?_
    refine hN13 _ ?_
    refine awp_cond (t := decide (p11 < (List.length a0 : Int))) rfl (fun hb => ?_) (fun hb => ?_)
    · rw [if_pos hb] at h
      refine awp_skip ?_
      refine hN12 _ ?_
      refine awp_seq fun N15 hN15 => ?_
      refine awp_block ?_
      refine awp_seq fun N16 hN16 => ?_
      refine awp_to (σ := Bool) (fun p19 => ⟨29, [(0, AV.lst 2 Pair.av a0), (3, AV.int p11), (28, AV.bool p19)], [], [], []⟩) (fun p19 => F99.j19 rec11 p11 p19 = some r) (fun p19 h => ?_) (fun N19 hJ19 => ?_)
      · unfold F99.j19 at h
        refine hN16 _ ?_
        refine awp_cond (t := p19) rfl (fun hb => ?_) (fun hb => ?_)
        · rw [if_pos hb] at h
          refine awp_seq fun N20 hN20 => ?_
          refine awp_reg kpNone [] [] [2] (cs := []) (st' := ⟨29, [(2, AV.bool false)], [], [], []⟩) (by kernel_rfl) trivial ?_
          refine hN20 _ ?_
          have h := Option.some.inj h
          subst h
          exact awp_ret ⟨[AV.bool false], by kernel_rfl, Lw.refl _⟩
        · rw [if_false hb] at h
          refine awp_skip ?_
          refine hN15 _ ?_
          refine awp_reg kpNone [] [] [0, 3] (cs := []) (st' := ⟨29, [(0, AV.lst 2 Pair.av a0), (3, AV.int (w64 (p11 + (1 : Int))))], [], [], []⟩) (by kernel_rfl) trivial ?_
          refine awpL_le ?_ (hrec11 _ h)
          exact Le.rfl'
      · obtain ⟨x17_2, hx17_2, h⟩ := Option.bind_eq_some_iff.1 h
        by_cases hg18 : decide ((50 : Int) < (List.length x17_2.Key : Int)) = true
        · rw [if_pos hg18] at h
          refine awp_reg kpNone [(2, Pair.av x17_2)] [(7, true)] [0, 3, 28] (cs := [(0 ≤ p11), ((List.map Pair.av a0)[Int.toNat p11]? = some (Pair.av x17_2)), (decide ((50 : Int) < (List.length x17_2.Key : Int)) = true)]) (st' := ⟨29, [(0, AV.lst 2 Pair.av a0), (3, AV.int p11), (28, AV.bool true)], [], [], []⟩) (by kernel_rfl) ⟨getI_le hx17_2, getI_map hx17_2 _, hg18, trivial⟩ ?_
          exact hJ19 true _ h (Le.rfl')
        · rw [if_neg hg18] at h
          have hg18 := Bool.eq_false_iff.2 hg18
          obtain ⟨x17_10, hx17_10, h⟩ := Option.bind_eq_some_iff.1 h
          refine awp_reg kpNone [(2, Pair.av x17_2), (10, Pair.av x17_10)] [(7, false)] [0, 3, 28] (cs := [(0 ≤ p11), ((List.map Pair.av a0)[Int.toNat p11]? = some (Pair.av x17_2)), (decide ((50 : Int) < (List.length x17_2.Key : Int)) = false), (0 ≤ p11), ((List.map Pair.av a0)[Int.toNat p11]? = some (Pair.av x17_10))]) (st' := ⟨29, [(0, AV.lst 2 Pair.av a0), (3, AV.int p11), (28, AV.bool (decide ((50 : Int) < (List.length x17_10.Val : Int))))], [], [], []⟩) (by kernel_rfl) ⟨getI_le hx17_2, getI_map hx17_2 _, hg18, getI_le hx17_10, getI_map hx17_10 _, trivial⟩ ?_
          exact hJ19 (decide ((50 : Int) < (List.length x17_10.Val : Int))) _ h (Le.rfl')
    · rw [if_false hb] at h
      refine awp_exit ?_
      refine hN8 _ ?_
      refine awp_seq fun N23 hN23 => ?_
      refine awp_reg kpNone [] [] [2] (cs := []) (st' := ⟨29, [(2, AV.bool true)], [], [], []⟩) (by kernel_rfl) trivial ?_
      refine hN23 _ ?_
      have h := Option.some.inj h
      subst h
      exact awp_ret ⟨[AV.bool true], by kernel_rfl, Lw.refl _⟩
-- {"kind": "tot", "S": "few Pair.short", "thm": "d99"}
theorem d99 (a0 : List Pair) : Det Tryz.prog 99 [AV.lst 2 Pair.av a0] (.ret (AV.bool (few Pair.short a0))) := by
  refine Det.len 0 rfl fun hl => c99 a0 _ (rounds_list a0 hl (fun t => some (t.all Pair.short)) _ ?_ ?_) _ ?_
  · intro rec
    simp [F99.l11]
  · intro rec p x t h0 h1 hx hd hr hw
    simp only [F99.l11, F99.j19, hx, hw, hr, h1, decide_true, if_true, Option.bind_some, List.all_cons, Pair.short, decide_eq_true_eq]
    by_cases h : x.Key.length ≤ 50
    · rw [if_neg (by omega)]
      by_cases h' : x.Val.length ≤ 50
      · rw [if_neg (by omega)]; simp [h, h']
      · rw [if_pos (by omega)]; simp [h, h']
    · rw [if_pos (by omega)]; simp [h]
  · simp only [F99, few, decide_eq_true_eq]
    by_cases h : a0.length ≤ 20
    · rw [if_neg (by omega)]; simp [h]
    · rw [if_pos (by omega)]; simp [h]


-- ballastlaw5.Few
def F244.j19 (rec11 : (Int) → Option Bool) (p11 : Int) : (Bool) → Option Bool := fun p19 =>
  if p19 = true then (some false) else (rec11 (w64 (p11 + (1 : Int))))
def F244.l11 (a0 : (List Taint)) (rec11 : (Int) → Option Bool) : (Int) → Option Bool := fun p11 =>
  if decide (p11 < (List.length a0 : Int)) = true then ((getI a0 p11).bind fun x17_2 => if decide ((50 : Int) < (List.length x17_2.Key : Int)) = true then (F244.j19 rec11 p11 true) else ((getI a0 p11).bind fun x17_10 => F244.j19 rec11 p11 (decide ((50 : Int) < (List.length x17_10.Val : Int))))) else (some true)
def F244 (l11 : (Int) → Option Bool) (a0 : (List Taint)) : Option Bool :=
  if decide ((20 : Int) < (List.length a0 : Int)) = true then (some false) else (l11 0)
/-- ballast/ballastlaw5.Few -/
theorem c244 (a0 : (List Taint)) (l11 : (Int) → Option Bool) (hl11 : Rounds (F244.l11 a0) (l11)) (r : Bool) (h : F244 l11 a0 = some r) :
    Det Tryz.prog 244 [AV.lst 3 Taint.av a0] (.ret (AV.bool r)) := by
  refine Det.of_le ?_
  refine @calls_of_body Tryz.prog 244 Tryz.f244 _ Tryz.func244 rfl (by kernel_rfl) [.tmp 2] (by rw [Tryz.results244]) 29 Tryz.ntmps244 _ _ _ (by simp only [List.length_cons, List.length_nil]; decide) ?_
  unfold F244 at h
  refine awp_seq fun N1 hN1 => ?_
  refine awp_reg kpNone [] [] [0] (cs := []) (st' := ⟨29, [(0, AV.lst 3 Taint.av a0)], [], [], []⟩) (by kernel_rfl) trivial ?_
  refine hN1 _ ?_
  refine awp_seq fun N3 hN3 => ?_
  refine awp_seq fun N4 hN4 => ?_
  refine awp_reg kpNone [(1, AV.int (List.length a0 : Int))] [] [0, 6] (cs := [((AV.int (List.length a0 : Int) = .val (.int .i64 (List.length (List.map Taint.av a0) : Int))))]) (st' := ⟨29, [(0, AV.lst 3 Taint.av a0), (6, AV.bool (decide ((20 : Int) < (List.length a0 : Int))))], [], [], []⟩) (by kernel_rfl) ⟨len_map _ _, trivial⟩ ?_
  refine hN4 _ ?_
  refine awp_cond (t := decide ((20 : Int) < (List.length a0 : Int))) rfl (fun hb => ?_) (fun hb => ?_)
  · rw [if_pos hb] at h
    refine awp_seq fun N6 hN6 => ?_
    refine awp_reg kpNone [] [] [2] (cs := []) (st' := ⟨29, [(2, AV.bool false)], [], [], []⟩) (by kernel_rfl) trivial ?_
    refine hN6 _ ?_
    have h := Option.some.inj h
    subst h
    exact awp_ret ⟨[AV.bool false], by kernel_rfl, Lw.refl _⟩
  · rw [if_false hb] at h
    refine awp_skip ?_
    refine hN3 _ ?_
    refine awp_seq fun N8 hN8 => ?_
    refine awp_seq fun N9 hN9 => ?_
    refine awp_reg kpNone [] [] [0, 3] (cs := []) (st' := ⟨29, [(0, AV.lst 3 Taint.av a0), (3, AV.int 0)], [], [], []⟩) (by kernel_rfl) trivial ?_
    refine hN9 _ ?_
    refine awp_block ?_
    refine awp_loop ?_
    refine awpL_le (st' := ⟨29, [(0, AV.lst 3 Taint.av a0), (3, AV.int 0)], [], [], []⟩) ?_ ?_
    · exact Le.rfl'
    refine awpL_fix hl11 r (fun p11 => ⟨29, [(0, AV.lst 3 Taint.av a0), (3, AV.int p11)], [], [], []⟩) (fun rec11 hrec11 p11 h => ?_) 0 h
    unfold F244.l11 at h
    refine awpL_round ?_
    refine awp_seq fun N12 hN12 => ?_
    refine awp_seq fun N13 hN13 => ?_
    refine awp_reg kpNone [(2, AV.int (List.length a0 : Int))] [] [0, 3, 10] (cs := [((AV.int (List.length a0 : Int) = .val (.int .i64 (List.length (List.map Taint.av a0) : Int))))]) (st' := ⟨29, [(0, AV.lst 3 Taint.av a0), (3, AV.int p11), (10, AV.bool (decide (p11 < (List.length a0 : Int))))], [], [], []⟩) (by kernel_rfl) ⟨len_map _ _, trivial⟩ ?_
    refine hN13 _ ?_
    refine awp_cond (t := decide (p11 < (List.length a0 : Int))) rfl (fun hb => ?_) (fun hb => ?_)
    · rw [if_pos hb] at h
      refine awp_skip ?_
      refine hN12 _ ?_
      refine awp_seq fun N15 hN15 => ?_
      refine awp_block ?_
      refine awp_seq fun N16 hN16 => ?_
      refine awp_to (σ := Bool) (fun p19 => ⟨29, [(0, AV.lst 3 Taint.av a0), (3, AV.int p11), (28, AV.bool p19)], [], [], []⟩) (fun p19 => F244.j19 rec11 p11 p19 = some r) (fun p19 h => ?_) (fun N19 hJ19 => ?_)
      · unfold F244.j19 at h
        refine hN16 _ ?_
        refine awp_cond (t := p19) rfl (fun hb => ?_) (fun hb => ?_)
        · rw [if_pos hb] at h
          refine awp_seq fun N20 hN20 => ?_
          refine awp_reg kpNone [] [] [2] (cs := []) (st' := ⟨29, [(2, AV.bool false)], [], [], []⟩) (by kernel_rfl) trivial ?_
          refine hN20 _ ?_
          have h := Option.some.inj h
          subst h
          exact awp_ret ⟨[AV.bool false], by kernel_rfl, Lw.refl _⟩
        · rw [if_false hb] at h
          refine awp_skip ?_
          refine hN15 _ ?_
          refine awp_reg kpNone [] [] [0, 3] (cs := []) (st' := ⟨29, [(0, AV.lst 3 Taint.av a0), (3, AV.int (w64 (p11 + (1 : Int))))], [], [], []⟩) (by kernel_rfl) trivial ?_
          refine awpL_le ?_ (hrec11 _ h)
          exact Le.rfl'
      · obtain ⟨x17_2, hx17_2, h⟩ := Option.bind_eq_some_iff.1 h
        by_cases hg18 : decide ((50 : Int) < (List.length x17_2.Key : Int)) = true
        · rw [if_pos hg18] at h
          refine awp_reg kpNone [(2, Taint.av x17_2)] [(7, true)] [0, 3, 28] (cs := [(0 ≤ p11), ((List.map Taint.av a0)[Int.toNat p11]? = some (Taint.av x17_2)), (decide ((50 : Int) < (List.length x17_2.Key : Int)) = true)]) (st' := ⟨29, [(0, AV.lst 3 Taint.av a0), (3, AV.int p11), (28, AV.bool true)], [], [], []⟩) (by kernel_rfl) ⟨getI_le hx17_2, getI_map hx17_2 _, hg18, trivial⟩ ?_
          exact hJ19 true _ h (Le.rfl')
        · rw [if_neg hg18] at h
          have hg18 := Bool.eq_false_iff.2 hg18
          obtain ⟨x17_10, hx17_10, h⟩ := Option.bind_eq_some_iff.1 h
          refine awp_reg kpNone [(2, Taint.av x17_2), (10, Taint.av x17_10)] [(7, false)] [0, 3, 28] (cs := [(0 ≤ p11), ((List.map Taint.av a0)[Int.toNat p11]? = some (Taint.av x17_2)), (decide ((50 : Int) < (List.length x17_2.Key : Int)) = false), (0 ≤ p11), ((List.map Taint.av a0)[Int.toNat p11]? = some (Taint.av x17_10))]) (st' := ⟨29, [(0, AV.lst 3 Taint.av a0), (3, AV.int p11), (28, AV.bool (decide ((50 : Int) < (List.length x17_10.Val : Int))))], [], [], []⟩) (by kernel_rfl) ⟨getI_le hx17_2, getI_map hx17_2 _, hg18, getI_le hx17_10, getI_map hx17_10 _, trivial⟩ ?_
          exact hJ19 (decide ((50 : Int) < (List.length x17_10.Val : Int))) _ h (Le.rfl')
    · rw [if_false hb] at h
      refine awp_exit ?_
      refine hN8 _ ?_
      refine awp_seq fun N23 hN23 => ?_
      refine awp_reg kpNone [] [] [2] (cs := []) (st' := ⟨29, [(2, AV.bool true)], [], [], []⟩) (by kernel_rfl) trivial ?_
      refine hN23 _ ?_
      have h := Option.some.inj h
      subst h
      exact awp_ret ⟨[AV.bool true], by kernel_rfl, Lw.refl _⟩
-- {"kind": "tot", "S": "few Taint.short", "thm": "d244"}
theorem d244 (a0 : List Taint) : Det Tryz.prog 244 [AV.lst 3 Taint.av a0] (.ret (AV.bool (few Taint.short a0))) := by
  refine Det.len 0 rfl fun hl => c244 a0 _ (rounds_list a0 hl (fun t => some (t.all Taint.short)) _ ?_ ?_) _ ?_
  · intro rec
    simp [F244.l11]
  · intro rec p x t h0 h1 hx hd hr hw
    simp only [F244.l11, F244.j19, hx, hw, hr, h1, decide_true, if_true, Option.bind_some, List.all_cons, Taint.short, decide_eq_true_eq]
    by_cases h : x.Key.length ≤ 50
    · rw [if_neg (by omega)]
      by_cases h' : x.Val.length ≤ 50
      · rw [if_neg (by omega)]; simp [h, h']
      · rw [if_pos (by omega)]; simp [h, h']
    · rw [if_pos (by omega)]; simp [h]
  · simp only [F244, few, decide_eq_true_eq]
    by_cases h : a0.length ≤ 20
    · rw [if_neg (by omega)]; simp [h]
    · rw [if_pos (by omega)]; simp [h]


-- ballastlaw6.Few
def F144 (a0 : Node) : Option Bool :=
  some ((decide ((List.length a0.Name : Int) ≤ (50 : Int))) && ((few Amount.short a0.Cap) && ((few Pair.short a0.Labels) && (few Taint.short a0.Taints))))
/-- ballast/ballastlaw6.Few -/
theorem c144 (a0 : Node) (r : Bool) (h : F144 a0 = some r) :
    Det Tryz.prog 144 [Node.av a0] (.ret (AV.bool r)) := by
  refine Det.of_le ?_
  refine @calls_of_body Tryz.prog 144 Tryz.f144 _ Tryz.func144 rfl (by kernel_rfl) [.tmp 2] (by rw [Tryz.results144]) 22 Tryz.ntmps144 _ _ _ (by simp only [List.length_cons, List.length_nil]; decide) ?_
  unfold F144 at h
  refine awp_seq fun N1 hN1 => ?_
  refine awp_reg kpNone [] [] [1] (cs := []) (st' := ⟨22, [(1, .varp 1 0)], [(1, (false, [AV.str a0.Name, AV.lst 2 Amount.av a0.Cap, AV.lst 2 Pair.av a0.Labels, AV.lst 3 Taint.av a0.Taints, AV.bool a0.Cordon]))], [], []⟩) (by kernel_rfl) trivial ?_
  refine hN1 _ ?_
  refine awp_seq fun N3 hN3 => ?_
  refine awp_to (σ := Bool) (fun p => ⟨22, [(2, AV.bool p)], [(1, (false, [AV.str a0.Name, AV.lst 2 Amount.av a0.Cap, AV.lst 2 Pair.av a0.Labels, AV.lst 3 Taint.av a0.Taints, AV.bool a0.Cordon]))], [], []⟩) (fun p => p = ((decide ((List.length a0.Name : Int) ≤ (50 : Int))) && ((few Amount.short a0.Cap) && ((few Pair.short a0.Labels) && (few Taint.short a0.Taints))))) (fun p hp => ?_) (fun N8 hJ8 => ?_)
  · subst hp
    refine hN3 _ ?_
    have h := Option.some.inj h
    subst h
    exact awp_ret ⟨[AV.bool ((decide ((List.length a0.Name : Int) ≤ (50 : Int))) && ((few Amount.short a0.Cap) && ((few Pair.short a0.Labels) && (few Taint.short a0.Taints))))], by kernel_rfl, Lw.refl _⟩
  · by_cases hg5 : decide ((List.length a0.Name : Int) ≤ (50 : Int)) = true
    · by_cases hg6 : (few Amount.short a0.Cap) = true
      · by_cases hg7 : (few Pair.short a0.Labels) = true
        · refine awp_reg kpNone [(7, AV.bool (few Amount.short a0.Cap)), (12, AV.bool (few Pair.short a0.Labels)), (17, AV.bool (few Taint.short a0.Taints))] [(4, true), (9, true), (14, true)] [2] (cs := [(decide ((List.length a0.Name : Int) ≤ (50 : Int)) = true), (Det Tryz.prog 98 [AV.lst 2 Amount.av a0.Cap] (.ret (AV.bool (few Amount.short a0.Cap)))), ((few Amount.short a0.Cap) = true), (Det Tryz.prog 99 [AV.lst 2 Pair.av a0.Labels] (.ret (AV.bool (few Pair.short a0.Labels)))), ((few Pair.short a0.Labels) = true), (Det Tryz.prog 244 [AV.lst 3 Taint.av a0.Taints] (.ret (AV.bool (few Taint.short a0.Taints))))]) (st' := ⟨22, [(2, AV.bool (few Taint.short a0.Taints))], [(1, (false, [AV.str a0.Name, AV.lst 2 Amount.av a0.Cap, AV.lst 2 Pair.av a0.Labels, AV.lst 3 Taint.av a0.Taints, AV.bool a0.Cordon]))], [], []⟩) (by kernel_rfl) ⟨hg5, d98 a0.Cap, hg6, d99 a0.Labels, hg7, d244 a0.Taints, trivial⟩ ?_
          exact hJ8 (few Taint.short a0.Taints) _ (by first | rfl | (rw [hg5, hg6, hg7]; done) | (rw [hg5, hg6, hg7]; rfl) | (simp [hg5, hg6, hg7]; done) | (exfalso; revert hg5 hg6 hg7; simp; done) | (exfalso; revert hg5 hg6 hg7; simp; intros; assumption)) (Le.rfl')
        · have hg7 := Bool.eq_false_iff.2 hg7
          refine awp_reg kpNone [(7, AV.bool (few Amount.short a0.Cap)), (12, AV.bool (few Pair.short a0.Labels))] [(4, true), (9, true), (14, false)] [2] (cs := [(decide ((List.length a0.Name : Int) ≤ (50 : Int)) = true), (Det Tryz.prog 98 [AV.lst 2 Amount.av a0.Cap] (.ret (AV.bool (few Amount.short a0.Cap)))), ((few Amount.short a0.Cap) = true), (Det Tryz.prog 99 [AV.lst 2 Pair.av a0.Labels] (.ret (AV.bool (few Pair.short a0.Labels)))), ((few Pair.short a0.Labels) = false)]) (st' := ⟨22, [(2, AV.bool false)], [(1, (false, [AV.str a0.Name, AV.lst 2 Amount.av a0.Cap, AV.lst 2 Pair.av a0.Labels, AV.lst 3 Taint.av a0.Taints, AV.bool a0.Cordon]))], [], []⟩) (by kernel_rfl) ⟨hg5, d98 a0.Cap, hg6, d99 a0.Labels, hg7, trivial⟩ ?_
          exact hJ8 false _ (by first | rfl | (rw [hg5, hg6, hg7]; done) | (rw [hg5, hg6, hg7]; rfl) | (simp [hg5, hg6, hg7]; done) | (exfalso; revert hg5 hg6 hg7; simp; done) | (exfalso; revert hg5 hg6 hg7; simp; intros; assumption)) (Le.rfl')
      · have hg6 := Bool.eq_false_iff.2 hg6
        refine awp_reg kpNone [(7, AV.bool (few Amount.short a0.Cap))] [(4, true), (9, false)] [2] (cs := [(decide ((List.length a0.Name : Int) ≤ (50 : Int)) = true), (Det Tryz.prog 98 [AV.lst 2 Amount.av a0.Cap] (.ret (AV.bool (few Amount.short a0.Cap)))), ((few Amount.short a0.Cap) = false)]) (st' := ⟨22, [(2, AV.bool false)], [(1, (false, [AV.str a0.Name, AV.lst 2 Amount.av a0.Cap, AV.lst 2 Pair.av a0.Labels, AV.lst 3 Taint.av a0.Taints, AV.bool a0.Cordon]))], [], []⟩) (by kernel_rfl) ⟨hg5, d98 a0.Cap, hg6, trivial⟩ ?_
        exact hJ8 false _ (by first | rfl | (rw [hg5, hg6]; done) | (rw [hg5, hg6]; rfl) | (simp [hg5, hg6]; done) | (exfalso; revert hg5 hg6; simp; done) | (exfalso; revert hg5 hg6; simp; intros; assumption)) (Le.rfl')
    · have hg5 := Bool.eq_false_iff.2 hg5
      refine awp_reg kpNone [] [(4, false)] [2] (cs := [(decide ((List.length a0.Name : Int) ≤ (50 : Int)) = false)]) (st' := ⟨22, [(2, AV.bool false)], [(1, (false, [AV.str a0.Name, AV.lst 2 Amount.av a0.Cap, AV.lst 2 Pair.av a0.Labels, AV.lst 3 Taint.av a0.Taints, AV.bool a0.Cordon]))], [], []⟩) (by kernel_rfl) ⟨hg5, trivial⟩ ?_
      exact hJ8 false _ (by first | rfl | (rw [hg5]; done) | (rw [hg5]; rfl) | (simp [hg5]; done) | (exfalso; revert hg5; simp; done) | (exfalso; revert hg5; simp; intros; assumption)) (Le.rfl')
-- {"kind": "tot", "S": "Node.few", "thm": "d144"}
theorem d144 (a0 : Node) : Det Tryz.prog 144 [Node.av a0] (.ret (AV.bool (Node.few a0))) := by
  refine c144 a0 _ ?_
  have e : ∀ n : Nat, (decide ((n : Int) ≤ 50)) = decide (n ≤ 50) := fun n => by
    by_cases h : n ≤ 50
    · have : (n : Int) ≤ 50 := by omega
      simp [h, this]
    · have : ¬ (n : Int) ≤ 50 := by omega
      simp [h, this]
  simp only [F144, Node.few, Option.some.injEq, e, Bool.and_assoc]


-- ballastlaw5.FewTols
def F101.j19 (rec11 : (Int) → Option Bool) (p11 : Int) : (Bool) → Option Bool := fun p19 =>
  if p19 = true then (some false) else (rec11 (w64 (p11 + (1 : Int))))
def F101.l11 (a0 : (List Tol)) (rec11 : (Int) → Option Bool) : (Int) → Option Bool := fun p11 =>
  if decide (p11 < (List.length a0 : Int)) = true then ((getI a0 p11).bind fun x17_2 => if decide ((50 : Int) < (List.length x17_2.Key : Int)) = true then (F101.j19 rec11 p11 true) else ((getI a0 p11).bind fun x17_10 => F101.j19 rec11 p11 (decide ((50 : Int) < (List.length x17_10.Val : Int))))) else (some true)
def F101 (l11 : (Int) → Option Bool) (a0 : (List Tol)) : Option Bool :=
  if decide ((20 : Int) < (List.length a0 : Int)) = true then (some false) else (l11 0)
/-- ballast/ballastlaw5.FewTols -/
theorem c101 (a0 : (List Tol)) (l11 : (Int) → Option Bool) (hl11 : Rounds (F101.l11 a0) (l11)) (r : Bool) (h : F101 l11 a0 = some r) :
    Det Tryz.prog 101 [AV.lst 3 Tol.av a0] (.ret (AV.bool r)) := by
  refine Det.of_le ?_
  refine @calls_of_body Tryz.prog 101 Tryz.f101 _ Tryz.func101 rfl (by kernel_rfl) [.tmp 2] (by rw [Tryz.results101]) 29 Tryz.ntmps101 _ _ _ (by simp only [List.length_cons, List.length_nil]; decide) ?_
  unfold F101 at h
  refine awp_seq fun N1 hN1 => ?_
  refine awp_reg kpNone [] [] [0] (cs := []) (st' := ⟨29, [(0, AV.lst 3 Tol.av a0)], [], [], []⟩) (by kernel_rfl) trivial ?_
  refine hN1 _ ?_
  refine awp_seq fun N3 hN3 => ?_
  refine awp_seq fun N4 hN4 => ?_
  refine awp_reg kpNone [(1, AV.int (List.length a0 : Int))] [] [0, 6] (cs := [((AV.int (List.length a0 : Int) = .val (.int .i64 (List.length (List.map Tol.av a0) : Int))))]) (st' := ⟨29, [(0, AV.lst 3 Tol.av a0), (6, AV.bool (decide ((20 : Int) < (List.length a0 : Int))))], [], [], []⟩) (by kernel_rfl) ⟨len_map _ _, trivial⟩ ?_
  refine hN4 _ ?_
  refine awp_cond (t := decide ((20 : Int) < (List.length a0 : Int))) rfl (fun hb => ?_) (fun hb => ?_)
  · rw [if_pos hb] at h
    refine awp_seq fun N6 hN6 => ?_
    refine awp_reg kpNone [] [] [2] (cs := []) (st' := ⟨29, [(2, AV.bool false)], [], [], []⟩) (by kernel_rfl) trivial ?_
    refine hN6 _ ?_
    have h := Option.some.inj h
    subst h
    exact awp_ret ⟨[AV.bool false], by kernel_rfl, Lw.refl _⟩
  · rw [if_false hb] at h
    refine awp_skip ?_
    refine hN3 _ ?_
    refine awp_seq fun N8 hN8 => ?_
    refine awp_seq fun N9 hN9 => ?_
    refine awp_reg kpNone [] [] [0, 3] (cs := []) (st' := ⟨29, [(0, AV.lst 3 Tol.av a0), (3, AV.int 0)], [], [], []⟩) (by kernel_rfl) trivial ?_
    refine hN9 _ ?_
    refine awp_block ?_
    refine awp_loop ?_
    refine awpL_le (st' := ⟨29, [(0, AV.lst 3 Tol.av a0), (3, AV.int 0)], [], [], []⟩) ?_ ?_
    · exact Le.rfl'
    refine awpL_fix hl11 r (fun p11 => ⟨29, [(0, AV.lst 3 Tol.av a0), (3, AV.int p11)], [], [], []⟩) (fun rec11 hrec11 p11 h => ?_) 0 h
    unfold F101.l11 at h
    refine awpL_round ?_
    refine awp_seq fun N12 hN12 => ?_
    refine awp_seq fun N13 hN13 => ?_
    refine awp_reg kpNone [(2, AV.int (List.length a0 : Int))] [] [0, 3, 10] (cs := [((AV.int (List.length a0 : Int) = .val (.int .i64 (List.length (List.map Tol.av a0) : Int))))]) (st' := ⟨29, [(0, AV.lst 3 Tol.av a0), (3, AV.int p11), (10, AV.bool (decide (p11 < (List.length a0 : Int))))], [], [], []⟩) (by kernel_rfl) ⟨len_map _ _, trivial⟩ ?_
    refine hN13 _ ?_
    refine awp_cond (t := decide (p11 < (List.length a0 : Int))) rfl (fun hb => ?_) (fun hb => ?_)
    · rw [if_pos hb] at h
      refine awp_skip ?_
      refine hN12 _ ?_
      refine awp_seq fun N15 hN15 => ?_
      refine awp_block ?_
      refine awp_seq fun N16 hN16 => ?_
      refine awp_to (σ := Bool) (fun p19 => ⟨29, [(0, AV.lst 3 Tol.av a0), (3, AV.int p11), (28, AV.bool p19)], [], [], []⟩) (fun p19 => F101.j19 rec11 p11 p19 = some r) (fun p19 h => ?_) (fun N19 hJ19 => ?_)
      · unfold F101.j19 at h
        refine hN16 _ ?_
        refine awp_cond (t := p19) rfl (fun hb => ?_) (fun hb => ?_)
        · rw [if_pos hb] at h
          refine awp_seq fun N20 hN20 => ?_
          refine awp_reg kpNone [] [] [2] (cs := []) (st' := ⟨29, [(2, AV.bool false)], [], [], []⟩) (by kernel_rfl) trivial ?_
          refine hN20 _ ?_
          have h := Option.some.inj h
          subst h
          exact awp_ret ⟨[AV.bool false], by kernel_rfl, Lw.refl _⟩
        · rw [if_false hb] at h
          refine awp_skip ?_
          refine hN15 _ ?_
          refine awp_reg kpNone [] [] [0, 3] (cs := []) (st' := ⟨29, [(0, AV.lst 3 Tol.av a0), (3, AV.int (w64 (p11 + (1 : Int))))], [], [], []⟩) (by kernel_rfl) trivial ?_
          refine awpL_le ?_ (hrec11 _ h)
          exact Le.rfl'
      · obtain ⟨x17_2, hx17_2, h⟩ := Option.bind_eq_some_iff.1 h
        by_cases hg18 : decide ((50 : Int) < (List.length x17_2.Key : Int)) = true
        · rw [if_pos hg18] at h
          refine awp_reg kpNone [(2, Tol.av x17_2)] [(7, true)] [0, 3, 28] (cs := [(0 ≤ p11), ((List.map Tol.av a0)[Int.toNat p11]? = some (Tol.av x17_2)), (decide ((50 : Int) < (List.length x17_2.Key : Int)) = true)]) (st' := ⟨29, [(0, AV.lst 3 Tol.av a0), (3, AV.int p11), (28, AV.bool true)], [], [], []⟩) (by kernel_rfl) ⟨getI_le hx17_2, getI_map hx17_2 _, hg18, trivial⟩ ?_
          exact hJ19 true _ h (Le.rfl')
        · rw [if_neg hg18] at h
          have hg18 := Bool.eq_false_iff.2 hg18
          obtain ⟨x17_10, hx17_10, h⟩ := Option.bind_eq_some_iff.1 h
          refine awp_reg kpNone [(2, Tol.av x17_2), (10, Tol.av x17_10)] [(7, false)] [0, 3, 28] (cs := [(0 ≤ p11), ((List.map Tol.av a0)[Int.toNat p11]? = some (Tol.av x17_2)), (decide ((50 : Int) < (List.length x17_2.Key : Int)) = false), (0 ≤ p11), ((List.map Tol.av a0)[Int.toNat p11]? = some (Tol.av x17_10))]) (st' := ⟨29, [(0, AV.lst 3 Tol.av a0), (3, AV.int p11), (28, AV.bool (decide ((50 : Int) < (List.length x17_10.Val : Int))))], [], [], []⟩) (by kernel_rfl) ⟨getI_le hx17_2, getI_map hx17_2 _, hg18, getI_le hx17_10, getI_map hx17_10 _, trivial⟩ ?_
          exact hJ19 (decide ((50 : Int) < (List.length x17_10.Val : Int))) _ h (Le.rfl')
    · rw [if_false hb] at h
      refine awp_exit ?_
      refine hN8 _ ?_
      refine awp_seq fun N23 hN23 => ?_
      refine awp_reg kpNone [] [] [2] (cs := []) (st' := ⟨29, [(2, AV.bool true)], [], [], []⟩) (by kernel_rfl) trivial ?_
      refine hN23 _ ?_
      have h := Option.some.inj h
      subst h
      exact awp_ret ⟨[AV.bool true], by kernel_rfl, Lw.refl _⟩
-- {"kind": "tot", "S": "few Tol.short", "thm": "d101"}
theorem d101 (a0 : List Tol) : Det Tryz.prog 101 [AV.lst 3 Tol.av a0] (.ret (AV.bool (few Tol.short a0))) := by
  refine Det.len 0 rfl fun hl => c101 a0 _ (rounds_list a0 hl (fun t => some (t.all Tol.short)) _ ?_ ?_) _ ?_
  · intro rec
    simp [F101.l11]
  · intro rec p x t h0 h1 hx hd hr hw
    simp only [F101.l11, F101.j19, hx, hw, hr, h1, decide_true, if_true, Option.bind_some, List.all_cons, Tol.short, decide_eq_true_eq]
    by_cases h : x.Key.length ≤ 50
    · rw [if_neg (by omega)]
      by_cases h' : x.Val.length ≤ 50
      · rw [if_neg (by omega)]; simp [h, h']
      · rw [if_pos (by omega)]; simp [h, h']
    · rw [if_pos (by omega)]; simp [h]
  · simp only [F101, few, decide_eq_true_eq]
    by_cases h : a0.length ≤ 20
    · rw [if_neg (by omega)]; simp [h]
    · rw [if_pos (by omega)]; simp [h]


-- ballastlaw7.Few
def F30 (a0 : Pod) : Option Bool :=
  some ((decide ((List.length a0.Name : Int) ≤ (50 : Int))) && ((decide ((List.length a0.Owner : Int) ≤ (50 : Int))) && ((decide ((List.length a0.Key : Int) ≤ (50 : Int))) && ((decide ((List.length a0.Node : Int) ≤ (50 : Int))) && ((few Amount.short a0.Need) && ((few Pair.short a0.Labels) && ((few Term.short a0.Sel) && (few Tol.short a0.Tols))))))))
/-- ballast/ballastlaw7.Few -/
theorem c30 (a0 : Pod) (r : Bool) (h : F30 a0 = some r) :
    Det Tryz.prog 30 [Pod.av a0] (.ret (AV.bool r)) := by
  refine Det.of_le ?_
  refine @calls_of_body Tryz.prog 30 Tryz.f30 _ Tryz.func30 rfl (by kernel_rfl) [.tmp 2] (by rw [Tryz.results30]) 45 Tryz.ntmps30 _ _ _ (by simp only [List.length_cons, List.length_nil]; decide) ?_
  unfold F30 at h
  refine awp_seq fun N1 hN1 => ?_
  refine awp_reg kpNone [] [] [1] (cs := []) (st' := ⟨45, [(1, .varp 1 0)], [(1, (false, [AV.str a0.Name, AV.str a0.Owner, AV.int a0.Prio, AV.lst 2 Amount.av a0.Need, AV.lst 2 Pair.av a0.Labels, AV.lst 3 Term.av a0.Sel, AV.lst 3 Tol.av a0.Tols, AV.str a0.Key, AV.int a0.Most, AV.str a0.Node, AV.bool a0.Hold]))], [], []⟩) (by kernel_rfl) trivial ?_
  refine hN1 _ ?_
  refine awp_seq fun N3 hN3 => ?_
  refine awp_to (σ := Bool) (fun p => ⟨45, [(2, AV.bool p)], [(1, (false, [AV.str a0.Name, AV.str a0.Owner, AV.int a0.Prio, AV.lst 2 Amount.av a0.Need, AV.lst 2 Pair.av a0.Labels, AV.lst 3 Term.av a0.Sel, AV.lst 3 Tol.av a0.Tols, AV.str a0.Key, AV.int a0.Most, AV.str a0.Node, AV.bool a0.Hold]))], [], []⟩) (fun p => p = ((decide ((List.length a0.Name : Int) ≤ (50 : Int))) && ((decide ((List.length a0.Owner : Int) ≤ (50 : Int))) && ((decide ((List.length a0.Key : Int) ≤ (50 : Int))) && ((decide ((List.length a0.Node : Int) ≤ (50 : Int))) && ((few Amount.short a0.Need) && ((few Pair.short a0.Labels) && ((few Term.short a0.Sel) && (few Tol.short a0.Tols))))))))) (fun p hp => ?_) (fun N12 hJ12 => ?_)
  · subst hp
    refine hN3 _ ?_
    have h := Option.some.inj h
    subst h
    exact awp_ret ⟨[AV.bool ((decide ((List.length a0.Name : Int) ≤ (50 : Int))) && ((decide ((List.length a0.Owner : Int) ≤ (50 : Int))) && ((decide ((List.length a0.Key : Int) ≤ (50 : Int))) && ((decide ((List.length a0.Node : Int) ≤ (50 : Int))) && ((few Amount.short a0.Need) && ((few Pair.short a0.Labels) && ((few Term.short a0.Sel) && (few Tol.short a0.Tols))))))))], by kernel_rfl, Lw.refl _⟩
  · by_cases hg5 : decide ((List.length a0.Name : Int) ≤ (50 : Int)) = true
    · by_cases hg6 : decide ((List.length a0.Owner : Int) ≤ (50 : Int)) = true
      · by_cases hg7 : decide ((List.length a0.Key : Int) ≤ (50 : Int)) = true
        · by_cases hg8 : decide ((List.length a0.Node : Int) ≤ (50 : Int)) = true
          · by_cases hg9 : (few Amount.short a0.Need) = true
            · by_cases hg10 : (few Pair.short a0.Labels) = true
              · by_cases hg11 : (few Term.short a0.Sel) = true
                · refine awp_reg kpNone [(25, AV.bool (few Amount.short a0.Need)), (30, AV.bool (few Pair.short a0.Labels)), (35, AV.bool (few Term.short a0.Sel)), (40, AV.bool (few Tol.short a0.Tols))] [(4, true), (10, true), (16, true), (22, true), (27, true), (32, true), (37, true)] [2] (cs := [(decide ((List.length a0.Name : Int) ≤ (50 : Int)) = true), (decide ((List.length a0.Owner : Int) ≤ (50 : Int)) = true), (decide ((List.length a0.Key : Int) ≤ (50 : Int)) = true), (decide ((List.length a0.Node : Int) ≤ (50 : Int)) = true), (Det Tryz.prog 98 [AV.lst 2 Amount.av a0.Need] (.ret (AV.bool (few Amount.short a0.Need)))), ((few Amount.short a0.Need) = true), (Det Tryz.prog 99 [AV.lst 2 Pair.av a0.Labels] (.ret (AV.bool (few Pair.short a0.Labels)))), ((few Pair.short a0.Labels) = true), (Det Tryz.prog 100 [AV.lst 3 Term.av a0.Sel] (.ret (AV.bool (few Term.short a0.Sel)))), ((few Term.short a0.Sel) = true), (Det Tryz.prog 101 [AV.lst 3 Tol.av a0.Tols] (.ret (AV.bool (few Tol.short a0.Tols))))]) (st' := ⟨45, [(2, AV.bool (few Tol.short a0.Tols))], [(1, (false, [AV.str a0.Name, AV.str a0.Owner, AV.int a0.Prio, AV.lst 2 Amount.av a0.Need, AV.lst 2 Pair.av a0.Labels, AV.lst 3 Term.av a0.Sel, AV.lst 3 Tol.av a0.Tols, AV.str a0.Key, AV.int a0.Most, AV.str a0.Node, AV.bool a0.Hold]))], [], []⟩) (by kernel_rfl) ⟨hg5, hg6, hg7, hg8, d98 a0.Need, hg9, d99 a0.Labels, hg10, d100 a0.Sel, hg11, d101 a0.Tols, trivial⟩ ?_
                  exact hJ12 (few Tol.short a0.Tols) _ (by first | rfl | (rw [hg5, hg6, hg7, hg8, hg9, hg10, hg11]; done) | (rw [hg5, hg6, hg7, hg8, hg9, hg10, hg11]; rfl) | (simp [hg5, hg6, hg7, hg8, hg9, hg10, hg11]; done) | (exfalso; revert hg5 hg6 hg7 hg8 hg9 hg10 hg11; simp; done) | (exfalso; revert hg5 hg6 hg7 hg8 hg9 hg10 hg11; simp; intros; assumption)) (Le.rfl')
                · have hg11 := Bool.eq_false_iff.2 hg11
                  refine awp_reg kpNone [(25, AV.bool (few Amount.short a0.Need)), (30, AV.bool (few Pair.short a0.Labels)), (35, AV.bool (few Term.short a0.Sel))] [(4, true), (10, true), (16, true), (22, true), (27, true), (32, true), (37, false)] [2] (cs := [(decide ((List.length a0.Name : Int) ≤ (50 : Int)) = true), (decide ((List.length a0.Owner : Int) ≤ (50 : Int)) = true), (decide ((List.length a0.Key : Int) ≤ (50 : Int)) = true), (decide ((List.length a0.Node : Int) ≤ (50 : Int)) = true), (Det Tryz.prog 98 [AV.lst 2 Amount.av a0.Need] (.ret (AV.bool (few Amount.short a0.Need)))), ((few Amount.short a0.Need) = true), (Det Tryz.prog 99 [AV.lst 2 Pair.av a0.Labels] (.ret (AV.bool (few Pair.short a0.Labels)))), ((few Pair.short a0.Labels) = true), (Det Tryz.prog 100 [AV.lst 3 Term.av a0.Sel] (.ret (AV.bool (few Term.short a0.Sel)))), ((few Term.short a0.Sel) = false)]) (st' := ⟨45, [(2, AV.bool false)], [(1, (false, [AV.str a0.Name, AV.str a0.Owner, AV.int a0.Prio, AV.lst 2 Amount.av a0.Need, AV.lst 2 Pair.av a0.Labels, AV.lst 3 Term.av a0.Sel, AV.lst 3 Tol.av a0.Tols, AV.str a0.Key, AV.int a0.Most, AV.str a0.Node, AV.bool a0.Hold]))], [], []⟩) (by kernel_rfl) ⟨hg5, hg6, hg7, hg8, d98 a0.Need, hg9, d99 a0.Labels, hg10, d100 a0.Sel, hg11, trivial⟩ ?_
                  exact hJ12 false _ (by first | rfl | (rw [hg5, hg6, hg7, hg8, hg9, hg10, hg11]; done) | (rw [hg5, hg6, hg7, hg8, hg9, hg10, hg11]; rfl) | (simp [hg5, hg6, hg7, hg8, hg9, hg10, hg11]; done) | (exfalso; revert hg5 hg6 hg7 hg8 hg9 hg10 hg11; simp; done) | (exfalso; revert hg5 hg6 hg7 hg8 hg9 hg10 hg11; simp; intros; assumption)) (Le.rfl')
              · have hg10 := Bool.eq_false_iff.2 hg10
                refine awp_reg kpNone [(25, AV.bool (few Amount.short a0.Need)), (30, AV.bool (few Pair.short a0.Labels))] [(4, true), (10, true), (16, true), (22, true), (27, true), (32, false)] [2] (cs := [(decide ((List.length a0.Name : Int) ≤ (50 : Int)) = true), (decide ((List.length a0.Owner : Int) ≤ (50 : Int)) = true), (decide ((List.length a0.Key : Int) ≤ (50 : Int)) = true), (decide ((List.length a0.Node : Int) ≤ (50 : Int)) = true), (Det Tryz.prog 98 [AV.lst 2 Amount.av a0.Need] (.ret (AV.bool (few Amount.short a0.Need)))), ((few Amount.short a0.Need) = true), (Det Tryz.prog 99 [AV.lst 2 Pair.av a0.Labels] (.ret (AV.bool (few Pair.short a0.Labels)))), ((few Pair.short a0.Labels) = false)]) (st' := ⟨45, [(2, AV.bool false)], [(1, (false, [AV.str a0.Name, AV.str a0.Owner, AV.int a0.Prio, AV.lst 2 Amount.av a0.Need, AV.lst 2 Pair.av a0.Labels, AV.lst 3 Term.av a0.Sel, AV.lst 3 Tol.av a0.Tols, AV.str a0.Key, AV.int a0.Most, AV.str a0.Node, AV.bool a0.Hold]))], [], []⟩) (by kernel_rfl) ⟨hg5, hg6, hg7, hg8, d98 a0.Need, hg9, d99 a0.Labels, hg10, trivial⟩ ?_
                exact hJ12 false _ (by first | rfl | (rw [hg5, hg6, hg7, hg8, hg9, hg10]; done) | (rw [hg5, hg6, hg7, hg8, hg9, hg10]; rfl) | (simp [hg5, hg6, hg7, hg8, hg9, hg10]; done) | (exfalso; revert hg5 hg6 hg7 hg8 hg9 hg10; simp; done) | (exfalso; revert hg5 hg6 hg7 hg8 hg9 hg10; simp; intros; assumption)) (Le.rfl')
            · have hg9 := Bool.eq_false_iff.2 hg9
              refine awp_reg kpNone [(25, AV.bool (few Amount.short a0.Need))] [(4, true), (10, true), (16, true), (22, true), (27, false)] [2] (cs := [(decide ((List.length a0.Name : Int) ≤ (50 : Int)) = true), (decide ((List.length a0.Owner : Int) ≤ (50 : Int)) = true), (decide ((List.length a0.Key : Int) ≤ (50 : Int)) = true), (decide ((List.length a0.Node : Int) ≤ (50 : Int)) = true), (Det Tryz.prog 98 [AV.lst 2 Amount.av a0.Need] (.ret (AV.bool (few Amount.short a0.Need)))), ((few Amount.short a0.Need) = false)]) (st' := ⟨45, [(2, AV.bool false)], [(1, (false, [AV.str a0.Name, AV.str a0.Owner, AV.int a0.Prio, AV.lst 2 Amount.av a0.Need, AV.lst 2 Pair.av a0.Labels, AV.lst 3 Term.av a0.Sel, AV.lst 3 Tol.av a0.Tols, AV.str a0.Key, AV.int a0.Most, AV.str a0.Node, AV.bool a0.Hold]))], [], []⟩) (by kernel_rfl) ⟨hg5, hg6, hg7, hg8, d98 a0.Need, hg9, trivial⟩ ?_
              exact hJ12 false _ (by first | rfl | (rw [hg5, hg6, hg7, hg8, hg9]; done) | (rw [hg5, hg6, hg7, hg8, hg9]; rfl) | (simp [hg5, hg6, hg7, hg8, hg9]; done) | (exfalso; revert hg5 hg6 hg7 hg8 hg9; simp; done) | (exfalso; revert hg5 hg6 hg7 hg8 hg9; simp; intros; assumption)) (Le.rfl')
          · have hg8 := Bool.eq_false_iff.2 hg8
            refine awp_reg kpNone [] [(4, true), (10, true), (16, true), (22, false)] [2] (cs := [(decide ((List.length a0.Name : Int) ≤ (50 : Int)) = true), (decide ((List.length a0.Owner : Int) ≤ (50 : Int)) = true), (decide ((List.length a0.Key : Int) ≤ (50 : Int)) = true), (decide ((List.length a0.Node : Int) ≤ (50 : Int)) = false)]) (st' := ⟨45, [(2, AV.bool false)], [(1, (false, [AV.str a0.Name, AV.str a0.Owner, AV.int a0.Prio, AV.lst 2 Amount.av a0.Need, AV.lst 2 Pair.av a0.Labels, AV.lst 3 Term.av a0.Sel, AV.lst 3 Tol.av a0.Tols, AV.str a0.Key, AV.int a0.Most, AV.str a0.Node, AV.bool a0.Hold]))], [], []⟩) (by kernel_rfl) ⟨hg5, hg6, hg7, hg8, trivial⟩ ?_
            exact hJ12 false _ (by first | rfl | (rw [hg5, hg6, hg7, hg8]; done) | (rw [hg5, hg6, hg7, hg8]; rfl) | (simp [hg5, hg6, hg7, hg8]; done) | (exfalso; revert hg5 hg6 hg7 hg8; simp; done) | (exfalso; revert hg5 hg6 hg7 hg8; simp; intros; assumption)) (Le.rfl')
        · have hg7 := Bool.eq_false_iff.2 hg7
          refine awp_reg kpNone [] [(4, true), (10, true), (16, false)] [2] (cs := [(decide ((List.length a0.Name : Int) ≤ (50 : Int)) = true), (decide ((List.length a0.Owner : Int) ≤ (50 : Int)) = true), (decide ((List.length a0.Key : Int) ≤ (50 : Int)) = false)]) (st' := ⟨45, [(2, AV.bool false)], [(1, (false, [AV.str a0.Name, AV.str a0.Owner, AV.int a0.Prio, AV.lst 2 Amount.av a0.Need, AV.lst 2 Pair.av a0.Labels, AV.lst 3 Term.av a0.Sel, AV.lst 3 Tol.av a0.Tols, AV.str a0.Key, AV.int a0.Most, AV.str a0.Node, AV.bool a0.Hold]))], [], []⟩) (by kernel_rfl) ⟨hg5, hg6, hg7, trivial⟩ ?_
          exact hJ12 false _ (by first | rfl | (rw [hg5, hg6, hg7]; done) | (rw [hg5, hg6, hg7]; rfl) | (simp [hg5, hg6, hg7]; done) | (exfalso; revert hg5 hg6 hg7; simp; done) | (exfalso; revert hg5 hg6 hg7; simp; intros; assumption)) (Le.rfl')
      · have hg6 := Bool.eq_false_iff.2 hg6
        refine awp_reg kpNone [] [(4, true), (10, false)] [2] (cs := [(decide ((List.length a0.Name : Int) ≤ (50 : Int)) = true), (decide ((List.length a0.Owner : Int) ≤ (50 : Int)) = false)]) (st' := ⟨45, [(2, AV.bool false)], [(1, (false, [AV.str a0.Name, AV.str a0.Owner, AV.int a0.Prio, AV.lst 2 Amount.av a0.Need, AV.lst 2 Pair.av a0.Labels, AV.lst 3 Term.av a0.Sel, AV.lst 3 Tol.av a0.Tols, AV.str a0.Key, AV.int a0.Most, AV.str a0.Node, AV.bool a0.Hold]))], [], []⟩) (by kernel_rfl) ⟨hg5, hg6, trivial⟩ ?_
        exact hJ12 false _ (by first | rfl | (rw [hg5, hg6]; done) | (rw [hg5, hg6]; rfl) | (simp [hg5, hg6]; done) | (exfalso; revert hg5 hg6; simp; done) | (exfalso; revert hg5 hg6; simp; intros; assumption)) (Le.rfl')
    · have hg5 := Bool.eq_false_iff.2 hg5
      refine awp_reg kpNone [] [(4, false)] [2] (cs := [(decide ((List.length a0.Name : Int) ≤ (50 : Int)) = false)]) (st' := ⟨45, [(2, AV.bool false)], [(1, (false, [AV.str a0.Name, AV.str a0.Owner, AV.int a0.Prio, AV.lst 2 Amount.av a0.Need, AV.lst 2 Pair.av a0.Labels, AV.lst 3 Term.av a0.Sel, AV.lst 3 Tol.av a0.Tols, AV.str a0.Key, AV.int a0.Most, AV.str a0.Node, AV.bool a0.Hold]))], [], []⟩) (by kernel_rfl) ⟨hg5, trivial⟩ ?_
      exact hJ12 false _ (by first | rfl | (rw [hg5]; done) | (rw [hg5]; rfl) | (simp [hg5]; done) | (exfalso; revert hg5; simp; done) | (exfalso; revert hg5; simp; intros; assumption)) (Le.rfl')
-- {"kind": "tot", "S": "Pod.few", "thm": "d30"}
theorem d30 (a0 : Pod) : Det Tryz.prog 30 [Pod.av a0] (.ret (AV.bool (Pod.few a0))) := by
  refine c30 a0 _ ?_
  have e : ∀ n : Nat, (decide ((n : Int) ≤ 50)) = decide (n ≤ 50) := fun n => by
    by_cases h : n ≤ 50
    · have : (n : Int) ≤ 50 := by omega
      simp [h, this]
    · have : ¬ (n : Int) ≤ 50 := by omega
      simp [h, this]
  simp only [F30, Pod.few, Option.some.injEq, e, Bool.and_assoc]


end Go.Proofs.Eng
