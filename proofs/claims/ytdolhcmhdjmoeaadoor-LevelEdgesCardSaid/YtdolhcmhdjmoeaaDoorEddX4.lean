/- Printed walks and contracts. -/
import Derived.Test.YtdolhcmhdjmoeaaDoorEddX3
set_option linter.unusedSimpArgs false
set_option linter.unusedVariables false
set_option maxRecDepth 100000
namespace Go.Proofs.Eng
open Go Go.Proofs Go.Sort
-- ratio.best
def F28.j22 (rec13 : (Nat × Int) → Option Nat) (p13 : Nat × Int) : (Nat) → Option Nat := fun p22 =>
  rec13 (p22, w64 (p13.2 + (1 : Int)))
def F28.l13 (a0 : (List Nat)) (a1 : Int) (rec13 : (Nat × Int) → Option Nat) : (Nat × Int) → Option Nat := fun p13 =>
  if decide (p13.2 < (List.length (List.drop (Int.toNat (1 : Int)) (List.take (List.length a0) a0)) : Int)) = true then ((getI (List.drop (Int.toNat (1 : Int)) (List.take (List.length a0) a0)) p13.2).bind fun x19_0 => (F9 x19_0 p13.1).bind fun x21_2 => if decide ((w64 (x21_2 * a1)) < (0 : Int)) = true then (F28.j22 rec13 p13 x19_0) else (F28.j22 rec13 p13 p13.1)) else (some p13.1)
def F28 (l13 : (Nat × Int) → Option Nat) (a0 : (List Nat)) (a1 : Int) : Option Nat :=
  if decide ((List.length a0 : Int) = (0 : Int)) = true then ((F31).bind fun x7_0 => some x7_0) else ((getI a0 (0 : Int)).bind fun x9_1 => if 0 ≤ (1 : Int) ∧ Int.toNat (1 : Int) ≤ List.length a0 then (l13 (x9_1, 0)) else none)
/-- ballast/ratio.best -/
theorem c28 (a0 : (List Nat)) (a1 : Int) (l13 : (Nat × Int) → Option Nat) (hl13 : Rounds (F28.l13 a0 a1) (l13)) (r : Nat) (h : F28 l13 a0 a1 = some r) :
    Det Tryd.prog 28 [AV.lst 1 AV.fl a0, AV.int a1] (.ret (AV.fl r)) := by
  refine Det.of_le ?_
  refine @calls_of_body Tryd.prog 28 Tryd.f28 _ Tryd.func28 rfl (by kernel_rfl) [.tmp 4] (by rw [Tryd.results28]) 31 Tryd.ntmps28 _ _ _ (by simp only [List.length_cons, List.length_nil]; decide) ?_
  unfold F28 at h
  refine awp_seq fun N1 hN1 => ?_
  refine awp_reg kpNone [] [] [0, 1] (cs := []) (st' := ⟨31, [(0, AV.lst 1 AV.fl a0), (1, AV.int a1)], [], [], []⟩) (by kernel_rfl) trivial ?_
  refine hN1 _ ?_
  refine awp_seq fun N3 hN3 => ?_
  refine awp_seq fun N4 hN4 => ?_
  refine awp_reg kpNone [(1, AV.int (List.length a0 : Int))] [] [0, 1, 10] (cs := [((AV.int (List.length a0 : Int) = .val (.int .i64 (List.length (List.map AV.fl a0) : Int))))]) (st' := ⟨31, [(0, AV.lst 1 AV.fl a0), (1, AV.int a1), (10, AV.bool (decide ((List.length a0 : Int) = (0 : Int))))], [], [], []⟩) (by kernel_rfl) ⟨len_map _ _, trivial⟩ ?_
  refine hN4 _ ?_
  refine awp_cond (t := decide ((List.length a0 : Int) = (0 : Int))) rfl (fun hb => ?_) (fun hb => ?_)
  · rw [if_pos hb] at h
    refine awp_seq fun N6 hN6 => ?_
    obtain ⟨x7_0, hx7_0, h⟩ := Option.bind_eq_some_iff.1 h
    refine awp_reg kpNone [(0, AV.fl x7_0)] [] [4] (cs := [(Det Tryd.prog 31 [] (.ret (AV.fl x7_0)))]) (st' := ⟨31, [(4, AV.fl x7_0)], [], [], []⟩) (by kernel_rfl) ⟨c31  _ hx7_0, trivial⟩ ?_
    refine hN6 _ ?_
    have h := Option.some.inj h
    subst h
    exact awp_ret ⟨[AV.fl x7_0], by kernel_rfl, Lw.refl _⟩
  · rw [if_false hb] at h
    refine awp_skip ?_
    refine hN3 _ ?_
    refine awp_seq fun N8 hN8 => ?_
    obtain ⟨x9_1, hx9_1, h⟩ := Option.bind_eq_some_iff.1 h
    refine awp_reg kpNone [(1, AV.fl x9_1)] [] [0, 1, 5] (cs := [(0 ≤ (0 : Int)), ((List.map AV.fl a0)[Int.toNat (0 : Int)]? = some (AV.fl x9_1))]) (st' := ⟨31, [(0, AV.lst 1 AV.fl a0), (1, AV.int a1), (5, AV.fl x9_1)], [], [], []⟩) (by kernel_rfl) ⟨getI_le hx9_1, getI_map hx9_1 _, trivial⟩ ?_
    refine hN8 _ ?_
    refine awp_seq fun N10 hN10 => ?_
    refine awp_seq fun N11 hN11 => ?_
    obtain ⟨hp12_1, h⟩ := guardP h
    refine awp_reg kpNone [(1, AV.lst 1 AV.fl (List.drop (Int.toNat (1 : Int)) (List.take (List.length a0) a0))), (2, AV.int (List.length (List.drop (Int.toNat (1 : Int)) (List.take (List.length a0) a0)) : Int))] [] [1, 5, 16, 17, 18] (cs := [(0 ≤ (1 : Int)), (Int.toNat (1 : Int) ≤ List.length (List.map AV.fl a0)), (List.length (List.map AV.fl a0) ≤ List.length (List.map AV.fl a0)), (List.drop (Int.toNat (1 : Int)) (List.take (List.length (List.map AV.fl a0)) (List.map AV.fl a0)) = List.map AV.fl (List.drop (Int.toNat (1 : Int)) (List.take (List.length a0) a0))), ((AV.int (List.length (List.drop (Int.toNat (1 : Int)) (List.take (List.length a0) a0)) : Int) = .val (.int .i64 (List.length (List.map AV.fl (List.drop (Int.toNat (1 : Int)) (List.take (List.length a0) a0))) : Int))))]) (st' := ⟨31, [(1, AV.int a1), (5, AV.fl x9_1), (16, AV.lst 1 AV.fl (List.drop (Int.toNat (1 : Int)) (List.take (List.length a0) a0))), (17, AV.int (List.length (List.drop (Int.toNat (1 : Int)) (List.take (List.length a0) a0)) : Int)), (18, AV.int 0)], [], [], []⟩) (by kernel_rfl) ⟨hp12_1.1, len_le _ _ hp12_1.2, Nat.le_refl _, lst_cut' _ _ _, len_map _ _, trivial⟩ ?_
    refine hN11 _ ?_
    refine awp_block ?_
    refine awp_loop ?_
    refine awpL_le (st' := ⟨31, [(1, AV.int a1), (5, AV.fl x9_1), (16, AV.lst 1 AV.fl (List.drop (Int.toNat (1 : Int)) (List.take (List.length a0) a0))), (17, AV.int (List.length (List.drop (Int.toNat (1 : Int)) (List.take (List.length a0) a0)) : Int)), (18, AV.int 0)], [], [], []⟩) ?_ ?_
    · exact Le.rfl'
    refine awpL_fix hl13 r (fun p13 => ⟨31, [(1, AV.int a1), (5, AV.fl p13.1), (16, AV.lst 1 AV.fl (List.drop (Int.toNat (1 : Int)) (List.take (List.length a0) a0))), (17, AV.int (List.length (List.drop (Int.toNat (1 : Int)) (List.take (List.length a0) a0)) : Int)), (18, AV.int p13.2)], [], [], []⟩) (fun rec13 hrec13 p13 h => ?_) (x9_1, 0) h
    unfold F28.l13 at h
    refine awpL_round ?_
    refine awp_seq fun N14 hN14 => ?_
    refine awp_reg kpNone [] [] [1, 5, 16, 17, 18, 19] (cs := []) (st' := ⟨31, [(1, AV.int a1), (5, AV.fl p13.1), (16, AV.lst 1 AV.fl (List.drop (Int.toNat (1 : Int)) (List.take (List.length a0) a0))), (17, AV.int (List.length (List.drop (Int.toNat (1 : Int)) (List.take (List.length a0) a0)) : Int)), (18, AV.int p13.2), (19, AV.bool (decide (p13.2 < (List.length (List.drop (Int.toNat (1 : Int)) (List.take (List.length a0) a0)) : Int))))], [], [], []⟩) (by kernel_rfl) trivial ?_
    refine hN14 _ ?_
    refine awp_seq fun N16 hN16 => ?_
    refine awp_cond (t := decide (p13.2 < (List.length (List.drop (Int.toNat (1 : Int)) (List.take (List.length a0) a0)) : Int))) rfl (fun hb => ?_) (fun hb => ?_)
    · rw [if_pos hb] at h
      refine awp_skip ?_
      refine hN16 _ ?_
      refine awp_seq fun N17 hN17 => ?_
      refine awp_block ?_
      refine awp_seq fun N18 hN18 => ?_
      obtain ⟨x19_0, hx19_0, h⟩ := Option.bind_eq_some_iff.1 h
      refine awp_reg kpNone [(0, AV.fl x19_0)] [] [1, 5, 7, 16, 17, 18] (cs := [(0 ≤ p13.2), ((List.map AV.fl (List.drop (Int.toNat (1 : Int)) (List.take (List.length a0) a0)))[Int.toNat p13.2]? = some (AV.fl x19_0))]) (st' := ⟨31, [(1, AV.int a1), (5, AV.fl p13.1), (7, AV.fl x19_0), (16, AV.lst 1 AV.fl (List.drop (Int.toNat (1 : Int)) (List.take (List.length a0) a0))), (17, AV.int (List.length (List.drop (Int.toNat (1 : Int)) (List.take (List.length a0) a0)) : Int)), (18, AV.int p13.2)], [], [], []⟩) (by kernel_rfl) ⟨getI_le hx19_0, getI_map hx19_0 _, trivial⟩ ?_
      refine hN18 _ ?_
      refine awp_seq fun N20 hN20 => ?_
      obtain ⟨x21_2, hx21_2, h⟩ := Option.bind_eq_some_iff.1 h
      refine awp_reg kpNone [(2, AV.int x21_2)] [] [1, 5, 7, 16, 17, 18, 27] (cs := [(Det Tryd.prog 9 [AV.fl x19_0, AV.fl p13.1] (.ret (AV.int x21_2)))]) (st' := ⟨31, [(1, AV.int a1), (5, AV.fl p13.1), (7, AV.fl x19_0), (16, AV.lst 1 AV.fl (List.drop (Int.toNat (1 : Int)) (List.take (List.length a0) a0))), (17, AV.int (List.length (List.drop (Int.toNat (1 : Int)) (List.take (List.length a0) a0)) : Int)), (18, AV.int p13.2), (27, AV.bool (decide ((w64 (x21_2 * a1)) < (0 : Int))))], [], [], []⟩) (by kernel_rfl) ⟨c9 x19_0 p13.1 _ hx21_2, trivial⟩ ?_
      refine hN20 _ ?_
      refine awp_to (σ := Nat) (fun p22 => ⟨31, [(1, AV.int a1), (5, AV.fl p22), (16, AV.lst 1 AV.fl (List.drop (Int.toNat (1 : Int)) (List.take (List.length a0) a0))), (17, AV.int (List.length (List.drop (Int.toNat (1 : Int)) (List.take (List.length a0) a0)) : Int)), (18, AV.int p13.2)], [], [], []⟩) (fun p22 => F28.j22 rec13 p13 p22 = some r) (fun p22 h => ?_) (fun N22 hJ22 => ?_)
      · unfold F28.j22 at h
        refine hN17 _ ?_
        refine awp_reg kpNone [] [] [1, 5, 16, 17, 18] (cs := []) (st' := ⟨31, [(1, AV.int a1), (5, AV.fl p22), (16, AV.lst 1 AV.fl (List.drop (Int.toNat (1 : Int)) (List.take (List.length a0) a0))), (17, AV.int (List.length (List.drop (Int.toNat (1 : Int)) (List.take (List.length a0) a0)) : Int)), (18, AV.int (w64 (p13.2 + (1 : Int))))], [], [], []⟩) (by kernel_rfl) trivial ?_
        refine awpL_le ?_ (hrec13 _ h)
        exact Le.rfl'
      · refine awp_cond (t := decide ((w64 (x21_2 * a1)) < (0 : Int))) rfl (fun hb => ?_) (fun hb => ?_)
        · rw [if_pos hb] at h
          refine awp_reg kpNone [] [] [1, 5, 16, 17, 18] (cs := []) (st' := ⟨31, [(1, AV.int a1), (5, AV.fl x19_0), (16, AV.lst 1 AV.fl (List.drop (Int.toNat (1 : Int)) (List.take (List.length a0) a0))), (17, AV.int (List.length (List.drop (Int.toNat (1 : Int)) (List.take (List.length a0) a0)) : Int)), (18, AV.int p13.2)], [], [], []⟩) (by kernel_rfl) trivial ?_
          exact hJ22 x19_0 _ h (Le.rfl')
        · rw [if_false hb] at h
          refine awp_skip ?_
          exact hJ22 p13.1 _ h (Le.mk rfl ⟨rfl, rfl, .inl rfl, rfl, rfl, trivial⟩ trivial trivial trivial)
    · rw [if_false hb] at h
      refine awp_exit ?_
      refine hN10 _ ?_
      refine awp_seq fun N25 hN25 => ?_
      refine awp_reg kpNone [] [] [4] (cs := []) (st' := ⟨31, [(4, AV.fl p13.1)], [], [], []⟩) (by kernel_rfl) trivial ?_
      refine hN25 _ ?_
      have h := Option.some.inj h
      subst h
      exact awp_ret ⟨[AV.fl p13.1], by kernel_rfl, Lw.refl _⟩
def A28.l13 (a0 : (List Nat)) (a1 : Int) : (Nat × Int) → Option Nat := iterL (F28.l13 a0 a1) 4096
def A28 (a0 : (List Nat)) (a1 : Int) : Option Nat := F28 (A28.l13 a0 a1) a0 a1
theorem d28 (a0 : (List Nat)) (a1 : Int) (r : Nat) (h : A28 a0 a1 = some r) :
    Det Tryd.prog 28 [AV.lst 1 AV.fl a0, AV.int a1] (.ret (AV.fl r)) := by
  exact c28 a0 a1 (A28.l13 a0 a1) (rounds_iter _ _) r h


-- ratio.Most
def F20 (a0 : (List Nat)) : Option Nat :=
  (A28 a0 (-1)).bind fun x4_1 => some x4_1
/-- ballast/ratio.Most -/
theorem c20 (a0 : (List Nat)) (r : Nat) (h : F20 a0 = some r) :
    Det Tryd.prog 20 [AV.lst 1 AV.fl a0] (.ret (AV.fl r)) := by
  refine Det.of_le ?_
  refine @calls_of_body Tryd.prog 20 Tryd.f20 _ Tryd.func20 rfl (by kernel_rfl) [.tmp 2] (by rw [Tryd.results20]) 5 Tryd.ntmps20 _ _ _ (by simp only [List.length_cons, List.length_nil]; decide) ?_
  unfold F20 at h
  refine awp_seq fun N1 hN1 => ?_
  refine awp_reg kpNone [] [] [0] (cs := []) (st' := ⟨5, [(0, AV.lst 1 AV.fl a0)], [], [], []⟩) (by kernel_rfl) trivial ?_
  refine hN1 _ ?_
  refine awp_seq fun N3 hN3 => ?_
  obtain ⟨x4_1, hx4_1, h⟩ := Option.bind_eq_some_iff.1 h
  refine awp_reg kpNone [(1, AV.fl x4_1)] [] [2] (cs := [(Det Tryd.prog 28 [AV.lst 1 AV.fl a0, AV.int (-1)] (.ret (AV.fl x4_1)))]) (st' := ⟨5, [(2, AV.fl x4_1)], [], [], []⟩) (by kernel_rfl) ⟨d28 a0 (-1) _ hx4_1, trivial⟩ ?_
  refine hN3 _ ?_
  have h := Option.some.inj h
  subst h
  exact awp_ret ⟨[AV.fl x4_1], by kernel_rfl, Lw.refl _⟩


-- level.Worst
def F10 (a0 : State) (a1 : Str) : Option Nat :=
  (A13 a0 a1).bind fun x4_2 => (F20 x4_2).bind fun x4_3 => some x4_3
/-- ballast/level.Worst -/
theorem c10 (a0 : State) (a1 : Str) (r : Nat) (h : F10 a0 a1 = some r) :
    Det Tryd.prog 10 [State.av a0, AV.str a1] (.ret (AV.fl r)) := by
  refine Det.of_le ?_
  refine @calls_of_body Tryd.prog 10 Tryd.f10 _ Tryd.func10 rfl (by kernel_rfl) [.tmp 4] (by rw [Tryd.results10]) 9 Tryd.ntmps10 _ _ _ (by simp only [List.length_cons, List.length_nil]; decide) ?_
  unfold F10 at h
  refine awp_seq fun N1 hN1 => ?_
  refine awp_reg kpNone [] [] [1, 2] (cs := []) (st' := ⟨9, [(1, AV.str a1), (2, .varp 2 0)], [(2, (false, [AV.lst 5 Node.av a0.Nodes, AV.lst 11 Pod.av a0.Pods, AV.lst 3 Budget.av a0.Budgets]))], [], []⟩) (by kernel_rfl) trivial ?_
  refine hN1 _ ?_
  refine awp_seq fun N3 hN3 => ?_
  obtain ⟨x4_2, hx4_2, h⟩ := Option.bind_eq_some_iff.1 h
  obtain ⟨x4_3, hx4_3, h⟩ := Option.bind_eq_some_iff.1 h
  refine awp_reg kpNone [(2, AV.lst 1 AV.fl x4_2), (3, AV.fl x4_3)] [] [4] (cs := [(Det Tryd.prog 13 [State.av a0, AV.str a1] (.ret (AV.lst 1 AV.fl x4_2))), (Det Tryd.prog 20 [AV.lst 1 AV.fl x4_2] (.ret (AV.fl x4_3)))]) (st' := ⟨9, [(4, AV.fl x4_3)], [(2, (false, [AV.lst 5 Node.av a0.Nodes, AV.lst 11 Pod.av a0.Pods, AV.lst 3 Budget.av a0.Budgets]))], [], []⟩) (by kernel_rfl) ⟨d13 a0 a1 _ hx4_2, c20 x4_2 _ hx4_3, trivial⟩ ?_
  refine hN3 _ ?_
  have h := Option.some.inj h
  subst h
  exact awp_ret ⟨[AV.fl x4_3], by kernel_rfl, Lw.refl _⟩


-- ballastlaw18.known
def F4.j27  : (Bool) → Option Bool := fun p27 =>
  some p27
def F4 : Option Bool :=
  (F5 [97] 10).bind fun x4_0 => (F5 [98] 10).bind fun x4_1 => (F5 [100] 10).bind fun x4_3 => (F6 [120] 9 [97]).bind fun x4_5 => (F6 [121] 5 [100]).bind fun x4_6 => (A11 (⟨[x4_0, x4_1, (⟨[99], ([] : (List Amount)), ([] : (List Pair)), ([] : (List Taint)), false⟩ : Node), x4_3], [x4_5, x4_6], ([] : (List Budget))⟩ : State) (⟨4596373779694328218, 4605380978949069210⟩ : Marks)).bind fun x8_2 => if decide (¬ (List.length x8_2 : Int) = (4 : Int)) = true then (some false) else ((F8 0 0).bind fun x15_0 => (getI x8_2 (0 : Int)).bind fun x17_1 => if decide (x17_1 = (2 : Int)) = true then ((getI x8_2 (1 : Int)).bind fun x17_6 => if decide (x17_6 = (0 : Int)) = true then ((getI x8_2 (2 : Int)).bind fun x17_12 => if decide (x17_12 = (1 : Int)) = true then ((getI x8_2 (3 : Int)).bind fun x17_18 => if decide (x17_18 = (1 : Int)) = true then ((F7 (⟨[x4_0, x4_1, (⟨[99], ([] : (List Amount)), ([] : (List Pair)), ([] : (List Taint)), false⟩ : Node), x4_3], [x4_5, x4_6], ([] : (List Budget))⟩ : State) [98] (⟨0, 4607182418800017408⟩ : Marks)).bind fun x17_25 => if decide (x17_25 = (1 : Int)) = true then ((F7 (⟨[x4_0, x4_1, (⟨[99], ([] : (List Amount)), ([] : (List Pair)), ([] : (List Taint)), false⟩ : Node), x4_3], [x4_5, x4_6], ([] : (List Budget))⟩ : State) [97] (⟨x15_0, x15_0⟩ : Marks)).bind fun x17_33 => if decide (x17_33 = (0 : Int)) = true then ((F7 (⟨[x4_0, x4_1, (⟨[99], ([] : (List Amount)), ([] : (List Pair)), ([] : (List Taint)), false⟩ : Node), x4_3], [x4_5, x4_6], ([] : (List Budget))⟩ : State) [97] (⟨x15_0, 4602678819172646912⟩ : Marks)).bind fun x17_40 => if decide (x17_40 = (2 : Int)) = true then ((F10 (⟨[x4_0, x4_1, (⟨[99], ([] : (List Amount)), ([] : (List Pair)), ([] : (List Taint)), false⟩ : Node), x4_3], [x4_5, x4_6], ([] : (List Budget))⟩ : State) [97]).bind fun x17_45 => if fEq x17_45 4606281698874543309 = true then ((F10 (⟨[x4_0, x4_1, (⟨[99], ([] : (List Amount)), ([] : (List Pair)), ([] : (List Taint)), false⟩ : Node), x4_3], [x4_5, x4_6], ([] : (List Budget))⟩ : State) [99]).bind fun x17_50 => (F12 x17_50).bind fun x17_51 => if decide (x17_51 = (6 : Int)) = true then ((F7 (⟨[x4_0, x4_1, (⟨[99], ([] : (List Amount)), ([] : (List Pair)), ([] : (List Taint)), false⟩ : Node), x4_3], [x4_5, x4_6], ([] : (List Budget))⟩ : State) [122] (⟨4596373779694328218, 4605380978949069210⟩ : Marks)).bind fun x17_57 => F4.j27 (decide (x17_57 = (1 : Int)))) else (F4.j27 false)) else (F4.j27 false)) else (F4.j27 false)) else (F4.j27 false)) else (F4.j27 false)) else (F4.j27 false)) else (F4.j27 false)) else (F4.j27 false)) else (F4.j27 false))
/-- ballast/ballastlaw18.known -/
theorem c4 (r : Bool) (h : F4  = some r) :
    Det Tryd.prog 4 [] (.ret (AV.bool r)) := by
  refine Det.of_le ?_
  refine @calls_of_body Tryd.prog 4 Tryd.f4 _ Tryd.func4 rfl (by kernel_rfl) [.tmp 0] (by rw [Tryd.results4]) 82 Tryd.ntmps4 _ _ _ (by simp only [List.length_cons, List.length_nil]; decide) ?_
  unfold F4 at h
  refine awp_seq fun N1 hN1 => ?_
  refine awp_reg kpNone [] [] [] (cs := []) (st' := ⟨82, [], [], [], []⟩) (by kernel_rfl) trivial ?_
  refine hN1 _ ?_
  refine awp_seq fun N3 hN3 => ?_
  obtain ⟨x4_0, hx4_0, h⟩ := Option.bind_eq_some_iff.1 h
  obtain ⟨x4_1, hx4_1, h⟩ := Option.bind_eq_some_iff.1 h
  obtain ⟨x4_3, hx4_3, h⟩ := Option.bind_eq_some_iff.1 h
  obtain ⟨x4_5, hx4_5, h⟩ := Option.bind_eq_some_iff.1 h
  obtain ⟨x4_6, hx4_6, h⟩ := Option.bind_eq_some_iff.1 h
  refine awp_reg kpNone [(0, Node.av x4_0), (1, Node.av x4_1), (3, Node.av x4_3), (5, Pod.av x4_5), (6, Pod.av x4_6)] [] [1] (cs := [(Det Tryd.prog 5 [AV.str [97], AV.int 10] (.ret (Node.av x4_0))), (Det Tryd.prog 5 [AV.str [98], AV.int 10] (.ret (Node.av x4_1))), (Det Tryd.prog 5 [AV.str [100], AV.int 10] (.ret (Node.av x4_3))), (Det Tryd.prog 6 [AV.str [120], AV.int 9, AV.str [97]] (.ret (Pod.av x4_5))), (Det Tryd.prog 6 [AV.str [121], AV.int 5, AV.str [100]] (.ret (Pod.av x4_6)))]) (st' := ⟨82, [(1, .varp 1 0)], [(1, (false, [.slice (.own 9) 5 [Node.av x4_0, Node.av x4_1, .agg [AV.str [99], .nils, .nils, .nils, AV.bool false], Node.av x4_3], .slice (.own 12) 11 (List.map Pod.av [x4_5, x4_6]), .nils]))], [], [(12, (40, 11, 2)), (9, (34, 5, 4))]⟩) (by kernel_rfl) ⟨c5 [97] 10 _ hx4_0, c5 [98] 10 _ hx4_1, c5 [100] 10 _ hx4_3, c6 [120] 9 [97] _ hx4_5, c6 [121] 5 [100] _ hx4_6, trivial⟩ ?_
  refine hN3 _ ?_
  refine awp_seq fun N5 hN5 => ?_
  refine awp_reg kpNone [] [] [1, 2] (cs := []) (st' := ⟨82, [(1, .varp 1 0), (2, .varp 2 0)], [(2, (false, [AV.fl 4596373779694328218, AV.fl 4605380978949069210])), (1, (false, [.slice (.own 9) 5 [Node.av x4_0, Node.av x4_1, .agg [AV.str [99], .nils, .nils, .nils, AV.bool false], Node.av x4_3], .slice (.own 12) 11 (List.map Pod.av [x4_5, x4_6]), .nils]))], [], [(12, (40, 11, 2)), (9, (34, 5, 4))]⟩) (by kernel_rfl) trivial ?_
  refine hN5 _ ?_
  refine awp_seq fun N7 hN7 => ?_
  obtain ⟨x8_2, hx8_2, h⟩ := Option.bind_eq_some_iff.1 h
  refine awp_reg kpNone [(2, AV.lst 1 AV.int x8_2)] [] [1, 2, 3] (cs := [(Det Tryd.prog 11 [.agg [.slice .non 5 [Node.av x4_0, Node.av x4_1, .agg [AV.str [99], .nils, .nils, .nils, AV.bool false], Node.av x4_3], AV.lst 11 Pod.av [x4_5, x4_6], .nils], .agg [AV.fl 4596373779694328218, AV.fl 4605380978949069210]] (.ret (AV.lst 1 AV.int x8_2)))]) (st' := ⟨82, [(1, .varp 1 0), (2, .varp 2 0), (3, AV.lst 1 AV.int x8_2)], [(2, (false, [AV.fl 4596373779694328218, AV.fl 4605380978949069210])), (1, (false, [.slice (.own 9) 5 [Node.av x4_0, Node.av x4_1, .agg [AV.str [99], .nils, .nils, .nils, AV.bool false], Node.av x4_3], .slice (.own 12) 11 (List.map Pod.av [x4_5, x4_6]), .nils]))], [], [(12, (40, 11, 2)), (9, (34, 5, 4))]⟩) (by kernel_rfl) ⟨Det.args (d11 (⟨[x4_0, x4_1, (⟨[99], ([] : (List Amount)), ([] : (List Pair)), ([] : (List Taint)), false⟩ : Node), x4_3], [x4_5, x4_6], ([] : (List Budget))⟩ : State) (⟨4596373779694328218, 4605380978949069210⟩ : Marks) _ hx8_2) ⟨(Lw.aggL ⟨(Lw.sliceL ⟨⟨LwL_rfl _, rfl⟩, ⟨LwL_rfl _, rfl⟩, ⟨⟨(Lw.refl _), (Lw.nils _), (Lw.nils _), (Lw.nils _), (Lw.refl _), trivial⟩, rfl⟩, ⟨LwL_rfl _, rfl⟩, trivial⟩), (Lw.refl _), (Lw.nils _), trivial⟩), (Lw.refl _), trivial⟩, trivial⟩ ?_
  refine hN7 _ ?_
  refine awp_seq fun N9 hN9 => ?_
  refine awp_seq fun N10 hN10 => ?_
  refine awp_reg kpNone [(1, AV.int (List.length x8_2 : Int))] [] [1, 2, 3, 20] (cs := [((AV.int (List.length x8_2 : Int) = .val (.int .i64 (List.length (List.map AV.int x8_2) : Int))))]) (st' := ⟨82, [(1, .varp 1 0), (2, .varp 2 0), (3, AV.lst 1 AV.int x8_2), (20, AV.bool (decide (¬ (List.length x8_2 : Int) = (4 : Int))))], [(2, (false, [AV.fl 4596373779694328218, AV.fl 4605380978949069210])), (1, (false, [.slice (.own 9) 5 [Node.av x4_0, Node.av x4_1, .agg [AV.str [99], .nils, .nils, .nils, AV.bool false], Node.av x4_3], .slice (.own 12) 11 (List.map Pod.av [x4_5, x4_6]), .nils]))], [], [(12, (40, 11, 2)), (9, (34, 5, 4))]⟩) (by kernel_rfl) ⟨len_map _ _, trivial⟩ ?_
  refine hN10 _ ?_
  refine awp_cond (t := decide (¬ (List.length x8_2 : Int) = (4 : Int))) rfl (fun hb => ?_) (fun hb => ?_)
  · rw [if_pos hb] at h
    refine awp_seq fun N12 hN12 => ?_
    refine awp_reg kpNone [] [] [0] (cs := []) (st' := ⟨82, [(0, AV.bool false)], [(2, (false, [AV.fl 4596373779694328218, AV.fl 4605380978949069210])), (1, (false, [.slice (.own 9) 5 [Node.av x4_0, Node.av x4_1, .agg [AV.str [99], .nils, .nils, .nils, AV.bool false], Node.av x4_3], .slice (.own 12) 11 (List.map Pod.av [x4_5, x4_6]), .nils]))], [], [(12, (40, 11, 2)), (9, (34, 5, 4))]⟩) (by kernel_rfl) trivial ?_
    refine hN12 _ ?_
    have h := Option.some.inj h
    subst h
    exact awp_ret ⟨[AV.bool false], by kernel_rfl, Lw.refl _⟩
  · rw [if_false hb] at h
    refine awp_skip ?_
    refine hN9 _ ?_
    refine awp_seq fun N14 hN14 => ?_
    obtain ⟨x15_0, hx15_0, h⟩ := Option.bind_eq_some_iff.1 h
    refine awp_reg kpNone [(0, AV.fl x15_0)] [] [1, 2, 3, 4] (cs := [(Det Tryd.prog 8 [AV.int 0, AV.int 0] (.ret (AV.fl x15_0)))]) (st' := ⟨82, [(1, .varp 1 0), (2, .varp 2 0), (3, AV.lst 1 AV.int x8_2), (4, AV.fl x15_0)], [(2, (false, [AV.fl 4596373779694328218, AV.fl 4605380978949069210])), (1, (false, [.slice (.own 9) 5 [Node.av x4_0, Node.av x4_1, .agg [AV.str [99], .nils, .nils, .nils, AV.bool false], Node.av x4_3], .slice (.own 12) 11 (List.map Pod.av [x4_5, x4_6]), .nils]))], [], [(12, (40, 11, 2)), (9, (34, 5, 4))]⟩) (by kernel_rfl) ⟨c8 0 0 _ hx15_0, trivial⟩ ?_
    refine hN14 _ ?_
    refine awp_seq fun N16 hN16 => ?_
    refine awp_to (σ := Bool) (fun p27 => ⟨82, [(0, AV.bool p27)], [(2, (false, [AV.fl 4596373779694328218, AV.fl 4605380978949069210])), (1, (false, [.slice (.own 9) 5 [Node.av x4_0, Node.av x4_1, .agg [AV.str [99], .nils, .nils, .nils, AV.bool false], Node.av x4_3], .slice (.own 12) 11 (List.map Pod.av [x4_5, x4_6]), .nils]))], [], [(9, (34, 5, 4)), (12, (40, 11, List.length (List.map Pod.av [x4_5, x4_6])))]⟩) (fun p27 => F4.j27 p27 = some r) (fun p27 h => ?_) (fun N27 hJ27 => ?_)
    · unfold F4.j27 at h
      refine hN16 _ ?_
      have h := Option.some.inj h
      subst h
      exact awp_ret ⟨[AV.bool p27], by kernel_rfl, Lw.refl _⟩
    · obtain ⟨x17_1, hx17_1, h⟩ := Option.bind_eq_some_iff.1 h
      by_cases hg18 : decide (x17_1 = (2 : Int)) = true
      · rw [if_pos hg18] at h
        obtain ⟨x17_6, hx17_6, h⟩ := Option.bind_eq_some_iff.1 h
        by_cases hg19 : decide (x17_6 = (0 : Int)) = true
        · rw [if_pos hg19] at h
          obtain ⟨x17_12, hx17_12, h⟩ := Option.bind_eq_some_iff.1 h
          by_cases hg20 : decide (x17_12 = (1 : Int)) = true
          · rw [if_pos hg20] at h
            obtain ⟨x17_18, hx17_18, h⟩ := Option.bind_eq_some_iff.1 h
            by_cases hg21 : decide (x17_18 = (1 : Int)) = true
            · rw [if_pos hg21] at h
              obtain ⟨x17_25, hx17_25, h⟩ := Option.bind_eq_some_iff.1 h
              by_cases hg22 : decide (x17_25 = (1 : Int)) = true
              · rw [if_pos hg22] at h
                obtain ⟨x17_33, hx17_33, h⟩ := Option.bind_eq_some_iff.1 h
                by_cases hg23 : decide (x17_33 = (0 : Int)) = true
                · rw [if_pos hg23] at h
                  obtain ⟨x17_40, hx17_40, h⟩ := Option.bind_eq_some_iff.1 h
                  by_cases hg24 : decide (x17_40 = (2 : Int)) = true
                  · rw [if_pos hg24] at h
                    obtain ⟨x17_45, hx17_45, h⟩ := Option.bind_eq_some_iff.1 h
                    by_cases hg25 : fEq x17_45 4606281698874543309 = true
                    · rw [if_pos hg25] at h
                      obtain ⟨x17_50, hx17_50, h⟩ := Option.bind_eq_some_iff.1 h
                      obtain ⟨x17_51, hx17_51, h⟩ := Option.bind_eq_some_iff.1 h
                      by_cases hg26 : decide (x17_51 = (6 : Int)) = true
                      · rw [if_pos hg26] at h
                        obtain ⟨x17_57, hx17_57, h⟩ := Option.bind_eq_some_iff.1 h
                        refine awp_reg kpNone [(1, AV.int x17_1), (6, AV.int x17_6), (12, AV.int x17_12), (18, AV.int x17_18), (25, AV.int x17_25), (33, AV.int x17_33), (40, AV.int x17_40), (45, AV.fl x17_45), (50, AV.fl x17_50), (51, AV.int x17_51), (57, AV.int x17_57)] [(4, true), (10, true), (16, true), (22, true), (28, true), (36, true), (43, true), (48, true), (54, true)] [0] (cs := [(0 ≤ (0 : Int)), ((List.map AV.int x8_2)[Int.toNat (0 : Int)]? = some (AV.int x17_1)), (decide (x17_1 = (2 : Int)) = true), (0 ≤ (1 : Int)), ((List.map AV.int x8_2)[Int.toNat (1 : Int)]? = some (AV.int x17_6)), (decide (x17_6 = (0 : Int)) = true), (0 ≤ (2 : Int)), ((List.map AV.int x8_2)[Int.toNat (2 : Int)]? = some (AV.int x17_12)), (decide (x17_12 = (1 : Int)) = true), (0 ≤ (3 : Int)), ((List.map AV.int x8_2)[Int.toNat (3 : Int)]? = some (AV.int x17_18)), (decide (x17_18 = (1 : Int)) = true), (Det Tryd.prog 7 [.agg [.slice .non 5 [Node.av x4_0, Node.av x4_1, .agg [AV.str [99], .nils, .nils, .nils, AV.bool false], Node.av x4_3], AV.lst 11 Pod.av [x4_5, x4_6], .nils], AV.str [98], .agg [AV.fl 0, AV.fl 4607182418800017408]] (.ret (AV.int x17_25))), (decide (x17_25 = (1 : Int)) = true), (Det Tryd.prog 7 [.agg [.slice .non 5 [Node.av x4_0, Node.av x4_1, .agg [AV.str [99], .nils, .nils, .nils, AV.bool false], Node.av x4_3], AV.lst 11 Pod.av [x4_5, x4_6], .nils], AV.str [97], .agg [AV.fl x15_0, AV.fl x15_0]] (.ret (AV.int x17_33))), (decide (x17_33 = (0 : Int)) = true), (Det Tryd.prog 7 [.agg [.slice .non 5 [Node.av x4_0, Node.av x4_1, .agg [AV.str [99], .nils, .nils, .nils, AV.bool false], Node.av x4_3], AV.lst 11 Pod.av [x4_5, x4_6], .nils], AV.str [97], .agg [AV.fl x15_0, AV.fl 4602678819172646912]] (.ret (AV.int x17_40))), (decide (x17_40 = (2 : Int)) = true), (Det Tryd.prog 10 [.agg [.slice .non 5 [Node.av x4_0, Node.av x4_1, .agg [AV.str [99], .nils, .nils, .nils, AV.bool false], Node.av x4_3], AV.lst 11 Pod.av [x4_5, x4_6], .nils], AV.str [97]] (.ret (AV.fl x17_45))), (fEq x17_45 4606281698874543309 = true), (Det Tryd.prog 10 [.agg [.slice .non 5 [Node.av x4_0, Node.av x4_1, .agg [AV.str [99], .nils, .nils, .nils, AV.bool false], Node.av x4_3], AV.lst 11 Pod.av [x4_5, x4_6], .nils], AV.str [99]] (.ret (AV.fl x17_50))), (Det Tryd.prog 12 [AV.fl x17_50] (.ret (AV.int x17_51))), (decide (x17_51 = (6 : Int)) = true), (Det Tryd.prog 7 [.agg [.slice .non 5 [Node.av x4_0, Node.av x4_1, .agg [AV.str [99], .nils, .nils, .nils, AV.bool false], Node.av x4_3], AV.lst 11 Pod.av [x4_5, x4_6], .nils], AV.str [122], .agg [AV.fl 4596373779694328218, AV.fl 4605380978949069210]] (.ret (AV.int x17_57)))]) (st' := ⟨82, [(0, AV.bool (decide (x17_57 = (1 : Int))))], [(2, (false, [AV.fl 4596373779694328218, AV.fl 4605380978949069210])), (1, (false, [.slice (.own 9) 5 [Node.av x4_0, Node.av x4_1, .agg [AV.str [99], .nils, .nils, .nils, AV.bool false], Node.av x4_3], .slice (.own 12) 11 (List.map Pod.av [x4_5, x4_6]), .nils]))], [], [(12, (40, 11, 2)), (9, (34, 5, 4))]⟩) (by kernel_rfl) ⟨getI_le hx17_1, getI_map hx17_1 _, hg18, getI_le hx17_6, getI_map hx17_6 _, hg19, getI_le hx17_12, getI_map hx17_12 _, hg20, getI_le hx17_18, getI_map hx17_18 _, hg21, Det.args (c7 (⟨[x4_0, x4_1, (⟨[99], ([] : (List Amount)), ([] : (List Pair)), ([] : (List Taint)), false⟩ : Node), x4_3], [x4_5, x4_6], ([] : (List Budget))⟩ : State) [98] (⟨0, 4607182418800017408⟩ : Marks) _ hx17_25) ⟨(Lw.aggL ⟨(Lw.sliceL ⟨⟨LwL_rfl _, rfl⟩, ⟨LwL_rfl _, rfl⟩, ⟨⟨(Lw.refl _), (Lw.nils _), (Lw.nils _), (Lw.nils _), (Lw.refl _), trivial⟩, rfl⟩, ⟨LwL_rfl _, rfl⟩, trivial⟩), (Lw.refl _), (Lw.nils _), trivial⟩), (Lw.refl _), (Lw.refl _), trivial⟩, hg22, Det.args (c7 (⟨[x4_0, x4_1, (⟨[99], ([] : (List Amount)), ([] : (List Pair)), ([] : (List Taint)), false⟩ : Node), x4_3], [x4_5, x4_6], ([] : (List Budget))⟩ : State) [97] (⟨x15_0, x15_0⟩ : Marks) _ hx17_33) ⟨(Lw.aggL ⟨(Lw.sliceL ⟨⟨LwL_rfl _, rfl⟩, ⟨LwL_rfl _, rfl⟩, ⟨⟨(Lw.refl _), (Lw.nils _), (Lw.nils _), (Lw.nils _), (Lw.refl _), trivial⟩, rfl⟩, ⟨LwL_rfl _, rfl⟩, trivial⟩), (Lw.refl _), (Lw.nils _), trivial⟩), (Lw.refl _), (Lw.refl _), trivial⟩, hg23, Det.args (c7 (⟨[x4_0, x4_1, (⟨[99], ([] : (List Amount)), ([] : (List Pair)), ([] : (List Taint)), false⟩ : Node), x4_3], [x4_5, x4_6], ([] : (List Budget))⟩ : State) [97] (⟨x15_0, 4602678819172646912⟩ : Marks) _ hx17_40) ⟨(Lw.aggL ⟨(Lw.sliceL ⟨⟨LwL_rfl _, rfl⟩, ⟨LwL_rfl _, rfl⟩, ⟨⟨(Lw.refl _), (Lw.nils _), (Lw.nils _), (Lw.nils _), (Lw.refl _), trivial⟩, rfl⟩, ⟨LwL_rfl _, rfl⟩, trivial⟩), (Lw.refl _), (Lw.nils _), trivial⟩), (Lw.refl _), (Lw.refl _), trivial⟩, hg24, Det.args (c10 (⟨[x4_0, x4_1, (⟨[99], ([] : (List Amount)), ([] : (List Pair)), ([] : (List Taint)), false⟩ : Node), x4_3], [x4_5, x4_6], ([] : (List Budget))⟩ : State) [97] _ hx17_45) ⟨(Lw.aggL ⟨(Lw.sliceL ⟨⟨LwL_rfl _, rfl⟩, ⟨LwL_rfl _, rfl⟩, ⟨⟨(Lw.refl _), (Lw.nils _), (Lw.nils _), (Lw.nils _), (Lw.refl _), trivial⟩, rfl⟩, ⟨LwL_rfl _, rfl⟩, trivial⟩), (Lw.refl _), (Lw.nils _), trivial⟩), (Lw.refl _), trivial⟩, hg25, Det.args (c10 (⟨[x4_0, x4_1, (⟨[99], ([] : (List Amount)), ([] : (List Pair)), ([] : (List Taint)), false⟩ : Node), x4_3], [x4_5, x4_6], ([] : (List Budget))⟩ : State) [99] _ hx17_50) ⟨(Lw.aggL ⟨(Lw.sliceL ⟨⟨LwL_rfl _, rfl⟩, ⟨LwL_rfl _, rfl⟩, ⟨⟨(Lw.refl _), (Lw.nils _), (Lw.nils _), (Lw.nils _), (Lw.refl _), trivial⟩, rfl⟩, ⟨LwL_rfl _, rfl⟩, trivial⟩), (Lw.refl _), (Lw.nils _), trivial⟩), (Lw.refl _), trivial⟩, c12 x17_50 _ hx17_51, hg26, Det.args (c7 (⟨[x4_0, x4_1, (⟨[99], ([] : (List Amount)), ([] : (List Pair)), ([] : (List Taint)), false⟩ : Node), x4_3], [x4_5, x4_6], ([] : (List Budget))⟩ : State) [122] (⟨4596373779694328218, 4605380978949069210⟩ : Marks) _ hx17_57) ⟨(Lw.aggL ⟨(Lw.sliceL ⟨⟨LwL_rfl _, rfl⟩, ⟨LwL_rfl _, rfl⟩, ⟨⟨(Lw.refl _), (Lw.nils _), (Lw.nils _), (Lw.nils _), (Lw.refl _), trivial⟩, rfl⟩, ⟨LwL_rfl _, rfl⟩, trivial⟩), (Lw.refl _), (Lw.nils _), trivial⟩), (Lw.refl _), (Lw.refl _), trivial⟩, trivial⟩ ?_
                        exact hJ27 (decide (x17_57 = (1 : Int))) _ h (Le.mk rfl ⟨rfl, trivial⟩ ⟨⟨rfl, ⟨rfl, rfl, trivial⟩⟩, ⟨rfl, ⟨.inl ⟨rfl, rfl⟩, .inl ⟨rfl, rfl⟩, rfl, trivial⟩⟩, trivial⟩ ⟨rfl, rfl, trivial⟩ trivial)
                      · rw [if_neg hg26] at h
                        have hg26 := Bool.eq_false_iff.2 hg26
                        refine awp_reg kpNone [(1, AV.int x17_1), (6, AV.int x17_6), (12, AV.int x17_12), (18, AV.int x17_18), (25, AV.int x17_25), (33, AV.int x17_33), (40, AV.int x17_40), (45, AV.fl x17_45), (50, AV.fl x17_50), (51, AV.int x17_51)] [(4, true), (10, true), (16, true), (22, true), (28, true), (36, true), (43, true), (48, true), (54, false)] [0] (cs := [(0 ≤ (0 : Int)), ((List.map AV.int x8_2)[Int.toNat (0 : Int)]? = some (AV.int x17_1)), (decide (x17_1 = (2 : Int)) = true), (0 ≤ (1 : Int)), ((List.map AV.int x8_2)[Int.toNat (1 : Int)]? = some (AV.int x17_6)), (decide (x17_6 = (0 : Int)) = true), (0 ≤ (2 : Int)), ((List.map AV.int x8_2)[Int.toNat (2 : Int)]? = some (AV.int x17_12)), (decide (x17_12 = (1 : Int)) = true), (0 ≤ (3 : Int)), ((List.map AV.int x8_2)[Int.toNat (3 : Int)]? = some (AV.int x17_18)), (decide (x17_18 = (1 : Int)) = true), (Det Tryd.prog 7 [.agg [.slice .non 5 [Node.av x4_0, Node.av x4_1, .agg [AV.str [99], .nils, .nils, .nils, AV.bool false], Node.av x4_3], AV.lst 11 Pod.av [x4_5, x4_6], .nils], AV.str [98], .agg [AV.fl 0, AV.fl 4607182418800017408]] (.ret (AV.int x17_25))), (decide (x17_25 = (1 : Int)) = true), (Det Tryd.prog 7 [.agg [.slice .non 5 [Node.av x4_0, Node.av x4_1, .agg [AV.str [99], .nils, .nils, .nils, AV.bool false], Node.av x4_3], AV.lst 11 Pod.av [x4_5, x4_6], .nils], AV.str [97], .agg [AV.fl x15_0, AV.fl x15_0]] (.ret (AV.int x17_33))), (decide (x17_33 = (0 : Int)) = true), (Det Tryd.prog 7 [.agg [.slice .non 5 [Node.av x4_0, Node.av x4_1, .agg [AV.str [99], .nils, .nils, .nils, AV.bool false], Node.av x4_3], AV.lst 11 Pod.av [x4_5, x4_6], .nils], AV.str [97], .agg [AV.fl x15_0, AV.fl 4602678819172646912]] (.ret (AV.int x17_40))), (decide (x17_40 = (2 : Int)) = true), (Det Tryd.prog 10 [.agg [.slice .non 5 [Node.av x4_0, Node.av x4_1, .agg [AV.str [99], .nils, .nils, .nils, AV.bool false], Node.av x4_3], AV.lst 11 Pod.av [x4_5, x4_6], .nils], AV.str [97]] (.ret (AV.fl x17_45))), (fEq x17_45 4606281698874543309 = true), (Det Tryd.prog 10 [.agg [.slice .non 5 [Node.av x4_0, Node.av x4_1, .agg [AV.str [99], .nils, .nils, .nils, AV.bool false], Node.av x4_3], AV.lst 11 Pod.av [x4_5, x4_6], .nils], AV.str [99]] (.ret (AV.fl x17_50))), (Det Tryd.prog 12 [AV.fl x17_50] (.ret (AV.int x17_51))), (decide (x17_51 = (6 : Int)) = false)]) (st' := ⟨82, [(0, AV.bool false)], [(2, (false, [AV.fl 4596373779694328218, AV.fl 4605380978949069210])), (1, (false, [.slice (.own 9) 5 [Node.av x4_0, Node.av x4_1, .agg [AV.str [99], .nils, .nils, .nils, AV.bool false], Node.av x4_3], .slice (.own 12) 11 (List.map Pod.av [x4_5, x4_6]), .nils]))], [], [(12, (40, 11, 2)), (9, (34, 5, 4))]⟩) (by kernel_rfl) ⟨getI_le hx17_1, getI_map hx17_1 _, hg18, getI_le hx17_6, getI_map hx17_6 _, hg19, getI_le hx17_12, getI_map hx17_12 _, hg20, getI_le hx17_18, getI_map hx17_18 _, hg21, Det.args (c7 (⟨[x4_0, x4_1, (⟨[99], ([] : (List Amount)), ([] : (List Pair)), ([] : (List Taint)), false⟩ : Node), x4_3], [x4_5, x4_6], ([] : (List Budget))⟩ : State) [98] (⟨0, 4607182418800017408⟩ : Marks) _ hx17_25) ⟨(Lw.aggL ⟨(Lw.sliceL ⟨⟨LwL_rfl _, rfl⟩, ⟨LwL_rfl _, rfl⟩, ⟨⟨(Lw.refl _), (Lw.nils _), (Lw.nils _), (Lw.nils _), (Lw.refl _), trivial⟩, rfl⟩, ⟨LwL_rfl _, rfl⟩, trivial⟩), (Lw.refl _), (Lw.nils _), trivial⟩), (Lw.refl _), (Lw.refl _), trivial⟩, hg22, Det.args (c7 (⟨[x4_0, x4_1, (⟨[99], ([] : (List Amount)), ([] : (List Pair)), ([] : (List Taint)), false⟩ : Node), x4_3], [x4_5, x4_6], ([] : (List Budget))⟩ : State) [97] (⟨x15_0, x15_0⟩ : Marks) _ hx17_33) ⟨(Lw.aggL ⟨(Lw.sliceL ⟨⟨LwL_rfl _, rfl⟩, ⟨LwL_rfl _, rfl⟩, ⟨⟨(Lw.refl _), (Lw.nils _), (Lw.nils _), (Lw.nils _), (Lw.refl _), trivial⟩, rfl⟩, ⟨LwL_rfl _, rfl⟩, trivial⟩), (Lw.refl _), (Lw.nils _), trivial⟩), (Lw.refl _), (Lw.refl _), trivial⟩, hg23, Det.args (c7 (⟨[x4_0, x4_1, (⟨[99], ([] : (List Amount)), ([] : (List Pair)), ([] : (List Taint)), false⟩ : Node), x4_3], [x4_5, x4_6], ([] : (List Budget))⟩ : State) [97] (⟨x15_0, 4602678819172646912⟩ : Marks) _ hx17_40) ⟨(Lw.aggL ⟨(Lw.sliceL ⟨⟨LwL_rfl _, rfl⟩, ⟨LwL_rfl _, rfl⟩, ⟨⟨(Lw.refl _), (Lw.nils _), (Lw.nils _), (Lw.nils _), (Lw.refl _), trivial⟩, rfl⟩, ⟨LwL_rfl _, rfl⟩, trivial⟩), (Lw.refl _), (Lw.nils _), trivial⟩), (Lw.refl _), (Lw.refl _), trivial⟩, hg24, Det.args (c10 (⟨[x4_0, x4_1, (⟨[99], ([] : (List Amount)), ([] : (List Pair)), ([] : (List Taint)), false⟩ : Node), x4_3], [x4_5, x4_6], ([] : (List Budget))⟩ : State) [97] _ hx17_45) ⟨(Lw.aggL ⟨(Lw.sliceL ⟨⟨LwL_rfl _, rfl⟩, ⟨LwL_rfl _, rfl⟩, ⟨⟨(Lw.refl _), (Lw.nils _), (Lw.nils _), (Lw.nils _), (Lw.refl _), trivial⟩, rfl⟩, ⟨LwL_rfl _, rfl⟩, trivial⟩), (Lw.refl _), (Lw.nils _), trivial⟩), (Lw.refl _), trivial⟩, hg25, Det.args (c10 (⟨[x4_0, x4_1, (⟨[99], ([] : (List Amount)), ([] : (List Pair)), ([] : (List Taint)), false⟩ : Node), x4_3], [x4_5, x4_6], ([] : (List Budget))⟩ : State) [99] _ hx17_50) ⟨(Lw.aggL ⟨(Lw.sliceL ⟨⟨LwL_rfl _, rfl⟩, ⟨LwL_rfl _, rfl⟩, ⟨⟨(Lw.refl _), (Lw.nils _), (Lw.nils _), (Lw.nils _), (Lw.refl _), trivial⟩, rfl⟩, ⟨LwL_rfl _, rfl⟩, trivial⟩), (Lw.refl _), (Lw.nils _), trivial⟩), (Lw.refl _), trivial⟩, c12 x17_50 _ hx17_51, hg26, trivial⟩ ?_
                        exact hJ27 false _ h (Le.mk rfl ⟨rfl, trivial⟩ ⟨⟨rfl, ⟨rfl, rfl, trivial⟩⟩, ⟨rfl, ⟨.inl ⟨rfl, rfl⟩, .inl ⟨rfl, rfl⟩, rfl, trivial⟩⟩, trivial⟩ ⟨rfl, rfl, trivial⟩ trivial)
                    · rw [if_neg hg25] at h
                      have hg25 := Bool.eq_false_iff.2 hg25
                      refine awp_reg kpNone [(1, AV.int x17_1), (6, AV.int x17_6), (12, AV.int x17_12), (18, AV.int x17_18), (25, AV.int x17_25), (33, AV.int x17_33), (40, AV.int x17_40), (45, AV.fl x17_45)] [(4, true), (10, true), (16, true), (22, true), (28, true), (36, true), (43, true), (48, false)] [0] (cs := [(0 ≤ (0 : Int)), ((List.map AV.int x8_2)[Int.toNat (0 : Int)]? = some (AV.int x17_1)), (decide (x17_1 = (2 : Int)) = true), (0 ≤ (1 : Int)), ((List.map AV.int x8_2)[Int.toNat (1 : Int)]? = some (AV.int x17_6)), (decide (x17_6 = (0 : Int)) = true), (0 ≤ (2 : Int)), ((List.map AV.int x8_2)[Int.toNat (2 : Int)]? = some (AV.int x17_12)), (decide (x17_12 = (1 : Int)) = true), (0 ≤ (3 : Int)), ((List.map AV.int x8_2)[Int.toNat (3 : Int)]? = some (AV.int x17_18)), (decide (x17_18 = (1 : Int)) = true), (Det Tryd.prog 7 [.agg [.slice .non 5 [Node.av x4_0, Node.av x4_1, .agg [AV.str [99], .nils, .nils, .nils, AV.bool false], Node.av x4_3], AV.lst 11 Pod.av [x4_5, x4_6], .nils], AV.str [98], .agg [AV.fl 0, AV.fl 4607182418800017408]] (.ret (AV.int x17_25))), (decide (x17_25 = (1 : Int)) = true), (Det Tryd.prog 7 [.agg [.slice .non 5 [Node.av x4_0, Node.av x4_1, .agg [AV.str [99], .nils, .nils, .nils, AV.bool false], Node.av x4_3], AV.lst 11 Pod.av [x4_5, x4_6], .nils], AV.str [97], .agg [AV.fl x15_0, AV.fl x15_0]] (.ret (AV.int x17_33))), (decide (x17_33 = (0 : Int)) = true), (Det Tryd.prog 7 [.agg [.slice .non 5 [Node.av x4_0, Node.av x4_1, .agg [AV.str [99], .nils, .nils, .nils, AV.bool false], Node.av x4_3], AV.lst 11 Pod.av [x4_5, x4_6], .nils], AV.str [97], .agg [AV.fl x15_0, AV.fl 4602678819172646912]] (.ret (AV.int x17_40))), (decide (x17_40 = (2 : Int)) = true), (Det Tryd.prog 10 [.agg [.slice .non 5 [Node.av x4_0, Node.av x4_1, .agg [AV.str [99], .nils, .nils, .nils, AV.bool false], Node.av x4_3], AV.lst 11 Pod.av [x4_5, x4_6], .nils], AV.str [97]] (.ret (AV.fl x17_45))), (fEq x17_45 4606281698874543309 = false)]) (st' := ⟨82, [(0, AV.bool false)], [(2, (false, [AV.fl 4596373779694328218, AV.fl 4605380978949069210])), (1, (false, [.slice (.own 9) 5 [Node.av x4_0, Node.av x4_1, .agg [AV.str [99], .nils, .nils, .nils, AV.bool false], Node.av x4_3], .slice (.own 12) 11 (List.map Pod.av [x4_5, x4_6]), .nils]))], [], [(12, (40, 11, 2)), (9, (34, 5, 4))]⟩) (by kernel_rfl) ⟨getI_le hx17_1, getI_map hx17_1 _, hg18, getI_le hx17_6, getI_map hx17_6 _, hg19, getI_le hx17_12, getI_map hx17_12 _, hg20, getI_le hx17_18, getI_map hx17_18 _, hg21, Det.args (c7 (⟨[x4_0, x4_1, (⟨[99], ([] : (List Amount)), ([] : (List Pair)), ([] : (List Taint)), false⟩ : Node), x4_3], [x4_5, x4_6], ([] : (List Budget))⟩ : State) [98] (⟨0, 4607182418800017408⟩ : Marks) _ hx17_25) ⟨(Lw.aggL ⟨(Lw.sliceL ⟨⟨LwL_rfl _, rfl⟩, ⟨LwL_rfl _, rfl⟩, ⟨⟨(Lw.refl _), (Lw.nils _), (Lw.nils _), (Lw.nils _), (Lw.refl _), trivial⟩, rfl⟩, ⟨LwL_rfl _, rfl⟩, trivial⟩), (Lw.refl _), (Lw.nils _), trivial⟩), (Lw.refl _), (Lw.refl _), trivial⟩, hg22, Det.args (c7 (⟨[x4_0, x4_1, (⟨[99], ([] : (List Amount)), ([] : (List Pair)), ([] : (List Taint)), false⟩ : Node), x4_3], [x4_5, x4_6], ([] : (List Budget))⟩ : State) [97] (⟨x15_0, x15_0⟩ : Marks) _ hx17_33) ⟨(Lw.aggL ⟨(Lw.sliceL ⟨⟨LwL_rfl _, rfl⟩, ⟨LwL_rfl _, rfl⟩, ⟨⟨(Lw.refl _), (Lw.nils _), (Lw.nils _), (Lw.nils _), (Lw.refl _), trivial⟩, rfl⟩, ⟨LwL_rfl _, rfl⟩, trivial⟩), (Lw.refl _), (Lw.nils _), trivial⟩), (Lw.refl _), (Lw.refl _), trivial⟩, hg23, Det.args (c7 (⟨[x4_0, x4_1, (⟨[99], ([] : (List Amount)), ([] : (List Pair)), ([] : (List Taint)), false⟩ : Node), x4_3], [x4_5, x4_6], ([] : (List Budget))⟩ : State) [97] (⟨x15_0, 4602678819172646912⟩ : Marks) _ hx17_40) ⟨(Lw.aggL ⟨(Lw.sliceL ⟨⟨LwL_rfl _, rfl⟩, ⟨LwL_rfl _, rfl⟩, ⟨⟨(Lw.refl _), (Lw.nils _), (Lw.nils _), (Lw.nils _), (Lw.refl _), trivial⟩, rfl⟩, ⟨LwL_rfl _, rfl⟩, trivial⟩), (Lw.refl _), (Lw.nils _), trivial⟩), (Lw.refl _), (Lw.refl _), trivial⟩, hg24, Det.args (c10 (⟨[x4_0, x4_1, (⟨[99], ([] : (List Amount)), ([] : (List Pair)), ([] : (List Taint)), false⟩ : Node), x4_3], [x4_5, x4_6], ([] : (List Budget))⟩ : State) [97] _ hx17_45) ⟨(Lw.aggL ⟨(Lw.sliceL ⟨⟨LwL_rfl _, rfl⟩, ⟨LwL_rfl _, rfl⟩, ⟨⟨(Lw.refl _), (Lw.nils _), (Lw.nils _), (Lw.nils _), (Lw.refl _), trivial⟩, rfl⟩, ⟨LwL_rfl _, rfl⟩, trivial⟩), (Lw.refl _), (Lw.nils _), trivial⟩), (Lw.refl _), trivial⟩, hg25, trivial⟩ ?_
                      exact hJ27 false _ h (Le.mk rfl ⟨rfl, trivial⟩ ⟨⟨rfl, ⟨rfl, rfl, trivial⟩⟩, ⟨rfl, ⟨.inl ⟨rfl, rfl⟩, .inl ⟨rfl, rfl⟩, rfl, trivial⟩⟩, trivial⟩ ⟨rfl, rfl, trivial⟩ trivial)
                  · rw [if_neg hg24] at h
                    have hg24 := Bool.eq_false_iff.2 hg24
                    refine awp_reg kpNone [(1, AV.int x17_1), (6, AV.int x17_6), (12, AV.int x17_12), (18, AV.int x17_18), (25, AV.int x17_25), (33, AV.int x17_33), (40, AV.int x17_40)] [(4, true), (10, true), (16, true), (22, true), (28, true), (36, true), (43, false)] [0] (cs := [(0 ≤ (0 : Int)), ((List.map AV.int x8_2)[Int.toNat (0 : Int)]? = some (AV.int x17_1)), (decide (x17_1 = (2 : Int)) = true), (0 ≤ (1 : Int)), ((List.map AV.int x8_2)[Int.toNat (1 : Int)]? = some (AV.int x17_6)), (decide (x17_6 = (0 : Int)) = true), (0 ≤ (2 : Int)), ((List.map AV.int x8_2)[Int.toNat (2 : Int)]? = some (AV.int x17_12)), (decide (x17_12 = (1 : Int)) = true), (0 ≤ (3 : Int)), ((List.map AV.int x8_2)[Int.toNat (3 : Int)]? = some (AV.int x17_18)), (decide (x17_18 = (1 : Int)) = true), (Det Tryd.prog 7 [.agg [.slice .non 5 [Node.av x4_0, Node.av x4_1, .agg [AV.str [99], .nils, .nils, .nils, AV.bool false], Node.av x4_3], AV.lst 11 Pod.av [x4_5, x4_6], .nils], AV.str [98], .agg [AV.fl 0, AV.fl 4607182418800017408]] (.ret (AV.int x17_25))), (decide (x17_25 = (1 : Int)) = true), (Det Tryd.prog 7 [.agg [.slice .non 5 [Node.av x4_0, Node.av x4_1, .agg [AV.str [99], .nils, .nils, .nils, AV.bool false], Node.av x4_3], AV.lst 11 Pod.av [x4_5, x4_6], .nils], AV.str [97], .agg [AV.fl x15_0, AV.fl x15_0]] (.ret (AV.int x17_33))), (decide (x17_33 = (0 : Int)) = true), (Det Tryd.prog 7 [.agg [.slice .non 5 [Node.av x4_0, Node.av x4_1, .agg [AV.str [99], .nils, .nils, .nils, AV.bool false], Node.av x4_3], AV.lst 11 Pod.av [x4_5, x4_6], .nils], AV.str [97], .agg [AV.fl x15_0, AV.fl 4602678819172646912]] (.ret (AV.int x17_40))), (decide (x17_40 = (2 : Int)) = false)]) (st' := ⟨82, [(0, AV.bool false)], [(2, (false, [AV.fl 4596373779694328218, AV.fl 4605380978949069210])), (1, (false, [.slice (.own 9) 5 [Node.av x4_0, Node.av x4_1, .agg [AV.str [99], .nils, .nils, .nils, AV.bool false], Node.av x4_3], .slice (.own 12) 11 (List.map Pod.av [x4_5, x4_6]), .nils]))], [], [(12, (40, 11, 2)), (9, (34, 5, 4))]⟩) (by kernel_rfl) ⟨getI_le hx17_1, getI_map hx17_1 _, hg18, getI_le hx17_6, getI_map hx17_6 _, hg19, getI_le hx17_12, getI_map hx17_12 _, hg20, getI_le hx17_18, getI_map hx17_18 _, hg21, Det.args (c7 (⟨[x4_0, x4_1, (⟨[99], ([] : (List Amount)), ([] : (List Pair)), ([] : (List Taint)), false⟩ : Node), x4_3], [x4_5, x4_6], ([] : (List Budget))⟩ : State) [98] (⟨0, 4607182418800017408⟩ : Marks) _ hx17_25) ⟨(Lw.aggL ⟨(Lw.sliceL ⟨⟨LwL_rfl _, rfl⟩, ⟨LwL_rfl _, rfl⟩, ⟨⟨(Lw.refl _), (Lw.nils _), (Lw.nils _), (Lw.nils _), (Lw.refl _), trivial⟩, rfl⟩, ⟨LwL_rfl _, rfl⟩, trivial⟩), (Lw.refl _), (Lw.nils _), trivial⟩), (Lw.refl _), (Lw.refl _), trivial⟩, hg22, Det.args (c7 (⟨[x4_0, x4_1, (⟨[99], ([] : (List Amount)), ([] : (List Pair)), ([] : (List Taint)), false⟩ : Node), x4_3], [x4_5, x4_6], ([] : (List Budget))⟩ : State) [97] (⟨x15_0, x15_0⟩ : Marks) _ hx17_33) ⟨(Lw.aggL ⟨(Lw.sliceL ⟨⟨LwL_rfl _, rfl⟩, ⟨LwL_rfl _, rfl⟩, ⟨⟨(Lw.refl _), (Lw.nils _), (Lw.nils _), (Lw.nils _), (Lw.refl _), trivial⟩, rfl⟩, ⟨LwL_rfl _, rfl⟩, trivial⟩), (Lw.refl _), (Lw.nils _), trivial⟩), (Lw.refl _), (Lw.refl _), trivial⟩, hg23, Det.args (c7 (⟨[x4_0, x4_1, (⟨[99], ([] : (List Amount)), ([] : (List Pair)), ([] : (List Taint)), false⟩ : Node), x4_3], [x4_5, x4_6], ([] : (List Budget))⟩ : State) [97] (⟨x15_0, 4602678819172646912⟩ : Marks) _ hx17_40) ⟨(Lw.aggL ⟨(Lw.sliceL ⟨⟨LwL_rfl _, rfl⟩, ⟨LwL_rfl _, rfl⟩, ⟨⟨(Lw.refl _), (Lw.nils _), (Lw.nils _), (Lw.nils _), (Lw.refl _), trivial⟩, rfl⟩, ⟨LwL_rfl _, rfl⟩, trivial⟩), (Lw.refl _), (Lw.nils _), trivial⟩), (Lw.refl _), (Lw.refl _), trivial⟩, hg24, trivial⟩ ?_
                    exact hJ27 false _ h (Le.mk rfl ⟨rfl, trivial⟩ ⟨⟨rfl, ⟨rfl, rfl, trivial⟩⟩, ⟨rfl, ⟨.inl ⟨rfl, rfl⟩, .inl ⟨rfl, rfl⟩, rfl, trivial⟩⟩, trivial⟩ ⟨rfl, rfl, trivial⟩ trivial)
                · rw [if_neg hg23] at h
                  have hg23 := Bool.eq_false_iff.2 hg23
                  refine awp_reg kpNone [(1, AV.int x17_1), (6, AV.int x17_6), (12, AV.int x17_12), (18, AV.int x17_18), (25, AV.int x17_25), (33, AV.int x17_33)] [(4, true), (10, true), (16, true), (22, true), (28, true), (36, false)] [0] (cs := [(0 ≤ (0 : Int)), ((List.map AV.int x8_2)[Int.toNat (0 : Int)]? = some (AV.int x17_1)), (decide (x17_1 = (2 : Int)) = true), (0 ≤ (1 : Int)), ((List.map AV.int x8_2)[Int.toNat (1 : Int)]? = some (AV.int x17_6)), (decide (x17_6 = (0 : Int)) = true), (0 ≤ (2 : Int)), ((List.map AV.int x8_2)[Int.toNat (2 : Int)]? = some (AV.int x17_12)), (decide (x17_12 = (1 : Int)) = true), (0 ≤ (3 : Int)), ((List.map AV.int x8_2)[Int.toNat (3 : Int)]? = some (AV.int x17_18)), (decide (x17_18 = (1 : Int)) = true), (Det Tryd.prog 7 [.agg [.slice .non 5 [Node.av x4_0, Node.av x4_1, .agg [AV.str [99], .nils, .nils, .nils, AV.bool false], Node.av x4_3], AV.lst 11 Pod.av [x4_5, x4_6], .nils], AV.str [98], .agg [AV.fl 0, AV.fl 4607182418800017408]] (.ret (AV.int x17_25))), (decide (x17_25 = (1 : Int)) = true), (Det Tryd.prog 7 [.agg [.slice .non 5 [Node.av x4_0, Node.av x4_1, .agg [AV.str [99], .nils, .nils, .nils, AV.bool false], Node.av x4_3], AV.lst 11 Pod.av [x4_5, x4_6], .nils], AV.str [97], .agg [AV.fl x15_0, AV.fl x15_0]] (.ret (AV.int x17_33))), (decide (x17_33 = (0 : Int)) = false)]) (st' := ⟨82, [(0, AV.bool false)], [(2, (false, [AV.fl 4596373779694328218, AV.fl 4605380978949069210])), (1, (false, [.slice (.own 9) 5 [Node.av x4_0, Node.av x4_1, .agg [AV.str [99], .nils, .nils, .nils, AV.bool false], Node.av x4_3], .slice (.own 12) 11 (List.map Pod.av [x4_5, x4_6]), .nils]))], [], [(12, (40, 11, 2)), (9, (34, 5, 4))]⟩) (by kernel_rfl) ⟨getI_le hx17_1, getI_map hx17_1 _, hg18, getI_le hx17_6, getI_map hx17_6 _, hg19, getI_le hx17_12, getI_map hx17_12 _, hg20, getI_le hx17_18, getI_map hx17_18 _, hg21, Det.args (c7 (⟨[x4_0, x4_1, (⟨[99], ([] : (List Amount)), ([] : (List Pair)), ([] : (List Taint)), false⟩ : Node), x4_3], [x4_5, x4_6], ([] : (List Budget))⟩ : State) [98] (⟨0, 4607182418800017408⟩ : Marks) _ hx17_25) ⟨(Lw.aggL ⟨(Lw.sliceL ⟨⟨LwL_rfl _, rfl⟩, ⟨LwL_rfl _, rfl⟩, ⟨⟨(Lw.refl _), (Lw.nils _), (Lw.nils _), (Lw.nils _), (Lw.refl _), trivial⟩, rfl⟩, ⟨LwL_rfl _, rfl⟩, trivial⟩), (Lw.refl _), (Lw.nils _), trivial⟩), (Lw.refl _), (Lw.refl _), trivial⟩, hg22, Det.args (c7 (⟨[x4_0, x4_1, (⟨[99], ([] : (List Amount)), ([] : (List Pair)), ([] : (List Taint)), false⟩ : Node), x4_3], [x4_5, x4_6], ([] : (List Budget))⟩ : State) [97] (⟨x15_0, x15_0⟩ : Marks) _ hx17_33) ⟨(Lw.aggL ⟨(Lw.sliceL ⟨⟨LwL_rfl _, rfl⟩, ⟨LwL_rfl _, rfl⟩, ⟨⟨(Lw.refl _), (Lw.nils _), (Lw.nils _), (Lw.nils _), (Lw.refl _), trivial⟩, rfl⟩, ⟨LwL_rfl _, rfl⟩, trivial⟩), (Lw.refl _), (Lw.nils _), trivial⟩), (Lw.refl _), (Lw.refl _), trivial⟩, hg23, trivial⟩ ?_
                  exact hJ27 false _ h (Le.mk rfl ⟨rfl, trivial⟩ ⟨⟨rfl, ⟨rfl, rfl, trivial⟩⟩, ⟨rfl, ⟨.inl ⟨rfl, rfl⟩, .inl ⟨rfl, rfl⟩, rfl, trivial⟩⟩, trivial⟩ ⟨rfl, rfl, trivial⟩ trivial)
              · rw [if_neg hg22] at h
                have hg22 := Bool.eq_false_iff.2 hg22
                refine awp_reg kpNone [(1, AV.int x17_1), (6, AV.int x17_6), (12, AV.int x17_12), (18, AV.int x17_18), (25, AV.int x17_25)] [(4, true), (10, true), (16, true), (22, true), (28, false)] [0] (cs := [(0 ≤ (0 : Int)), ((List.map AV.int x8_2)[Int.toNat (0 : Int)]? = some (AV.int x17_1)), (decide (x17_1 = (2 : Int)) = true), (0 ≤ (1 : Int)), ((List.map AV.int x8_2)[Int.toNat (1 : Int)]? = some (AV.int x17_6)), (decide (x17_6 = (0 : Int)) = true), (0 ≤ (2 : Int)), ((List.map AV.int x8_2)[Int.toNat (2 : Int)]? = some (AV.int x17_12)), (decide (x17_12 = (1 : Int)) = true), (0 ≤ (3 : Int)), ((List.map AV.int x8_2)[Int.toNat (3 : Int)]? = some (AV.int x17_18)), (decide (x17_18 = (1 : Int)) = true), (Det Tryd.prog 7 [.agg [.slice .non 5 [Node.av x4_0, Node.av x4_1, .agg [AV.str [99], .nils, .nils, .nils, AV.bool false], Node.av x4_3], AV.lst 11 Pod.av [x4_5, x4_6], .nils], AV.str [98], .agg [AV.fl 0, AV.fl 4607182418800017408]] (.ret (AV.int x17_25))), (decide (x17_25 = (1 : Int)) = false)]) (st' := ⟨82, [(0, AV.bool false)], [(2, (false, [AV.fl 4596373779694328218, AV.fl 4605380978949069210])), (1, (false, [.slice (.own 9) 5 [Node.av x4_0, Node.av x4_1, .agg [AV.str [99], .nils, .nils, .nils, AV.bool false], Node.av x4_3], .slice (.own 12) 11 (List.map Pod.av [x4_5, x4_6]), .nils]))], [], [(12, (40, 11, 2)), (9, (34, 5, 4))]⟩) (by kernel_rfl) ⟨getI_le hx17_1, getI_map hx17_1 _, hg18, getI_le hx17_6, getI_map hx17_6 _, hg19, getI_le hx17_12, getI_map hx17_12 _, hg20, getI_le hx17_18, getI_map hx17_18 _, hg21, Det.args (c7 (⟨[x4_0, x4_1, (⟨[99], ([] : (List Amount)), ([] : (List Pair)), ([] : (List Taint)), false⟩ : Node), x4_3], [x4_5, x4_6], ([] : (List Budget))⟩ : State) [98] (⟨0, 4607182418800017408⟩ : Marks) _ hx17_25) ⟨(Lw.aggL ⟨(Lw.sliceL ⟨⟨LwL_rfl _, rfl⟩, ⟨LwL_rfl _, rfl⟩, ⟨⟨(Lw.refl _), (Lw.nils _), (Lw.nils _), (Lw.nils _), (Lw.refl _), trivial⟩, rfl⟩, ⟨LwL_rfl _, rfl⟩, trivial⟩), (Lw.refl _), (Lw.nils _), trivial⟩), (Lw.refl _), (Lw.refl _), trivial⟩, hg22, trivial⟩ ?_
                exact hJ27 false _ h (Le.mk rfl ⟨rfl, trivial⟩ ⟨⟨rfl, ⟨rfl, rfl, trivial⟩⟩, ⟨rfl, ⟨.inl ⟨rfl, rfl⟩, .inl ⟨rfl, rfl⟩, rfl, trivial⟩⟩, trivial⟩ ⟨rfl, rfl, trivial⟩ trivial)
            · rw [if_neg hg21] at h
              have hg21 := Bool.eq_false_iff.2 hg21
              refine awp_reg kpNone [(1, AV.int x17_1), (6, AV.int x17_6), (12, AV.int x17_12), (18, AV.int x17_18)] [(4, true), (10, true), (16, true), (22, false)] [0] (cs := [(0 ≤ (0 : Int)), ((List.map AV.int x8_2)[Int.toNat (0 : Int)]? = some (AV.int x17_1)), (decide (x17_1 = (2 : Int)) = true), (0 ≤ (1 : Int)), ((List.map AV.int x8_2)[Int.toNat (1 : Int)]? = some (AV.int x17_6)), (decide (x17_6 = (0 : Int)) = true), (0 ≤ (2 : Int)), ((List.map AV.int x8_2)[Int.toNat (2 : Int)]? = some (AV.int x17_12)), (decide (x17_12 = (1 : Int)) = true), (0 ≤ (3 : Int)), ((List.map AV.int x8_2)[Int.toNat (3 : Int)]? = some (AV.int x17_18)), (decide (x17_18 = (1 : Int)) = false)]) (st' := ⟨82, [(0, AV.bool false)], [(2, (false, [AV.fl 4596373779694328218, AV.fl 4605380978949069210])), (1, (false, [.slice (.own 9) 5 [Node.av x4_0, Node.av x4_1, .agg [AV.str [99], .nils, .nils, .nils, AV.bool false], Node.av x4_3], .slice (.own 12) 11 (List.map Pod.av [x4_5, x4_6]), .nils]))], [], [(12, (40, 11, 2)), (9, (34, 5, 4))]⟩) (by kernel_rfl) ⟨getI_le hx17_1, getI_map hx17_1 _, hg18, getI_le hx17_6, getI_map hx17_6 _, hg19, getI_le hx17_12, getI_map hx17_12 _, hg20, getI_le hx17_18, getI_map hx17_18 _, hg21, trivial⟩ ?_
              exact hJ27 false _ h (Le.mk rfl ⟨rfl, trivial⟩ ⟨⟨rfl, ⟨rfl, rfl, trivial⟩⟩, ⟨rfl, ⟨.inl ⟨rfl, rfl⟩, .inl ⟨rfl, rfl⟩, rfl, trivial⟩⟩, trivial⟩ ⟨rfl, rfl, trivial⟩ trivial)
          · rw [if_neg hg20] at h
            have hg20 := Bool.eq_false_iff.2 hg20
            refine awp_reg kpNone [(1, AV.int x17_1), (6, AV.int x17_6), (12, AV.int x17_12)] [(4, true), (10, true), (16, false)] [0] (cs := [(0 ≤ (0 : Int)), ((List.map AV.int x8_2)[Int.toNat (0 : Int)]? = some (AV.int x17_1)), (decide (x17_1 = (2 : Int)) = true), (0 ≤ (1 : Int)), ((List.map AV.int x8_2)[Int.toNat (1 : Int)]? = some (AV.int x17_6)), (decide (x17_6 = (0 : Int)) = true), (0 ≤ (2 : Int)), ((List.map AV.int x8_2)[Int.toNat (2 : Int)]? = some (AV.int x17_12)), (decide (x17_12 = (1 : Int)) = false)]) (st' := ⟨82, [(0, AV.bool false)], [(2, (false, [AV.fl 4596373779694328218, AV.fl 4605380978949069210])), (1, (false, [.slice (.own 9) 5 [Node.av x4_0, Node.av x4_1, .agg [AV.str [99], .nils, .nils, .nils, AV.bool false], Node.av x4_3], .slice (.own 12) 11 (List.map Pod.av [x4_5, x4_6]), .nils]))], [], [(12, (40, 11, 2)), (9, (34, 5, 4))]⟩) (by kernel_rfl) ⟨getI_le hx17_1, getI_map hx17_1 _, hg18, getI_le hx17_6, getI_map hx17_6 _, hg19, getI_le hx17_12, getI_map hx17_12 _, hg20, trivial⟩ ?_
            exact hJ27 false _ h (Le.mk rfl ⟨rfl, trivial⟩ ⟨⟨rfl, ⟨rfl, rfl, trivial⟩⟩, ⟨rfl, ⟨.inl ⟨rfl, rfl⟩, .inl ⟨rfl, rfl⟩, rfl, trivial⟩⟩, trivial⟩ ⟨rfl, rfl, trivial⟩ trivial)
        · rw [if_neg hg19] at h
          have hg19 := Bool.eq_false_iff.2 hg19
          refine awp_reg kpNone [(1, AV.int x17_1), (6, AV.int x17_6)] [(4, true), (10, false)] [0] (cs := [(0 ≤ (0 : Int)), ((List.map AV.int x8_2)[Int.toNat (0 : Int)]? = some (AV.int x17_1)), (decide (x17_1 = (2 : Int)) = true), (0 ≤ (1 : Int)), ((List.map AV.int x8_2)[Int.toNat (1 : Int)]? = some (AV.int x17_6)), (decide (x17_6 = (0 : Int)) = false)]) (st' := ⟨82, [(0, AV.bool false)], [(2, (false, [AV.fl 4596373779694328218, AV.fl 4605380978949069210])), (1, (false, [.slice (.own 9) 5 [Node.av x4_0, Node.av x4_1, .agg [AV.str [99], .nils, .nils, .nils, AV.bool false], Node.av x4_3], .slice (.own 12) 11 (List.map Pod.av [x4_5, x4_6]), .nils]))], [], [(12, (40, 11, 2)), (9, (34, 5, 4))]⟩) (by kernel_rfl) ⟨getI_le hx17_1, getI_map hx17_1 _, hg18, getI_le hx17_6, getI_map hx17_6 _, hg19, trivial⟩ ?_
          exact hJ27 false _ h (Le.mk rfl ⟨rfl, trivial⟩ ⟨⟨rfl, ⟨rfl, rfl, trivial⟩⟩, ⟨rfl, ⟨.inl ⟨rfl, rfl⟩, .inl ⟨rfl, rfl⟩, rfl, trivial⟩⟩, trivial⟩ ⟨rfl, rfl, trivial⟩ trivial)
      · rw [if_neg hg18] at h
        have hg18 := Bool.eq_false_iff.2 hg18
        refine awp_reg kpNone [(1, AV.int x17_1)] [(4, false)] [0] (cs := [(0 ≤ (0 : Int)), ((List.map AV.int x8_2)[Int.toNat (0 : Int)]? = some (AV.int x17_1)), (decide (x17_1 = (2 : Int)) = false)]) (st' := ⟨82, [(0, AV.bool false)], [(2, (false, [AV.fl 4596373779694328218, AV.fl 4605380978949069210])), (1, (false, [.slice (.own 9) 5 [Node.av x4_0, Node.av x4_1, .agg [AV.str [99], .nils, .nils, .nils, AV.bool false], Node.av x4_3], .slice (.own 12) 11 (List.map Pod.av [x4_5, x4_6]), .nils]))], [], [(12, (40, 11, 2)), (9, (34, 5, 4))]⟩) (by kernel_rfl) ⟨getI_le hx17_1, getI_map hx17_1 _, hg18, trivial⟩ ?_
        exact hJ27 false _ h (Le.mk rfl ⟨rfl, trivial⟩ ⟨⟨rfl, ⟨rfl, rfl, trivial⟩⟩, ⟨rfl, ⟨.inl ⟨rfl, rfl⟩, .inl ⟨rfl, rfl⟩, rfl, trivial⟩⟩, trivial⟩ ⟨rfl, rfl, trivial⟩ trivial)


-- ballastlaw18.LevelEdges
def F3.j34  : (Bool) → Option Bool := fun p34 =>
  some p34
def F3.j17 (a1 : Int) (a2 : Int) (x13_2 : Node) (a0 : Int) : (List Pod) → Option Bool := fun p17 =>
  if (22 : Int) ≠ 0 then (if (22 : Int) ≠ 0 then ((F8 (IntKind.wrap .i64 (Int.tmod a1 (22 : Int))) 20).bind fun x21_2 => (F8 (IntKind.wrap .i64 (Int.tmod a2 (22 : Int))) 20).bind fun x21_4 => (F7 (⟨[x13_2], p17, ([] : (List Budget))⟩ : State) [97] (⟨x21_2, x21_4⟩ : Marks)).bind fun x21_6 => if decide ((IntKind.wrap .i64 (Int.tmod a2 (22 : Int))) < (IntKind.wrap .i64 (Int.tmod a0 (21 : Int)))) = true then (some (decide (x21_6 = (2 : Int)))) else (if decide ((IntKind.wrap .i64 (Int.tmod a0 (21 : Int))) < (IntKind.wrap .i64 (Int.tmod a1 (22 : Int)))) = true then (some (decide (x21_6 = (0 : Int)))) else (if decide (x21_6 = (1 : Int)) = true then ((F10 (⟨[x13_2], p17, ([] : (List Budget))⟩ : State) [97]).bind fun x32_4 => (F8 (IntKind.wrap .i64 (Int.tmod a0 (21 : Int))) 20).bind fun x32_6 => (F9 x32_4 x32_6).bind fun x32_7 => F3.j34 (decide (x32_7 = (0 : Int)))) else (F3.j34 false)))) else none) else none
def F3 (a0 : Int) (a1 : Int) (a2 : Int) : Option Bool :=
  (F4).bind fun x5_0 => if (!x5_0) = true then (some false) else (if (21 : Int) ≠ 0 then ((F5 [97] 20).bind fun x13_2 => if fits 96 (List.length [x13_2]) then (if decide ((0 : Int) < (IntKind.wrap .i64 (Int.tmod a0 (21 : Int)))) = true then ((F6 [112] (IntKind.wrap .i64 (Int.tmod a0 (21 : Int))) [97]).bind fun x35_3 => if fits 184 (List.length [x35_3]) then (F3.j17 a1 a2 x13_2 a0 [x35_3]) else none) else (F3.j17 a1 a2 x13_2 a0 ([] : List Pod))) else none) else none)
/-- ballast/ballastlaw18.LevelEdges -/
theorem c3 (a0 : Int) (a1 : Int) (a2 : Int) (r : Bool) (h : F3 a0 a1 a2 = some r) :
    Det Tryd.prog 3 [AV.ik .u8 a0, AV.ik .u8 a1, AV.ik .u8 a2] (.ret (AV.bool r)) := by
  refine Det.of_le ?_
  refine @calls_of_body Tryd.prog 3 Tryd.f3 _ Tryd.func3 rfl (by kernel_rfl) [.tmp 6] (by rw [Tryd.results3]) 68 Tryd.ntmps3 _ _ _ (by simp only [List.length_cons, List.length_nil]; decide) ?_
  unfold F3 at h
  refine awp_seq fun N1 hN1 => ?_
  refine awp_reg kpNone [] [] [0, 1, 2] (cs := []) (st' := ⟨68, [(0, AV.ik .u8 a0), (1, AV.ik .u8 a1), (2, AV.ik .u8 a2)], [], [], []⟩) (by kernel_rfl) trivial ?_
  refine hN1 _ ?_
  refine awp_seq fun N3 hN3 => ?_
  refine awp_seq fun N4 hN4 => ?_
  obtain ⟨x5_0, hx5_0, h⟩ := Option.bind_eq_some_iff.1 h
  refine awp_reg kpNone [(0, AV.bool x5_0)] [] [0, 1, 2, 13] (cs := [(Det Tryd.prog 4 [] (.ret (AV.bool x5_0)))]) (st' := ⟨68, [(0, AV.ik .u8 a0), (1, AV.ik .u8 a1), (2, AV.ik .u8 a2), (13, AV.bool (!x5_0))], [], [], []⟩) (by kernel_rfl) ⟨c4  _ hx5_0, trivial⟩ ?_
  refine hN4 _ ?_
  refine awp_cond (t := (!x5_0)) rfl (fun hb => ?_) (fun hb => ?_)
  · rw [if_pos hb] at h
    refine awp_seq fun N6 hN6 => ?_
    refine awp_reg kpNone [] [] [6] (cs := []) (st' := ⟨68, [(6, AV.bool false)], [], [], []⟩) (by kernel_rfl) trivial ?_
    refine hN6 _ ?_
    have h := Option.some.inj h
    subst h
    exact awp_ret ⟨[AV.bool false], by kernel_rfl, Lw.refl _⟩
  · rw [if_false hb] at h
    refine awp_skip ?_
    refine hN3 _ ?_
    refine awp_seq fun N8 hN8 => ?_
    obtain ⟨hp9_1, h⟩ := guardP h
    refine awp_reg kpNone [] [] [1, 2, 7] (cs := [((21 : Int) ≠ 0)]) (st' := ⟨68, [(1, AV.ik .u8 a1), (2, AV.ik .u8 a2), (7, AV.int (IntKind.wrap .i64 (Int.tmod a0 (21 : Int))))], [], [], []⟩) (by kernel_rfl) ⟨hp9_1, trivial⟩ ?_
    refine hN8 _ ?_
    refine awp_seq fun N10 hN10 => ?_
    refine awp_reg kpNone [] [] [1, 2, 7, 8] (cs := []) (st' := ⟨68, [(1, AV.ik .u8 a1), (2, AV.ik .u8 a2), (7, AV.int (IntKind.wrap .i64 (Int.tmod a0 (21 : Int)))), (8, .varp 8 0)], [(8, (false, [.nils, .nils, .nils]))], [], []⟩) (by kernel_rfl) trivial ?_
    refine hN10 _ ?_
    refine awp_seq fun N12 hN12 => ?_
    obtain ⟨x13_2, hx13_2, h⟩ := Option.bind_eq_some_iff.1 h
    obtain ⟨hp13_4, h⟩ := guardP h
    refine awp_regD mixedTryd kpNone [(2, Node.av x13_2)] [] [1, 2, 7, 8] (by kernel_rfl) (cs := [(Det Tryd.prog 5 [AV.str [97], AV.int 20] (.ret (Node.av x13_2))), (List.length (List.map Node.av [x13_2]) * 96 ≤ 140737488355328), (List.length (List.map Node.av [x13_2]) ≤ 140737488355328)]) (st' := ⟨68, [(1, AV.ik .u8 a1), (2, AV.ik .u8 a2), (7, AV.int (IntKind.wrap .i64 (Int.tmod a0 (21 : Int)))), (8, .varp 8 0)], [(8, (false, [.slice (.own 22) 5 (List.map Node.av [x13_2]), .nils, .nils]))], [], [(22, (34, 5, List.length (List.map Node.av [x13_2]))), (21, (34, 5, 1))]⟩) (by kernel_rfl) ⟨c5 [97] 20 _ hx13_2, len_mul _ _ _ _ hp13_4.1, len_ge _ _ hp13_4.2, trivial⟩ ?_
    refine hN12 _ ?_
    refine awp_seq fun N14 hN14 => ?_
    refine awp_seq fun N15 hN15 => ?_
    refine awp_reg kpNone [] [] [1, 2, 7, 8, 25] (cs := []) (st' := ⟨68, [(1, AV.ik .u8 a1), (2, AV.ik .u8 a2), (7, AV.int (IntKind.wrap .i64 (Int.tmod a0 (21 : Int)))), (8, .varp 8 0), (25, AV.bool (decide ((0 : Int) < (IntKind.wrap .i64 (Int.tmod a0 (21 : Int))))))], [(8, (false, [.slice (.own 22) 5 (List.map Node.av [x13_2]), .nils, .nils]))], [], [(22, (34, 5, List.length (List.map Node.av [x13_2]))), (21, (34, 5, 1))]⟩) (by kernel_rfl) trivial ?_
    refine hN15 _ ?_
    refine awp_to (σ := List Pod) (fun p17 => ⟨68, [(1, AV.ik .u8 a1), (2, AV.ik .u8 a2), (7, AV.int (IntKind.wrap .i64 (Int.tmod a0 (21 : Int)))), (8, .varp 8 0)], [(8, (false, [.slice (.own 22) 5 (List.map Node.av [x13_2]), .slice (.own 31) 11 (List.map Pod.av p17), .nils]))], [], [(22, (34, 5, List.length (List.map Node.av [x13_2]))), (31, (40, 11, List.length (List.map Pod.av p17)))]⟩) (fun p17 => F3.j17 a1 a2 x13_2 a0 p17 = some r) (fun p17 h => ?_) (fun N17 hJ17 => ?_)
    · unfold F3.j17 at h
      refine hN14 _ ?_
      refine awp_seq fun N18 hN18 => ?_
      obtain ⟨hp19_1, h⟩ := guardP h
      obtain ⟨hp19_4, h⟩ := guardP h
      refine awp_reg kpNone [] [] [7, 8, 9, 10] (cs := [((22 : Int) ≠ 0), ((22 : Int) ≠ 0)]) (st' := ⟨68, [(7, AV.int (IntKind.wrap .i64 (Int.tmod a0 (21 : Int)))), (8, .varp 8 0), (9, AV.int (IntKind.wrap .i64 (Int.tmod a1 (22 : Int)))), (10, AV.int (IntKind.wrap .i64 (Int.tmod a2 (22 : Int))))], [(8, (false, [.slice (.own 22) 5 (List.map Node.av [x13_2]), .slice (.own 31) 11 (List.map Pod.av p17), .nils]))], [], [(22, (34, 5, List.length (List.map Node.av [x13_2]))), (31, (40, 11, List.length (List.map Pod.av p17)))]⟩) (by kernel_rfl) ⟨hp19_1, hp19_4, trivial⟩ ?_
      refine hN18 _ ?_
      refine awp_seq fun N20 hN20 => ?_
      obtain ⟨x21_2, hx21_2, h⟩ := Option.bind_eq_some_iff.1 h
      obtain ⟨x21_4, hx21_4, h⟩ := Option.bind_eq_some_iff.1 h
      obtain ⟨x21_6, hx21_6, h⟩ := Option.bind_eq_some_iff.1 h
      refine awp_regD mixedTryd kpNone [(2, AV.fl x21_2), (4, AV.fl x21_4), (6, AV.int x21_6)] [] [7, 8, 9, 10, 11] (by kernel_rfl) (cs := [(Det Tryd.prog 8 [AV.int (IntKind.wrap .i64 (Int.tmod a1 (22 : Int))), AV.int 20] (.ret (AV.fl x21_2))), (Det Tryd.prog 8 [AV.int (IntKind.wrap .i64 (Int.tmod a2 (22 : Int))), AV.int 20] (.ret (AV.fl x21_4))), (Det Tryd.prog 7 [.agg [AV.lst 5 Node.av [x13_2], AV.lst 11 Pod.av p17, .nils], AV.str [97], .agg [AV.fl x21_2, AV.fl x21_4]] (.ret (AV.int x21_6)))]) (st' := ⟨68, [(7, AV.int (IntKind.wrap .i64 (Int.tmod a0 (21 : Int)))), (8, .varp 8 0), (9, AV.int (IntKind.wrap .i64 (Int.tmod a1 (22 : Int)))), (10, AV.int (IntKind.wrap .i64 (Int.tmod a2 (22 : Int)))), (11, AV.int x21_6)], [(8, (false, [.slice (.own 22) 5 (List.map Node.av [x13_2]), .slice (.own 31) 11 (List.map Pod.av p17), .nils]))], [], [(22, (34, 5, List.length (List.map Node.av [x13_2]))), (31, (40, 11, List.length (List.map Pod.av p17)))]⟩) (by kernel_rfl) ⟨c8 (IntKind.wrap .i64 (Int.tmod a1 (22 : Int))) 20 _ hx21_2, c8 (IntKind.wrap .i64 (Int.tmod a2 (22 : Int))) 20 _ hx21_4, Det.args (c7 (⟨[x13_2], p17, ([] : (List Budget))⟩ : State) [97] (⟨x21_2, x21_4⟩ : Marks) _ hx21_6) ⟨(Lw.aggL ⟨(Lw.refl _), (Lw.refl _), (Lw.nils _), trivial⟩), (Lw.refl _), (Lw.refl _), trivial⟩, trivial⟩ ?_
      refine hN20 _ ?_
      refine awp_seq fun N22 hN22 => ?_
      refine awp_block ?_
      refine awp_seq fun N23 hN23 => ?_
      refine awp_reg kpNone [] [] [7, 8, 9, 11, 46] (cs := []) (st' := ⟨68, [(7, AV.int (IntKind.wrap .i64 (Int.tmod a0 (21 : Int)))), (8, .varp 8 0), (9, AV.int (IntKind.wrap .i64 (Int.tmod a1 (22 : Int)))), (11, AV.int x21_6), (46, AV.bool (decide ((IntKind.wrap .i64 (Int.tmod a2 (22 : Int))) < (IntKind.wrap .i64 (Int.tmod a0 (21 : Int))))))], [(8, (false, [.slice (.own 22) 5 (List.map Node.av [x13_2]), .slice (.own 31) 11 (List.map Pod.av p17), .nils]))], [], [(22, (34, 5, List.length (List.map Node.av [x13_2]))), (31, (40, 11, List.length (List.map Pod.av p17)))]⟩) (by kernel_rfl) trivial ?_
      refine hN23 _ ?_
      refine awp_cond (t := decide ((IntKind.wrap .i64 (Int.tmod a2 (22 : Int))) < (IntKind.wrap .i64 (Int.tmod a0 (21 : Int))))) rfl (fun hb => ?_) (fun hb => ?_)
      · rw [if_pos hb] at h
        refine awp_seq fun N25 hN25 => ?_
        refine awp_reg kpNone [] [] [6] (cs := []) (st' := ⟨68, [(6, AV.bool (decide (x21_6 = (2 : Int))))], [(8, (false, [.slice (.own 22) 5 (List.map Node.av [x13_2]), .slice (.own 31) 11 (List.map Pod.av p17), .nils]))], [], [(22, (34, 5, List.length (List.map Node.av [x13_2]))), (31, (40, 11, List.length (List.map Pod.av p17)))]⟩) (by kernel_rfl) trivial ?_
        refine hN25 _ ?_
        have h := Option.some.inj h
        subst h
        exact awp_ret ⟨[AV.bool (decide (x21_6 = (2 : Int)))], by kernel_rfl, Lw.refl _⟩
      · rw [if_false hb] at h
        refine awp_seq fun N27 hN27 => ?_
        refine awp_reg kpNone [] [] [7, 8, 11, 52] (cs := []) (st' := ⟨68, [(7, AV.int (IntKind.wrap .i64 (Int.tmod a0 (21 : Int)))), (8, .varp 8 0), (11, AV.int x21_6), (52, AV.bool (decide ((IntKind.wrap .i64 (Int.tmod a0 (21 : Int))) < (IntKind.wrap .i64 (Int.tmod a1 (22 : Int))))))], [(8, (false, [.slice (.own 22) 5 (List.map Node.av [x13_2]), .slice (.own 31) 11 (List.map Pod.av p17), .nils]))], [], [(22, (34, 5, List.length (List.map Node.av [x13_2]))), (31, (40, 11, List.length (List.map Pod.av p17)))]⟩) (by kernel_rfl) trivial ?_
        refine hN27 _ ?_
        refine awp_cond (t := decide ((IntKind.wrap .i64 (Int.tmod a0 (21 : Int))) < (IntKind.wrap .i64 (Int.tmod a1 (22 : Int))))) rfl (fun hb => ?_) (fun hb => ?_)
        · rw [if_pos hb] at h
          refine awp_seq fun N29 hN29 => ?_
          refine awp_reg kpNone [] [] [6] (cs := []) (st' := ⟨68, [(6, AV.bool (decide (x21_6 = (0 : Int))))], [(8, (false, [.slice (.own 22) 5 (List.map Node.av [x13_2]), .slice (.own 31) 11 (List.map Pod.av p17), .nils]))], [], [(22, (34, 5, List.length (List.map Node.av [x13_2]))), (31, (40, 11, List.length (List.map Pod.av p17)))]⟩) (by kernel_rfl) trivial ?_
          refine hN29 _ ?_
          have h := Option.some.inj h
          subst h
          exact awp_ret ⟨[AV.bool (decide (x21_6 = (0 : Int)))], by kernel_rfl, Lw.refl _⟩
        · rw [if_false hb] at h
          refine awp_skip ?_
          refine hN22 _ ?_
          refine awp_seq fun N31 hN31 => ?_
          refine awp_to (σ := Bool) (fun p34 => ⟨68, [(6, AV.bool p34)], [(8, (false, [.slice (.own 22) 5 (List.map Node.av [x13_2]), .slice (.own 31) 11 (List.map Pod.av p17), .nils]))], [], [(22, (34, 5, List.length (List.map Node.av [x13_2]))), (31, (40, 11, List.length (List.map Pod.av p17)))]⟩) (fun p34 => F3.j34 p34 = some r) (fun p34 h => ?_) (fun N34 hJ34 => ?_)
          · unfold F3.j34 at h
            refine hN31 _ ?_
            have h := Option.some.inj h
            subst h
            exact awp_ret ⟨[AV.bool p34], by kernel_rfl, Lw.refl _⟩
          · by_cases hg33 : decide (x21_6 = (1 : Int)) = true
            · rw [if_pos hg33] at h
              obtain ⟨x32_4, hx32_4, h⟩ := Option.bind_eq_some_iff.1 h
              obtain ⟨x32_6, hx32_6, h⟩ := Option.bind_eq_some_iff.1 h
              obtain ⟨x32_7, hx32_7, h⟩ := Option.bind_eq_some_iff.1 h
              refine awp_reg kpNone [(4, AV.fl x32_4), (6, AV.fl x32_6), (7, AV.int x32_7)] [(2, true)] [6] (cs := [(decide (x21_6 = (1 : Int)) = true), (Det Tryd.prog 10 [.agg [AV.lst 5 Node.av [x13_2], AV.lst 11 Pod.av p17, .nils], AV.str [97]] (.ret (AV.fl x32_4))), (Det Tryd.prog 8 [AV.int (IntKind.wrap .i64 (Int.tmod a0 (21 : Int))), AV.int 20] (.ret (AV.fl x32_6))), (Det Tryd.prog 9 [AV.fl x32_4, AV.fl x32_6] (.ret (AV.int x32_7)))]) (st' := ⟨68, [(6, AV.bool (decide (x32_7 = (0 : Int))))], [(8, (false, [.slice (.own 22) 5 (List.map Node.av [x13_2]), .slice (.own 31) 11 (List.map Pod.av p17), .nils]))], [], [(22, (34, 5, List.length (List.map Node.av [x13_2]))), (31, (40, 11, List.length (List.map Pod.av p17)))]⟩) (by kernel_rfl) ⟨hg33, Det.args (c10 (⟨[x13_2], p17, ([] : (List Budget))⟩ : State) [97] _ hx32_4) ⟨(Lw.aggL ⟨(Lw.refl _), (Lw.refl _), (Lw.nils _), trivial⟩), (Lw.refl _), trivial⟩, c8 (IntKind.wrap .i64 (Int.tmod a0 (21 : Int))) 20 _ hx32_6, c9 x32_4 x32_6 _ hx32_7, trivial⟩ ?_
              exact hJ34 (decide (x32_7 = (0 : Int))) _ h (Le.rfl')
            · rw [if_neg hg33] at h
              have hg33 := Bool.eq_false_iff.2 hg33
              refine awp_reg kpNone [] [(2, false)] [6] (cs := [(decide (x21_6 = (1 : Int)) = false)]) (st' := ⟨68, [(6, AV.bool false)], [(8, (false, [.slice (.own 22) 5 (List.map Node.av [x13_2]), .slice (.own 31) 11 (List.map Pod.av p17), .nils]))], [], [(22, (34, 5, List.length (List.map Node.av [x13_2]))), (31, (40, 11, List.length (List.map Pod.av p17)))]⟩) (by kernel_rfl) ⟨hg33, trivial⟩ ?_
              exact hJ34 false _ h (Le.rfl')
    · refine awp_cond (t := decide ((0 : Int) < (IntKind.wrap .i64 (Int.tmod a0 (21 : Int))))) rfl (fun hb => ?_) (fun hb => ?_)
      · rw [if_pos hb] at h
        obtain ⟨x35_3, hx35_3, h⟩ := Option.bind_eq_some_iff.1 h
        obtain ⟨hp35_5, h⟩ := guardP h
        refine awp_regD mixedTryd kpNone [(3, Pod.av x35_3)] [] [1, 2, 7, 8] (by kernel_rfl) (cs := [(Det Tryd.prog 6 [AV.str [112], AV.int (IntKind.wrap .i64 (Int.tmod a0 (21 : Int))), AV.str [97]] (.ret (Pod.av x35_3))), (List.length (List.map Pod.av [x35_3]) * 184 ≤ 140737488355328), (List.length (List.map Pod.av [x35_3]) ≤ 140737488355328)]) (st' := ⟨68, [(1, AV.ik .u8 a1), (2, AV.ik .u8 a2), (7, AV.int (IntKind.wrap .i64 (Int.tmod a0 (21 : Int)))), (8, .varp 8 0)], [(8, (false, [.slice (.own 22) 5 (List.map Node.av [x13_2]), .slice (.own 31) 11 (List.map Pod.av [x35_3]), .nils]))], [], [(31, (40, 11, List.length (List.map Pod.av [x35_3]))), (30, (40, 11, 1)), (22, (34, 5, List.length (List.map Node.av [x13_2]))), (21, (34, 5, 1))]⟩) (by kernel_rfl) ⟨c6 [112] (IntKind.wrap .i64 (Int.tmod a0 (21 : Int))) [97] _ hx35_3, len_mul _ _ _ _ hp35_5.1, len_ge _ _ hp35_5.2, trivial⟩ ?_
        exact hJ17 [x35_3] _ h (Le.mk rfl ⟨rfl, rfl, rfl, ⟨rfl, rfl⟩, trivial⟩ ⟨⟨rfl, ⟨.inl ⟨rfl, rfl⟩, .inl ⟨rfl, rfl⟩, rfl, trivial⟩⟩, trivial⟩ ⟨rfl, rfl, trivial⟩ trivial)
      · rw [if_false hb] at h
        refine awp_skip ?_
        exact hJ17 ([] : List Pod) _ h (Le.mk rfl ⟨rfl, rfl, rfl, ⟨rfl, rfl⟩, trivial⟩ ⟨⟨rfl, ⟨.inl ⟨rfl, rfl⟩, .inr ⟨rfl, rfl, rfl⟩, rfl, trivial⟩⟩, trivial⟩ ⟨rfl, ⟨rfl, by decide⟩, trivial⟩ trivial)


end Go.Proofs.Eng
