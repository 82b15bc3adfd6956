/- Printed walks and contracts. -/
import Derived.Test.YtdolhcmhdjmoeaaGreatDoorStrT4
set_option linter.unusedSimpArgs false
set_option linter.unusedVariables false
set_option maxRecDepth 100000
namespace Go.Proofs.Eng
open Go Go.Proofs Go.Sort
-- cmp.isNaN[float64]
def F208 (a0 : Nat) : Option Bool :=
  some (!fEq a0 a0)
/-- cmp.isNaN[float64] -/
theorem c208 (a0 : Nat) (r : Bool) (h : F208 a0 = some r) :
    Det Tryz.prog 208 [AV.fl a0] (.ret (AV.bool r)) := by
  refine Det.of_le ?_
  refine @calls_of_body Tryz.prog 208 Tryz.f208 _ Tryz.func208 rfl (by kernel_rfl) [.tmp 2] (by rw [Tryz.results208]) 6 Tryz.ntmps208 _ _ _ (by simp only [List.length_cons, List.length_nil]; decide) ?_
  unfold F208 at h
  refine awp_sr kpNone [] [] [0] (cs := []) (st' := ⟨6, [(0, AV.fl a0)], [], [], []⟩) (by kernel_rfl) trivial ?_
  refine awp_sr kpNone [] [] [2] (cs := []) (st' := ⟨6, [(2, AV.bool (!fEq a0 a0))], [], [], []⟩) (by kernel_rfl) trivial ?_
  have h := Option.some.inj h
  subst h
  exact awp_ret ⟨[AV.bool (!fEq a0 a0)], by kernel_rfl, Lw.refl _⟩


-- cmp.Compare[float64]
def F97 (a0 : Nat) (a1 : Nat) : Option Int :=
  (F208 a0).bind fun x4_1 => (F208 a1).bind fun x6_1 => if x4_1 = true then (if x6_1 = true then (some 0) else (some (-1))) else (if x6_1 = true then (some 1) else (if fLt a0 a1 = true then (some (-1)) else (if fGt a0 a1 = true then (some 1) else (some 0))))
/-- cmp.Compare[float64] -/
theorem c97 (a0 : Nat) (a1 : Nat) (r : Int) (h : F97 a0 a1 = some r) :
    Det Tryz.prog 97 [AV.fl a0, AV.fl a1] (.ret (AV.int r)) := by
  refine Det.of_le ?_
  refine @calls_of_body Tryz.prog 97 Tryz.f97 _ Tryz.func97 rfl (by kernel_rfl) [.tmp 4] (by rw [Tryz.results97]) 20 Tryz.ntmps97 _ _ _ (by simp only [List.length_cons, List.length_nil]; decide) ?_
  unfold F97 at h
  refine awp_sr kpNone [] [] [0, 1] (cs := []) (st' := ⟨20, [(0, AV.fl a0), (1, AV.fl a1)], [], [], []⟩) (by kernel_rfl) trivial ?_
  obtain ⟨x4_1, hx4_1, h⟩ := Option.bind_eq_some_iff.1 h
  refine awp_sr kpNone [(1, AV.bool x4_1)] [] [0, 1, 5] (cs := [(Det Tryz.prog 208 [AV.fl a0] (.ret (AV.bool x4_1)))]) (st' := ⟨20, [(0, AV.fl a0), (1, AV.fl a1), (5, AV.bool x4_1)], [], [], []⟩) (by kernel_rfl) ⟨c208 a0 _ hx4_1, trivial⟩ ?_
  obtain ⟨x6_1, hx6_1, h⟩ := Option.bind_eq_some_iff.1 h
  refine awp_sr kpNone [(1, AV.bool x6_1)] [] [0, 1, 5, 6] (cs := [(Det Tryz.prog 208 [AV.fl a1] (.ret (AV.bool x6_1)))]) (st' := ⟨20, [(0, AV.fl a0), (1, AV.fl a1), (5, AV.bool x4_1), (6, AV.bool x6_1)], [], [], []⟩) (by kernel_rfl) ⟨c208 a1 _ hx6_1, trivial⟩ ?_
  refine awp_seq fun N7 hN7 => ?_
  refine awp_sr kpNone [] [] [0, 1, 6, 11] (cs := []) (st' := ⟨20, [(0, AV.fl a0), (1, AV.fl a1), (6, AV.bool x6_1), (11, AV.bool x4_1)], [], [], []⟩) (by kernel_rfl) trivial ?_
  refine awp_cond (t := x4_1) rfl (fun hb => ?_) (fun hb => ?_)
  · rw [if_pos hb] at h
    refine awp_seq fun N10 hN10 => ?_
    refine awp_sr kpNone [] [] [12] (cs := []) (st' := ⟨20, [(12, AV.bool x6_1)], [], [], []⟩) (by kernel_rfl) trivial ?_
    refine awp_cond (t := x6_1) rfl (fun hb => ?_) (fun hb => ?_)
    · rw [if_pos hb] at h
      refine awp_sr kpNone [] [] [4] (cs := []) (st' := ⟨20, [(4, AV.int 0)], [], [], []⟩) (by kernel_rfl) trivial ?_
      have h := Option.some.inj h
      subst h
      exact awp_ret ⟨[AV.int 0], by kernel_rfl, Lw.refl _⟩
    · rw [if_false hb] at h
      refine awp_skip ?_
      refine hN10 _ ?_
      refine awp_sr kpNone [] [] [4] (cs := []) (st' := ⟨20, [(4, AV.int (-1))], [], [], []⟩) (by kernel_rfl) trivial ?_
      have h := Option.some.inj h
      subst h
      exact awp_ret ⟨[AV.int (-1)], by kernel_rfl, Lw.refl _⟩
  · rw [if_false hb] at h
    refine awp_skip ?_
    refine hN7 _ ?_
    refine awp_seq fun N17 hN17 => ?_
    refine awp_sr kpNone [] [] [0, 1, 13] (cs := []) (st' := ⟨20, [(0, AV.fl a0), (1, AV.fl a1), (13, AV.bool x6_1)], [], [], []⟩) (by kernel_rfl) trivial ?_
    refine awp_cond (t := x6_1) rfl (fun hb => ?_) (fun hb => ?_)
    · rw [if_pos hb] at h
      refine awp_sr kpNone [] [] [4] (cs := []) (st' := ⟨20, [(4, AV.int 1)], [], [], []⟩) (by kernel_rfl) trivial ?_
      have h := Option.some.inj h
      subst h
      exact awp_ret ⟨[AV.int 1], by kernel_rfl, Lw.refl _⟩
    · rw [if_false hb] at h
      refine awp_skip ?_
      refine hN17 _ ?_
      refine awp_seq fun N22 hN22 => ?_
      refine awp_sr kpNone [] [] [0, 1, 16] (cs := []) (st' := ⟨20, [(0, AV.fl a0), (1, AV.fl a1), (16, AV.bool (fLt a0 a1))], [], [], []⟩) (by kernel_rfl) trivial ?_
      refine awp_cond (t := fLt a0 a1) rfl (fun hb => ?_) (fun hb => ?_)
      · rw [if_pos hb] at h
        refine awp_sr kpNone [] [] [4] (cs := []) (st' := ⟨20, [(4, AV.int (-1))], [], [], []⟩) (by kernel_rfl) trivial ?_
        have h := Option.some.inj h
        subst h
        exact awp_ret ⟨[AV.int (-1)], by kernel_rfl, Lw.refl _⟩
      · rw [if_false hb] at h
        refine awp_skip ?_
        refine hN22 _ ?_
        refine awp_seq fun N27 hN27 => ?_
        refine awp_sr kpNone [] [] [19] (cs := []) (st' := ⟨20, [(19, AV.bool (fGt a0 a1))], [], [], []⟩) (by kernel_rfl) trivial ?_
        refine awp_cond (t := fGt a0 a1) rfl (fun hb => ?_) (fun hb => ?_)
        · rw [if_pos hb] at h
          refine awp_sr kpNone [] [] [4] (cs := []) (st' := ⟨20, [(4, AV.int 1)], [], [], []⟩) (by kernel_rfl) trivial ?_
          have h := Option.some.inj h
          subst h
          exact awp_ret ⟨[AV.int 1], by kernel_rfl, Lw.refl _⟩
        · rw [if_false hb] at h
          refine awp_skip ?_
          refine hN27 _ ?_
          refine awp_sr kpNone [] [] [4] (cs := []) (st' := ⟨20, [(4, AV.int 0)], [], [], []⟩) (by kernel_rfl) trivial ?_
          have h := Option.some.inj h
          subst h
          exact awp_ret ⟨[AV.int 0], by kernel_rfl, Lw.refl _⟩


-- ratio.Compare
def F27.j9 (x5_4 : Int) (a0 : Nat) (a1 : Nat) : (Bool) → Option Int := fun p9 =>
  if p9 = true then (some x5_4) else ((F97 a0 a1).bind fun x13_2 => some x13_2)
def F27 (a0 : Nat) (a1 : Nat) : Option Int :=
  (F94 a0).bind fun x5_1 => (F94 a1).bind fun x5_3 => (F95 x5_1 x5_3).bind fun x5_4 => if decide (¬ x5_4 = (0 : Int)) = true then (F27.j9 x5_4 a0 a1 true) else ((F96 a0).bind fun x7_4 => F27.j9 x5_4 a0 a1 x7_4)
/-- ballast/ratio.Compare -/
theorem c27 (a0 : Nat) (a1 : Nat) (r : Int) (h : F27 a0 a1 = some r) :
    Det Tryz.prog 27 [AV.fl a0, AV.fl a1] (.ret (AV.int r)) := by
  refine Det.of_le ?_
  refine @calls_of_body Tryz.prog 27 Tryz.f27 _ Tryz.func27 rfl (by kernel_rfl) [.tmp 4] (by rw [Tryz.results27]) 21 Tryz.ntmps27 _ _ _ (by simp only [List.length_cons, List.length_nil]; decide) ?_
  unfold F27 at h
  refine awp_sr kpNone [] [] [0, 1] (cs := []) (st' := ⟨21, [(0, AV.fl a0), (1, AV.fl a1)], [], [], []⟩) (by kernel_rfl) trivial ?_
  refine awp_seq fun N3 hN3 => ?_
  obtain ⟨x5_1, hx5_1, h⟩ := Option.bind_eq_some_iff.1 h
  obtain ⟨x5_3, hx5_3, h⟩ := Option.bind_eq_some_iff.1 h
  obtain ⟨x5_4, hx5_4, h⟩ := Option.bind_eq_some_iff.1 h
  refine awp_sr kpNone [(1, AV.int x5_1), (3, AV.int x5_3), (4, AV.int x5_4)] [] [0, 1, 5] (cs := [(Det Tryz.prog 94 [AV.fl a0] (.ret (AV.int x5_1))), (Det Tryz.prog 94 [AV.fl a1] (.ret (AV.int x5_3))), (Det Tryz.prog 95 [AV.int x5_1, AV.int x5_3] (.ret (AV.int x5_4)))]) (st' := ⟨21, [(0, AV.fl a0), (1, AV.fl a1), (5, AV.int x5_4)], [], [], []⟩) (by kernel_rfl) ⟨c94 a0 _ hx5_1, c94 a1 _ hx5_3, c95 x5_1 x5_3 _ hx5_4, trivial⟩ ?_
  refine awp_seq fun N6 hN6 => ?_
  refine awp_to (σ := Bool) (fun p9 => ⟨21, [(0, AV.fl a0), (1, AV.fl a1), (5, AV.int x5_4), (16, AV.bool p9)], [], [], []⟩) (fun p9 => F27.j9 x5_4 a0 a1 p9 = some r) (fun p9 h => ?_) (fun N9 hJ9 => ?_)
  · unfold F27.j9 at h
    refine hN6 _ ?_
    refine awp_cond (t := p9) rfl (fun hb => ?_) (fun hb => ?_)
    · rw [if_pos hb] at h
      refine awp_sr kpNone [] [] [4] (cs := []) (st' := ⟨21, [(4, AV.int x5_4)], [], [], []⟩) (by kernel_rfl) trivial ?_
      have h := Option.some.inj h
      subst h
      exact awp_ret ⟨[AV.int x5_4], by kernel_rfl, Lw.refl _⟩
    · rw [if_false hb] at h
      refine awp_skip ?_
      refine hN3 _ ?_
      obtain ⟨x13_2, hx13_2, h⟩ := Option.bind_eq_some_iff.1 h
      refine awp_sr kpNone [(2, AV.int x13_2)] [] [4] (cs := [(Det Tryz.prog 97 [AV.fl a0, AV.fl a1] (.ret (AV.int x13_2)))]) (st' := ⟨21, [(4, AV.int x13_2)], [], [], []⟩) (by kernel_rfl) ⟨c97 a0 a1 _ hx13_2, trivial⟩ ?_
      have h := Option.some.inj h
      subst h
      exact awp_ret ⟨[AV.int x13_2], by kernel_rfl, Lw.refl _⟩
  · by_cases hg8 : decide (¬ x5_4 = (0 : Int)) = true
    · rw [if_pos hg8] at h
      refine awp_reg kpNone [] [(2, true)] [0, 1, 5, 16] (cs := [(decide (¬ x5_4 = (0 : Int)) = true)]) (st' := ⟨21, [(0, AV.fl a0), (1, AV.fl a1), (5, AV.int x5_4), (16, AV.bool true)], [], [], []⟩) (by kernel_rfl) ⟨hg8, trivial⟩ ?_
      exact hJ9 true _ h (Le.rfl')
    · rw [if_neg hg8] at h
      have hg8 := Bool.eq_false_iff.2 hg8
      obtain ⟨x7_4, hx7_4, h⟩ := Option.bind_eq_some_iff.1 h
      refine awp_reg kpNone [(4, AV.bool x7_4)] [(2, false)] [0, 1, 5, 16] (cs := [(decide (¬ x5_4 = (0 : Int)) = false), (Det Tryz.prog 96 [AV.fl a0] (.ret (AV.bool x7_4)))]) (st' := ⟨21, [(0, AV.fl a0), (1, AV.fl a1), (5, AV.int x5_4), (16, AV.bool x7_4)], [], [], []⟩) (by kernel_rfl) ⟨hg8, c96 a0 _ hx7_4, trivial⟩ ?_
      exact hJ9 x7_4 _ h (Le.rfl')


-- level.Of$1
def F202 (a0 : Nat) (a1 : Marks) : Option Bool :=
  (F27 a0 a1.High).bind fun x4_3 => some (decide ((0 : Int) < x4_3))
/-- ballast/level.Of$1 -/
theorem c202 (a0 : Nat) (a1 : Marks) (r : Bool) (h : F202 a0 a1 = some r) :
    Det Tryz.prog 202 [AV.fl a0, .inp [AV.fl a1.Low, AV.fl a1.High]] (.ret (AV.bool r)) := by
  refine Det.of_le ?_
  refine @calls_of_body Tryz.prog 202 Tryz.f202 _ Tryz.func202 rfl (by kernel_rfl) [.tmp 3] (by rw [Tryz.results202]) 9 Tryz.ntmps202 _ _ _ (by simp only [List.length_cons, List.length_nil]; decide) ?_
  unfold F202 at h
  refine awp_sr kpNone [] [] [0, 1] (cs := []) (st' := ⟨9, [(0, AV.fl a0), (1, .inp [AV.fl a1.Low, AV.fl a1.High])], [], [], []⟩) (by kernel_rfl) trivial ?_
  obtain ⟨x4_3, hx4_3, h⟩ := Option.bind_eq_some_iff.1 h
  refine awp_sr kpNone [(3, AV.int x4_3)] [] [3] (cs := [(Det Tryz.prog 27 [AV.fl a0, AV.fl a1.High] (.ret (AV.int x4_3)))]) (st' := ⟨9, [(3, AV.bool (decide ((0 : Int) < x4_3)))], [], [], []⟩) (by kernel_rfl) ⟨c27 a0 a1.High _ hx4_3, trivial⟩ ?_
  have h := Option.some.inj h
  subst h
  exact awp_ret ⟨[AV.bool (decide ((0 : Int) < x4_3))], by kernel_rfl, Lw.refl _⟩


-- slices.IndexFunc[[]float64,float64]
def F280.l6 (a0 : (List Nat)) (g1 : Nat → Option Bool) (rec6 : (Int) → Option Int) : (Int) → Option Int := fun p6 =>
  if decide (p6 < (List.length a0 : Int)) = true then ((getI a0 p6).bind fun x14_3 => (g1 x14_3).bind fun x14_5 => if x14_5 = true then (some p6) else (rec6 (w64 (p6 + (1 : Int))))) else (some (-1))
def F280 (l6 : (Int) → Option Int) (a0 : (List Nat)) (g1 : Nat → Option Bool) : Option Int :=
  l6 0
/-- slices.IndexFunc[[]float64,float64] -/
theorem c280 (a0 : (List Nat)) (g1 : Nat → Option Bool) (gf1 : FuncId) (gc1 : List AV) (hc1 : List.map AV.cl0 gc1 = gc1) (hg1 : ∀ (y0 : Nat) (r : Bool), g1 y0 = some r → Det Tryz.prog gf1 ((AV.fl y0) :: List.map AV.cl gc1) (.ret (AV.bool r))) (l6 : (Int) → Option Int) (hl6 : Rounds (F280.l6 a0 g1) (l6)) (r : Int) (h : F280 l6 a0 g1 = some r) :
    Det Tryz.prog 280 [AV.lst 1 AV.fl a0, .func gf1 gc1] (.ret (AV.int r)) := by
  refine Det.of_le ?_
  refine @calls_of_body Tryz.prog 280 Tryz.f280 _ Tryz.func280 rfl (by kernel_rfl) [.tmp 4] (by rw [Tryz.results280]) 19 Tryz.ntmps280 _ _ _ (by simp only [List.length_cons, List.length_nil]; decide) ?_
  unfold F280 at h
  refine awp_sr kpNone [] [] [0, 1] (cs := []) (st' := ⟨19, [(0, AV.lst 1 AV.fl a0), (1, .func gf1 gc1)], [], [], []⟩) (by kernel_rfl) trivial ?_
  refine awp_seq fun N3 hN3 => ?_
  refine awp_sr kpNone [(1, AV.int (List.length a0 : Int))] [] [0, 1, 7, 8] (cs := [((AV.int (List.length a0 : Int) = .val (.int .i64 (List.length (List.map AV.fl a0) : Int))))]) (st' := ⟨19, [(0, AV.lst 1 AV.fl a0), (1, .func gf1 gc1), (7, AV.int (List.length a0 : Int)), (8, AV.int 0)], [], [], []⟩) (by kernel_rfl) ⟨len_map _ _, trivial⟩ ?_
  refine awp_block ?_
  refine awp_loop ?_
  refine awpL_le (st' := ⟨19, [(0, AV.lst 1 AV.fl a0), (1, .func gf1 gc1), (7, AV.int (List.length a0 : Int)), (8, AV.int 0)], [], [], []⟩) ?_ ?_
  · exact Le.rfl'
  refine awpL_fix hl6 r (fun p6 => ⟨19, [(0, AV.lst 1 AV.fl a0), (1, .func gf1 gc1), (7, AV.int (List.length a0 : Int)), (8, AV.int p6)], [], [], []⟩) (fun rec6 hrec6 p6 h => ?_) 0 h
  unfold F280.l6 at h
  refine awpL_round ?_
  refine awp_sr kpNone [] [] [0, 1, 7, 8, 9] (cs := []) (st' := ⟨19, [(0, AV.lst 1 AV.fl a0), (1, .func gf1 gc1), (7, AV.int (List.length a0 : Int)), (8, AV.int p6), (9, AV.bool (decide (p6 < (List.length a0 : Int))))], [], [], []⟩) (by kernel_rfl) trivial ?_
  refine awp_seq fun N9 hN9 => ?_
  refine awp_cond (t := decide (p6 < (List.length a0 : Int))) rfl (fun hb => ?_) (fun hb => ?_)
  · rw [if_pos hb] at h
    refine awp_skip ?_
    refine hN9 _ ?_
    refine awp_seq fun N10 hN10 => ?_
    refine awp_block ?_
    refine awp_sr kpNone [] [] [0, 1, 5, 7, 8] (cs := []) (st' := ⟨19, [(0, AV.lst 1 AV.fl a0), (1, .func gf1 gc1), (5, AV.int p6), (7, AV.int (List.length a0 : Int)), (8, AV.int p6)], [], [], []⟩) (by kernel_rfl) trivial ?_
    obtain ⟨x14_3, hx14_3, h⟩ := Option.bind_eq_some_iff.1 h
    obtain ⟨x14_5, hx14_5, h⟩ := Option.bind_eq_some_iff.1 h
    refine awp_sr kpNone [(3, AV.fl x14_3), (5, AV.bool x14_5)] [] [0, 1, 5, 7, 8, 16] (cs := [(0 ≤ p6), ((List.map AV.fl a0)[Int.toNat p6]? = some (AV.fl x14_3)), (Det Tryz.prog gf1 ((AV.fl x14_3) :: List.map AV.cl gc1) (.ret (AV.bool x14_5)))]) (st' := ⟨19, [(0, AV.lst 1 AV.fl a0), (1, .func gf1 gc1), (5, AV.int p6), (7, AV.int (List.length a0 : Int)), (8, AV.int p6), (16, AV.bool x14_5)], [], [], []⟩) (by kernel_rfl) ⟨getI_le hx14_3, getI_map hx14_3 _, hg1 x14_3 _ hx14_5, trivial⟩ ?_
    refine awp_cond (t := x14_5) rfl (fun hb => ?_) (fun hb => ?_)
    · rw [if_pos hb] at h
      refine awp_sr kpNone [] [] [4] (cs := []) (st' := ⟨19, [(4, AV.int p6)], [], [], []⟩) (by kernel_rfl) trivial ?_
      have h := Option.some.inj h
      subst h
      exact awp_ret ⟨[AV.int p6], by kernel_rfl, Lw.refl _⟩
    · rw [if_false hb] at h
      refine awp_skip ?_
      refine hN10 _ ?_
      refine awp_reg kpNone [] [] [0, 1, 7, 8] (cs := []) (st' := ⟨19, [(0, AV.lst 1 AV.fl a0), (1, .func gf1 gc1), (7, AV.int (List.length a0 : Int)), (8, AV.int (w64 (p6 + (1 : Int))))], [], [], []⟩) (by kernel_rfl) trivial ?_
      refine awpL_le ?_ (hrec6 _ h)
      exact Le.rfl'
  · rw [if_false hb] at h
    refine awp_exit ?_
    refine hN3 _ ?_
    refine awp_sr kpNone [] [] [4] (cs := []) (st' := ⟨19, [(4, AV.int (-1))], [], [], []⟩) (by kernel_rfl) trivial ?_
    have h := Option.some.inj h
    subst h
    exact awp_ret ⟨[AV.int (-1)], by kernel_rfl, Lw.refl _⟩
def A280.l6 (a0 : (List Nat)) (g1 : Nat → Option Bool) : (Int) → Option Int := iterL (F280.l6 a0 g1) 4096
def A280 (a0 : (List Nat)) (g1 : Nat → Option Bool) : Option Int := F280 (A280.l6 a0 g1) a0 g1
theorem d280 (a0 : (List Nat)) (g1 : Nat → Option Bool) (gf1 : FuncId) (gc1 : List AV) (hc1 : List.map AV.cl0 gc1 = gc1) (hg1 : ∀ (y0 : Nat) (r : Bool), g1 y0 = some r → Det Tryz.prog gf1 ((AV.fl y0) :: List.map AV.cl gc1) (.ret (AV.bool r))) (r : Int) (h : A280 a0 g1 = some r) :
    Det Tryz.prog 280 [AV.lst 1 AV.fl a0, .func gf1 gc1] (.ret (AV.int r)) := by
  exact c280 a0 g1 gf1 gc1 hc1 hg1 (A280.l6 a0 g1) (rounds_iter _ _) r h


-- slices.ContainsFunc[[]float64,float64]
def F201 (a0 : (List Nat)) (g1 : Nat → Option Bool) : Option Bool :=
  (A280 a0 g1).bind fun x4_2 => some (decide ((0 : Int) ≤ x4_2))
/-- slices.ContainsFunc[[]float64,float64] -/
theorem c201 (a0 : (List Nat)) (g1 : Nat → Option Bool) (gf1 : FuncId) (gc1 : List AV) (hc1 : List.map AV.cl0 gc1 = gc1) (hg1 : ∀ (y0 : Nat) (r : Bool), g1 y0 = some r → Det Tryz.prog gf1 ((AV.fl y0) :: List.map AV.cl gc1) (.ret (AV.bool r))) (r : Bool) (h : F201 a0 g1 = some r) :
    Det Tryz.prog 201 [AV.lst 1 AV.fl a0, .func gf1 gc1] (.ret (AV.bool r)) := by
  refine Det.of_le ?_
  refine @calls_of_body Tryz.prog 201 Tryz.f201 _ Tryz.func201 rfl (by kernel_rfl) [.tmp 4] (by rw [Tryz.results201]) 9 Tryz.ntmps201 _ _ _ (by simp only [List.length_cons, List.length_nil]; decide) ?_
  unfold F201 at h
  refine awp_sr kpNone [] [] [0, 1] (cs := []) (st' := ⟨9, [(0, AV.lst 1 AV.fl a0), (1, .func gf1 gc1)], [], [], []⟩) (by kernel_rfl) trivial ?_
  obtain ⟨x4_2, hx4_2, h⟩ := Option.bind_eq_some_iff.1 h
  refine awp_sr kpNone [(2, AV.int x4_2)] [] [4] (cs := [(Det Tryz.prog 280 [AV.lst 1 AV.fl a0, .func gf1 (List.map AV.cl0 gc1)] (.ret (AV.int x4_2)))]) (st' := ⟨9, [(4, AV.bool (decide ((0 : Int) ≤ x4_2)))], [], [], []⟩) (by kernel_rfl) ⟨by rw [hc1]; exact (d280 a0 g1 gf1 gc1 hc1 hg1 _ hx4_2), trivial⟩ ?_
  have h := Option.some.inj h
  subst h
  exact awp_ret ⟨[AV.bool (decide ((0 : Int) ≤ x4_2))], by kernel_rfl, Lw.refl _⟩


-- level.Of$2
def F203 (a0 : Nat) (a1 : Marks) : Option Bool :=
  (F27 a0 a1.Low).bind fun x4_3 => some (decide ((0 : Int) ≤ x4_3))
/-- ballast/level.Of$2 -/
theorem c203 (a0 : Nat) (a1 : Marks) (r : Bool) (h : F203 a0 a1 = some r) :
    Det Tryz.prog 203 [AV.fl a0, .inp [AV.fl a1.Low, AV.fl a1.High]] (.ret (AV.bool r)) := by
  refine Det.of_le ?_
  refine @calls_of_body Tryz.prog 203 Tryz.f203 _ Tryz.func203 rfl (by kernel_rfl) [.tmp 3] (by rw [Tryz.results203]) 9 Tryz.ntmps203 _ _ _ (by simp only [List.length_cons, List.length_nil]; decide) ?_
  unfold F203 at h
  refine awp_sr kpNone [] [] [0, 1] (cs := []) (st' := ⟨9, [(0, AV.fl a0), (1, .inp [AV.fl a1.Low, AV.fl a1.High])], [], [], []⟩) (by kernel_rfl) trivial ?_
  obtain ⟨x4_3, hx4_3, h⟩ := Option.bind_eq_some_iff.1 h
  refine awp_sr kpNone [(3, AV.int x4_3)] [] [3] (cs := [(Det Tryz.prog 27 [AV.fl a0, AV.fl a1.Low] (.ret (AV.int x4_3)))]) (st' := ⟨9, [(3, AV.bool (decide ((0 : Int) ≤ x4_3)))], [], [], []⟩) (by kernel_rfl) ⟨c27 a0 a1.Low _ hx4_3, trivial⟩ ?_
  have h := Option.some.inj h
  subst h
  exact awp_ret ⟨[AV.bool (decide ((0 : Int) ≤ x4_3))], by kernel_rfl, Lw.refl _⟩


-- level.Of
def F92.j13  : (Bool) → Option Int := fun p13 =>
  if p13 = true then (some 1) else (some 0)
def F92 (a0 : State) (a1 : Str) (a2 : Marks) : Option Int :=
  (A200 a0 a1).bind fun x4_2 => (F201 x4_2 (fun y0 => F202 y0 a2)).bind fun x7_2 => if x7_2 = true then (some 2) else (if decide ((List.length x4_2 : Int) = (0 : Int)) = true then (F92.j13 true) else ((F201 x4_2 (fun y0 => F203 y0 a2)).bind fun x11_6 => F92.j13 x11_6))
/-- ballast/level.Of -/
theorem c92 (a0 : State) (a1 : Str) (a2 : Marks) (r : Int) (h : F92 a0 a1 a2 = some r) :
    Det Tryz.prog 92 [State.av a0, AV.str a1, Marks.av a2] (.ret (AV.int r)) := by
  refine Det.of_le ?_
  refine @calls_of_body Tryz.prog 92 Tryz.f92 _ Tryz.func92 rfl (by kernel_rfl) [.tmp 6] (by rw [Tryz.results92]) 24 Tryz.ntmps92 _ _ _ (by simp only [List.length_cons, List.length_nil]; decide) ?_
  unfold F92 at h
  refine awp_sr kpNone [] [] [1, 3, 5] (cs := []) (st' := ⟨24, [(1, AV.str a1), (3, .varp 3 0), (5, .varp 5 0)], [(5, (false, [AV.fl a2.Low, AV.fl a2.High])), (3, (false, a0.cs))], [], []⟩) (by kernel_rfl) trivial ?_
  obtain ⟨x4_2, hx4_2, h⟩ := Option.bind_eq_some_iff.1 h
  refine awp_sr kpNone [(2, AV.lst 1 AV.fl x4_2)] [] [5, 7] (cs := [(Det Tryz.prog 200 [State.av a0, AV.str a1] (.ret (AV.lst 1 AV.fl x4_2)))]) (st' := ⟨24, [(5, .varp 5 0), (7, AV.lst 1 AV.fl x4_2)], [(5, (false, [AV.fl a2.Low, AV.fl a2.High])), (3, (false, a0.cs))], [], []⟩) (by kernel_rfl) ⟨d200 a0 a1 _ hx4_2, trivial⟩ ?_
  refine awp_seq fun N5 hN5 => ?_
  refine awp_block ?_
  obtain ⟨x7_2, hx7_2, h⟩ := Option.bind_eq_some_iff.1 h
  refine awp_sr kpNone [(2, AV.bool x7_2)] [] [5, 7, 11] (cs := [(Det Tryz.prog 201 [AV.lst 1 AV.fl x4_2, .func 202 [.inp [AV.fl a2.Low, AV.fl a2.High]]] (.ret (AV.bool x7_2)))]) (st' := ⟨24, [(5, .varp 5 0), (7, AV.lst 1 AV.fl x4_2), (11, AV.bool x7_2)], [(5, (true, [AV.fl a2.Low, AV.fl a2.High])), (3, (false, a0.cs))], [], []⟩) (by kernel_rfl) ⟨c201 x4_2 (fun y0 => F202 y0 a2) 202 [.inp [AV.fl a2.Low, AV.fl a2.High]] rfl (fun y0 _ hy => c202 y0 a2 _ hy) _ hx7_2, trivial⟩ ?_
  refine awp_cond (t := x7_2) rfl (fun hb => ?_) (fun hb => ?_)
  · rw [if_pos hb] at h
    refine awp_sr kpNone [] [] [6] (cs := []) (st' := ⟨24, [(6, AV.int 2)], [(5, (true, [AV.fl a2.Low, AV.fl a2.High])), (3, (false, a0.cs))], [], []⟩) (by kernel_rfl) trivial ?_
    have h := Option.some.inj h
    subst h
    exact awp_ret ⟨[AV.int 2], by kernel_rfl, Lw.refl _⟩
  · rw [if_false hb] at h
    refine awp_seq fun N10 hN10 => ?_
    refine awp_to (σ := Bool) (fun p13 => ⟨24, [(15, AV.bool p13)], [(5, (true, [AV.fl a2.Low, AV.fl a2.High])), (3, (false, a0.cs))], [], []⟩) (fun p13 => F92.j13 p13 = some r) (fun p13 h => ?_) (fun N13 hJ13 => ?_)
    · unfold F92.j13 at h
      refine hN10 _ ?_
      refine awp_cond (t := p13) rfl (fun hb => ?_) (fun hb => ?_)
      · rw [if_pos hb] at h
        refine awp_sr kpNone [] [] [6] (cs := []) (st' := ⟨24, [(6, AV.int 1)], [(5, (true, [AV.fl a2.Low, AV.fl a2.High])), (3, (false, a0.cs))], [], []⟩) (by kernel_rfl) trivial ?_
        have h := Option.some.inj h
        subst h
        exact awp_ret ⟨[AV.int 1], by kernel_rfl, Lw.refl _⟩
      · rw [if_false hb] at h
        refine awp_skip ?_
        refine hN5 _ ?_
        refine awp_sr kpNone [] [] [6] (cs := []) (st' := ⟨24, [(6, AV.int 0)], [(5, (true, [AV.fl a2.Low, AV.fl a2.High])), (3, (false, a0.cs))], [], []⟩) (by kernel_rfl) trivial ?_
        have h := Option.some.inj h
        subst h
        exact awp_ret ⟨[AV.int 0], by kernel_rfl, Lw.refl _⟩
    · by_cases hg12 : decide ((List.length x4_2 : Int) = (0 : Int)) = true
      · rw [if_pos hg12] at h
        refine awp_reg kpNone [(1, AV.int (List.length x4_2 : Int))] [(3, true)] [15] (cs := [((AV.int (List.length x4_2 : Int) = .val (.int .i64 (List.length (List.map AV.fl x4_2) : Int)))), (decide ((List.length x4_2 : Int) = (0 : Int)) = true)]) (st' := ⟨24, [(15, AV.bool true)], [(5, (true, [AV.fl a2.Low, AV.fl a2.High])), (3, (false, a0.cs))], [], []⟩) (by kernel_rfl) ⟨len_map _ _, hg12, trivial⟩ ?_
        exact hJ13 true _ h (Le.rfl')
      · rw [if_neg hg12] at h
        have hg12 := Bool.eq_false_iff.2 hg12
        obtain ⟨x11_6, hx11_6, h⟩ := Option.bind_eq_some_iff.1 h
        refine awp_reg kpNone [(1, AV.int (List.length x4_2 : Int)), (6, AV.bool x11_6)] [(3, false)] [15] (cs := [((AV.int (List.length x4_2 : Int) = .val (.int .i64 (List.length (List.map AV.fl x4_2) : Int)))), (decide ((List.length x4_2 : Int) = (0 : Int)) = false), (Det Tryz.prog 201 [AV.lst 1 AV.fl x4_2, .func 203 [.inp [AV.fl a2.Low, AV.fl a2.High]]] (.ret (AV.bool x11_6)))]) (st' := ⟨24, [(15, AV.bool x11_6)], [(5, (true, [AV.fl a2.Low, AV.fl a2.High])), (3, (false, a0.cs))], [], []⟩) (by kernel_rfl) ⟨len_map _ _, hg12, c201 x4_2 (fun y0 => F203 y0 a2) 203 [.inp [AV.fl a2.Low, AV.fl a2.High]] rfl (fun y0 _ hy => c203 y0 a2 _ hy) _ hx11_6, trivial⟩ ?_
        exact hJ13 x11_6 _ h (Le.rfl')


-- strat.bad$4
def F236 (a0 : Pod) (a1 : State) (a2 : Marks) : Option Bool :=
  (F92 a1 a0.Node a2).bind fun x4_4 => some (decide (x4_4 = (2 : Int)))
/-- ballast/strat.bad$4 -/
theorem c236 (a0 : Pod) (a1 : State) (a2 : Marks) (r : Bool) (h : F236 a0 a1 a2 = some r) :
    Det Tryz.prog 236 [Pod.av a0, .inp a1.cs, .inp [AV.fl a2.Low, AV.fl a2.High]] (.ret (AV.bool r)) := by
  refine Det.of_le ?_
  refine @calls_of_body Tryz.prog 236 Tryz.f236 _ Tryz.func236 rfl (by kernel_rfl) [.tmp 4] (by rw [Tryz.results236]) 11 Tryz.ntmps236 _ _ _ (by simp only [List.length_cons, List.length_nil]; decide) ?_
  unfold F236 at h
  refine awp_sr kpNone [] [] [1, 2, 3] (cs := []) (st' := ⟨11, [(1, .inp a1.cs), (2, .inp [AV.fl a2.Low, AV.fl a2.High]), (3, .varp 3 0)], [(3, (false, a0.cs))], [], []⟩) (by kernel_rfl) trivial ?_
  obtain ⟨x4_4, hx4_4, h⟩ := Option.bind_eq_some_iff.1 h
  refine awp_sr kpNone [(4, AV.int x4_4)] [] [4] (cs := [(Det Tryz.prog 92 [State.av a1, AV.str a0.Node, Marks.av a2] (.ret (AV.int x4_4)))]) (st' := ⟨11, [(4, AV.bool (decide (x4_4 = (2 : Int))))], [(3, (false, a0.cs))], [], []⟩) (by kernel_rfl) ⟨c92 a1 a0.Node a2 _ hx4_4, trivial⟩ ?_
  have h := Option.some.inj h
  subst h
  exact awp_ret ⟨[AV.bool (decide (x4_4 = (2 : Int)))], by kernel_rfl, Lw.refl _⟩


-- strat.bad$5
def F238.j6  : (Bool) → Option Bool := fun p6 =>
  some p6
def F238 (a0 : Node) (a1 : State) (a2 : Marks) : Option Bool :=
  if (!a0.Cordon) = true then ((F92 a1 a0.Name a2).bind fun x4_8 => F238.j6 (decide (¬ x4_8 = (0 : Int)))) else (F238.j6 false)
/-- ballast/strat.bad$5 -/
theorem c238 (a0 : Node) (a1 : State) (a2 : Marks) (r : Bool) (h : F238 a0 a1 a2 = some r) :
    Det Tryz.prog 238 [Node.av a0, .inp a1.cs, .inp [AV.fl a2.Low, AV.fl a2.High]] (.ret (AV.bool r)) := by
  refine Det.of_le ?_
  refine @calls_of_body Tryz.prog 238 Tryz.f238 _ Tryz.func238 rfl (by kernel_rfl) [.tmp 4] (by rw [Tryz.results238]) 16 Tryz.ntmps238 _ _ _ (by simp only [List.length_cons, List.length_nil]; decide) ?_
  unfold F238 at h
  refine awp_sr kpNone [] [] [1, 2, 3] (cs := []) (st' := ⟨16, [(1, .inp a1.cs), (2, .inp [AV.fl a2.Low, AV.fl a2.High]), (3, .varp 3 0)], [(3, (false, a0.cs))], [], []⟩) (by kernel_rfl) trivial ?_
  refine awp_seq fun N3 hN3 => ?_
  refine awp_to (σ := Bool) (fun p6 => ⟨16, [(4, AV.bool p6)], [(3, (false, a0.cs))], [], []⟩) (fun p6 => F238.j6 p6 = some r) (fun p6 h => ?_) (fun N6 hJ6 => ?_)
  · unfold F238.j6 at h
    refine hN3 _ ?_
    have h := Option.some.inj h
    subst h
    exact awp_ret ⟨[AV.bool p6], by kernel_rfl, Lw.refl _⟩
  · by_cases hg5 : (!a0.Cordon) = true
    · rw [if_pos hg5] at h
      obtain ⟨x4_8, hx4_8, h⟩ := Option.bind_eq_some_iff.1 h
      refine awp_reg kpNone [(8, AV.int x4_8)] [(3, true)] [4] (cs := [((!a0.Cordon) = true), (Det Tryz.prog 92 [State.av a1, AV.str a0.Name, Marks.av a2] (.ret (AV.int x4_8)))]) (st' := ⟨16, [(4, AV.bool (decide (¬ x4_8 = (0 : Int))))], [(3, (false, a0.cs))], [], []⟩) (by kernel_rfl) ⟨hg5, c92 a1 a0.Name a2 _ hx4_8, trivial⟩ ?_
      exact hJ6 (decide (¬ x4_8 = (0 : Int))) _ h (Le.rfl')
    · rw [if_neg hg5] at h
      have hg5 := Bool.eq_false_iff.2 hg5
      refine awp_reg kpNone [] [(3, false)] [4] (cs := [((!a0.Cordon) = false)]) (st' := ⟨16, [(4, AV.bool false)], [(3, (false, a0.cs))], [], []⟩) (by kernel_rfl) ⟨hg5, trivial⟩ ?_
      exact hJ6 false _ h (Le.rfl')


-- slices.IndexFunc[[]node.Node,node.Node]
def F298.l6 (a0 : (List Node)) (g1 : Node → Option Bool) (rec6 : (Int) → Option Int) : (Int) → Option Int := fun p6 =>
  if decide (p6 < (List.length a0 : Int)) = true then ((getI a0 p6).bind fun x14_3 => (g1 x14_3).bind fun x14_5 => if x14_5 = true then (some p6) else (rec6 (w64 (p6 + (1 : Int))))) else (some (-1))
def F298 (l6 : (Int) → Option Int) (a0 : (List Node)) (g1 : Node → Option Bool) : Option Int :=
  l6 0
/-- slices.IndexFunc[[]ballast/node.Node,ballast/node.Node] -/
theorem c298 (a0 : (List Node)) (g1 : Node → Option Bool) (gf1 : FuncId) (gc1 : List AV) (hc1 : List.map AV.cl0 gc1 = gc1) (hg1 : ∀ (y0 : Node) (r : Bool), g1 y0 = some r → Det Tryz.prog gf1 ((Node.av y0) :: List.map AV.cl gc1) (.ret (AV.bool r))) (l6 : (Int) → Option Int) (hl6 : Rounds (F298.l6 a0 g1) (l6)) (r : Int) (h : F298 l6 a0 g1 = some r) :
    Det Tryz.prog 298 [AV.lst 5 Node.av a0, .func gf1 gc1] (.ret (AV.int r)) := by
  refine Det.of_le ?_
  refine @calls_of_body Tryz.prog 298 Tryz.f298 _ Tryz.func298 rfl (by kernel_rfl) [.tmp 4] (by rw [Tryz.results298]) 19 Tryz.ntmps298 _ _ _ (by simp only [List.length_cons, List.length_nil]; decide) ?_
  unfold F298 at h
  refine awp_sr kpNone [] [] [0, 1] (cs := []) (st' := ⟨19, [(0, AV.lst 5 Node.av a0), (1, .func gf1 gc1)], [], [], []⟩) (by kernel_rfl) trivial ?_
  refine awp_seq fun N3 hN3 => ?_
  refine awp_sr kpNone [(1, AV.int (List.length a0 : Int))] [] [0, 1, 7, 8] (cs := [((AV.int (List.length a0 : Int) = .val (.int .i64 (List.length (List.map Node.av a0) : Int))))]) (st' := ⟨19, [(0, AV.lst 5 Node.av a0), (1, .func gf1 gc1), (7, AV.int (List.length a0 : Int)), (8, AV.int 0)], [], [], []⟩) (by kernel_rfl) ⟨len_map _ _, trivial⟩ ?_
  refine awp_block ?_
  refine awp_loop ?_
  refine awpL_le (st' := ⟨19, [(0, AV.lst 5 Node.av a0), (1, .func gf1 gc1), (7, AV.int (List.length a0 : Int)), (8, AV.int 0)], [], [], []⟩) ?_ ?_
  · exact Le.rfl'
  refine awpL_fix hl6 r (fun p6 => ⟨19, [(0, AV.lst 5 Node.av a0), (1, .func gf1 gc1), (7, AV.int (List.length a0 : Int)), (8, AV.int p6)], [], [], []⟩) (fun rec6 hrec6 p6 h => ?_) 0 h
  unfold F298.l6 at h
  refine awpL_round ?_
  refine awp_sr kpNone [] [] [0, 1, 7, 8, 9] (cs := []) (st' := ⟨19, [(0, AV.lst 5 Node.av a0), (1, .func gf1 gc1), (7, AV.int (List.length a0 : Int)), (8, AV.int p6), (9, AV.bool (decide (p6 < (List.length a0 : Int))))], [], [], []⟩) (by kernel_rfl) trivial ?_
  refine awp_seq fun N9 hN9 => ?_
  refine awp_cond (t := decide (p6 < (List.length a0 : Int))) rfl (fun hb => ?_) (fun hb => ?_)
  · rw [if_pos hb] at h
    refine awp_skip ?_
    refine hN9 _ ?_
    refine awp_seq fun N10 hN10 => ?_
    refine awp_block ?_
    refine awp_sr kpNone [] [] [0, 1, 5, 7, 8] (cs := []) (st' := ⟨19, [(0, AV.lst 5 Node.av a0), (1, .func gf1 gc1), (5, AV.int p6), (7, AV.int (List.length a0 : Int)), (8, AV.int p6)], [], [], []⟩) (by kernel_rfl) trivial ?_
    obtain ⟨x14_3, hx14_3, h⟩ := Option.bind_eq_some_iff.1 h
    obtain ⟨x14_5, hx14_5, h⟩ := Option.bind_eq_some_iff.1 h
    refine awp_sr kpNone [(3, Node.av x14_3), (5, AV.bool x14_5)] [] [0, 1, 5, 7, 8, 16] (cs := [(0 ≤ p6), ((List.map Node.av a0)[Int.toNat p6]? = some (Node.av x14_3)), (Det Tryz.prog gf1 ((Node.av x14_3) :: List.map AV.cl gc1) (.ret (AV.bool x14_5)))]) (st' := ⟨19, [(0, AV.lst 5 Node.av a0), (1, .func gf1 gc1), (5, AV.int p6), (7, AV.int (List.length a0 : Int)), (8, AV.int p6), (16, AV.bool x14_5)], [], [], []⟩) (by kernel_rfl) ⟨getI_le hx14_3, getI_map hx14_3 _, hg1 x14_3 _ hx14_5, trivial⟩ ?_
    refine awp_cond (t := x14_5) rfl (fun hb => ?_) (fun hb => ?_)
    · rw [if_pos hb] at h
      refine awp_sr kpNone [] [] [4] (cs := []) (st' := ⟨19, [(4, AV.int p6)], [], [], []⟩) (by kernel_rfl) trivial ?_
      have h := Option.some.inj h
      subst h
      exact awp_ret ⟨[AV.int p6], by kernel_rfl, Lw.refl _⟩
    · rw [if_false hb] at h
      refine awp_skip ?_
      refine hN10 _ ?_
      refine awp_reg kpNone [] [] [0, 1, 7, 8] (cs := []) (st' := ⟨19, [(0, AV.lst 5 Node.av a0), (1, .func gf1 gc1), (7, AV.int (List.length a0 : Int)), (8, AV.int (w64 (p6 + (1 : Int))))], [], [], []⟩) (by kernel_rfl) trivial ?_
      refine awpL_le ?_ (hrec6 _ h)
      exact Le.rfl'
  · rw [if_false hb] at h
    refine awp_exit ?_
    refine hN3 _ ?_
    refine awp_sr kpNone [] [] [4] (cs := []) (st' := ⟨19, [(4, AV.int (-1))], [], [], []⟩) (by kernel_rfl) trivial ?_
    have h := Option.some.inj h
    subst h
    exact awp_ret ⟨[AV.int (-1)], by kernel_rfl, Lw.refl _⟩
-- {"kind": "opt", "S": "(fun l g => idxF g 0 l)", "thm": "d298"}
theorem d298 (a0 : List Node) (g1 : Node → Option Bool) (gf1 : FuncId) (gc1 : List AV) (hc1 : List.map AV.cl0 gc1 = gc1) (hg1 : ∀ (y0 : Node) (r : Bool), g1 y0 = some r → Det Tryz.prog gf1 ((Node.av y0) :: List.map AV.cl gc1) (.ret (AV.bool r))) (r : Int) (h : idxF g1 0 a0 = some r) :
    Det Tryz.prog 298 [AV.lst 5 Node.av a0, .func gf1 gc1] (.ret (AV.int r)) := by
  refine Det.len 0 rfl fun hl => c298 a0 g1 gf1 gc1 hc1 hg1 _ (rounds_at a0 hl (fun p t => idxF g1 p t) _ ?_ ?_) _ ?_
  · intro rec
    simp [F298.l6, idxF]
  · intro rec p x t h0 h1 hx hr hw
    simp only [F298.l6, hx, hw, hr, h1, decide_true, if_true, Option.bind_some, idxF]
  · simp [F298, h]


-- slices.ContainsFunc[[]node.Node,node.Node]
def F237 (a0 : (List Node)) (g1 : Node → Option Bool) : Option Bool :=
  ((fun l g => idxF g 0 l) a0 g1).bind fun x4_2 => some (decide ((0 : Int) ≤ x4_2))
/-- slices.ContainsFunc[[]ballast/node.Node,ballast/node.Node] -/
theorem c237 (a0 : (List Node)) (g1 : Node → Option Bool) (gf1 : FuncId) (gc1 : List AV) (hc1 : List.map AV.cl0 gc1 = gc1) (hg1 : ∀ (y0 : Node) (r : Bool), g1 y0 = some r → Det Tryz.prog gf1 ((Node.av y0) :: List.map AV.cl gc1) (.ret (AV.bool r))) (r : Bool) (h : F237 a0 g1 = some r) :
    Det Tryz.prog 237 [AV.lst 5 Node.av a0, .func gf1 gc1] (.ret (AV.bool r)) := by
  refine Det.of_le ?_
  refine @calls_of_body Tryz.prog 237 Tryz.f237 _ Tryz.func237 rfl (by kernel_rfl) [.tmp 4] (by rw [Tryz.results237]) 9 Tryz.ntmps237 _ _ _ (by simp only [List.length_cons, List.length_nil]; decide) ?_
  unfold F237 at h
  refine awp_sr kpNone [] [] [0, 1] (cs := []) (st' := ⟨9, [(0, AV.lst 5 Node.av a0), (1, .func gf1 gc1)], [], [], []⟩) (by kernel_rfl) trivial ?_
  obtain ⟨x4_2, hx4_2, h⟩ := Option.bind_eq_some_iff.1 h
  refine awp_sr kpNone [(2, AV.int x4_2)] [] [4] (cs := [(Det Tryz.prog 298 [AV.lst 5 Node.av a0, .func gf1 (List.map AV.cl0 gc1)] (.ret (AV.int x4_2)))]) (st' := ⟨9, [(4, AV.bool (decide ((0 : Int) ≤ x4_2)))], [], [], []⟩) (by kernel_rfl) ⟨by rw [hc1]; exact (d298 a0 g1 gf1 gc1 hc1 hg1 _ hx4_2), trivial⟩ ?_
  have h := Option.some.inj h
  subst h
  exact awp_ret ⟨[AV.bool (decide ((0 : Int) ≤ x4_2))], by kernel_rfl, Lw.refl _⟩
-- {"kind": "opt", "S": "(fun l g => anyF g l)", "thm": "d237"}
theorem d237 (a0 : List Node) (g1 : Node → Option Bool) (gf1 : FuncId) (gc1 : List AV) (hc1 : List.map AV.cl0 gc1 = gc1) (hg1 : ∀ (y0 : Node) (r : Bool), g1 y0 = some r → Det Tryz.prog gf1 ((Node.av y0) :: List.map AV.cl gc1) (.ret (AV.bool r))) (r : Bool) (h : anyF g1 a0 = some r) :
    Det Tryz.prog 237 [AV.lst 5 Node.av a0, .func gf1 gc1] (.ret (AV.bool r)) := by
  refine c237 a0 g1 gf1 gc1 hc1 hg1 _ ?_
  rw [← idxF_any g1 a0 0 (by omega)] at h
  exact h


end Go.Proofs.Eng
