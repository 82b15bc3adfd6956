/- Printed walks and contracts. -/
import Derived.Test.YtdolhcmhdjmoeaaDoorEddX2
set_option linter.unusedSimpArgs false
set_option linter.unusedVariables false
set_option maxRecDepth 100000
namespace Go.Proofs.Eng
open Go Go.Proofs Go.Sort
-- ratio.Class
def F12 (a0 : Nat) : Option Int :=
  (F18 a0).bind fun x5_1 => if x5_1 = true then (some 6) else ((F21 a0 1).bind fun x9_1 => if x9_1 = true then (some 5) else (if fGt a0 0 = true then (some 4) else ((F21 a0 (-1)).bind fun x17_1 => if x17_1 = true then (some 0) else (if fLt a0 0 = true then (some 1) else ((F22 a0).bind fun x25_1 => if x25_1 = true then (some 2) else (some 3))))))
/-- ballast/ratio.Class -/
theorem c12 (a0 : Nat) (r : Int) (h : F12 a0 = some r) :
    Det Tryd.prog 12 [AV.fl a0] (.ret (AV.int r)) := by
  refine Det.of_le ?_
  refine @calls_of_body Tryd.prog 12 Tryd.f12 _ Tryd.func12 rfl (by kernel_rfl) [.tmp 2] (by rw [Tryd.results12]) 21 Tryd.ntmps12 _ _ _ (by simp only [List.length_cons, List.length_nil]; decide) ?_
  unfold F12 at h
  refine awp_seq fun N1 hN1 => ?_
  refine awp_reg kpNone [] [] [0] (cs := []) (st' := ⟨21, [(0, AV.fl a0)], [], [], []⟩) (by kernel_rfl) trivial ?_
  refine hN1 _ ?_
  refine awp_seq fun N3 hN3 => ?_
  refine awp_block ?_
  refine awp_seq fun N4 hN4 => ?_
  obtain ⟨x5_1, hx5_1, h⟩ := Option.bind_eq_some_iff.1 h
  refine awp_reg kpNone [(1, AV.bool x5_1)] [] [0, 3] (cs := [(Det Tryd.prog 18 [AV.fl a0] (.ret (AV.bool x5_1)))]) (st' := ⟨21, [(0, AV.fl a0), (3, AV.bool x5_1)], [], [], []⟩) (by kernel_rfl) ⟨c18 a0 _ hx5_1, trivial⟩ ?_
  refine hN4 _ ?_
  refine awp_cond (t := x5_1) rfl (fun hb => ?_) (fun hb => ?_)
  · rw [if_pos hb] at h
    refine awp_seq fun N6 hN6 => ?_
    refine awp_reg kpNone [] [] [2] (cs := []) (st' := ⟨21, [(2, AV.int 6)], [], [], []⟩) (by kernel_rfl) trivial ?_
    refine hN6 _ ?_
    have h := Option.some.inj h
    subst h
    exact awp_ret ⟨[AV.int 6], by kernel_rfl, Lw.refl _⟩
  · rw [if_false hb] at h
    refine awp_seq fun N8 hN8 => ?_
    obtain ⟨x9_1, hx9_1, h⟩ := Option.bind_eq_some_iff.1 h
    refine awp_reg kpNone [(1, AV.bool x9_1)] [] [0, 6] (cs := [(Det Tryd.prog 21 [AV.fl a0, AV.int 1] (.ret (AV.bool x9_1)))]) (st' := ⟨21, [(0, AV.fl a0), (6, AV.bool x9_1)], [], [], []⟩) (by kernel_rfl) ⟨c21 a0 1 _ hx9_1, trivial⟩ ?_
    refine hN8 _ ?_
    refine awp_cond (t := x9_1) rfl (fun hb => ?_) (fun hb => ?_)
    · rw [if_pos hb] at h
      refine awp_seq fun N10 hN10 => ?_
      refine awp_reg kpNone [] [] [2] (cs := []) (st' := ⟨21, [(2, AV.int 5)], [], [], []⟩) (by kernel_rfl) trivial ?_
      refine hN10 _ ?_
      have h := Option.some.inj h
      subst h
      exact awp_ret ⟨[AV.int 5], by kernel_rfl, Lw.refl _⟩
    · rw [if_false hb] at h
      refine awp_seq fun N12 hN12 => ?_
      refine awp_reg kpNone [] [] [0, 9] (cs := []) (st' := ⟨21, [(0, AV.fl a0), (9, AV.bool (fGt a0 0))], [], [], []⟩) (by kernel_rfl) trivial ?_
      refine hN12 _ ?_
      refine awp_cond (t := fGt a0 0) rfl (fun hb => ?_) (fun hb => ?_)
      · rw [if_pos hb] at h
        refine awp_seq fun N14 hN14 => ?_
        refine awp_reg kpNone [] [] [2] (cs := []) (st' := ⟨21, [(2, AV.int 4)], [], [], []⟩) (by kernel_rfl) trivial ?_
        refine hN14 _ ?_
        have h := Option.some.inj h
        subst h
        exact awp_ret ⟨[AV.int 4], by kernel_rfl, Lw.refl _⟩
      · rw [if_false hb] at h
        refine awp_seq fun N16 hN16 => ?_
        obtain ⟨x17_1, hx17_1, h⟩ := Option.bind_eq_some_iff.1 h
        refine awp_reg kpNone [(1, AV.bool x17_1)] [] [0, 12] (cs := [(Det Tryd.prog 21 [AV.fl a0, AV.int (-1)] (.ret (AV.bool x17_1)))]) (st' := ⟨21, [(0, AV.fl a0), (12, AV.bool x17_1)], [], [], []⟩) (by kernel_rfl) ⟨c21 a0 (-1) _ hx17_1, trivial⟩ ?_
        refine hN16 _ ?_
        refine awp_cond (t := x17_1) rfl (fun hb => ?_) (fun hb => ?_)
        · rw [if_pos hb] at h
          refine awp_seq fun N18 hN18 => ?_
          refine awp_reg kpNone [] [] [2] (cs := []) (st' := ⟨21, [(2, AV.int 0)], [], [], []⟩) (by kernel_rfl) trivial ?_
          refine hN18 _ ?_
          have h := Option.some.inj h
          subst h
          exact awp_ret ⟨[AV.int 0], by kernel_rfl, Lw.refl _⟩
        · rw [if_false hb] at h
          refine awp_seq fun N20 hN20 => ?_
          refine awp_reg kpNone [] [] [0, 15] (cs := []) (st' := ⟨21, [(0, AV.fl a0), (15, AV.bool (fLt a0 0))], [], [], []⟩) (by kernel_rfl) trivial ?_
          refine hN20 _ ?_
          refine awp_cond (t := fLt a0 0) rfl (fun hb => ?_) (fun hb => ?_)
          · rw [if_pos hb] at h
            refine awp_seq fun N22 hN22 => ?_
            refine awp_reg kpNone [] [] [2] (cs := []) (st' := ⟨21, [(2, AV.int 1)], [], [], []⟩) (by kernel_rfl) trivial ?_
            refine hN22 _ ?_
            have h := Option.some.inj h
            subst h
            exact awp_ret ⟨[AV.int 1], by kernel_rfl, Lw.refl _⟩
          · rw [if_false hb] at h
            refine awp_seq fun N24 hN24 => ?_
            obtain ⟨x25_1, hx25_1, h⟩ := Option.bind_eq_some_iff.1 h
            refine awp_reg kpNone [(1, AV.bool x25_1)] [] [18] (cs := [(Det Tryd.prog 22 [AV.fl a0] (.ret (AV.bool x25_1)))]) (st' := ⟨21, [(18, AV.bool x25_1)], [], [], []⟩) (by kernel_rfl) ⟨c22 a0 _ hx25_1, trivial⟩ ?_
            refine hN24 _ ?_
            refine awp_cond (t := x25_1) rfl (fun hb => ?_) (fun hb => ?_)
            · rw [if_pos hb] at h
              refine awp_seq fun N26 hN26 => ?_
              refine awp_reg kpNone [] [] [2] (cs := []) (st' := ⟨21, [(2, AV.int 2)], [], [], []⟩) (by kernel_rfl) trivial ?_
              refine hN26 _ ?_
              have h := Option.some.inj h
              subst h
              exact awp_ret ⟨[AV.int 2], by kernel_rfl, Lw.refl _⟩
            · rw [if_false hb] at h
              refine awp_skip ?_
              refine hN3 _ ?_
              refine awp_seq fun N28 hN28 => ?_
              refine awp_reg kpNone [] [] [2] (cs := []) (st' := ⟨21, [(2, AV.int 3)], [], [], []⟩) (by kernel_rfl) trivial ?_
              refine hN28 _ ?_
              have h := Option.some.inj h
              subst h
              exact awp_ret ⟨[AV.int 3], by kernel_rfl, Lw.refl _⟩


-- cmp.isNaN[int]
def F26 (a0 : Int) : Option Bool :=
  some (decide (¬ a0 = a0))
/-- cmp.isNaN[int] -/
theorem c26 (a0 : Int) (r : Bool) (h : F26 a0 = some r) :
    Det Tryd.prog 26 [AV.int a0] (.ret (AV.bool r)) := by
  refine Det.of_le ?_
  refine @calls_of_body Tryd.prog 26 Tryd.f26 _ Tryd.func26 rfl (by kernel_rfl) [.tmp 2] (by rw [Tryd.results26]) 6 Tryd.ntmps26 _ _ _ (by simp only [List.length_cons, List.length_nil]; decide) ?_
  unfold F26 at h
  refine awp_seq fun N1 hN1 => ?_
  refine awp_reg kpNone [] [] [0] (cs := []) (st' := ⟨6, [(0, AV.int a0)], [], [], []⟩) (by kernel_rfl) trivial ?_
  refine hN1 _ ?_
  refine awp_seq fun N3 hN3 => ?_
  refine awp_reg kpNone [] [] [2] (cs := []) (st' := ⟨6, [(2, AV.bool (decide (¬ a0 = a0)))], [], [], []⟩) (by kernel_rfl) trivial ?_
  refine hN3 _ ?_
  have h := Option.some.inj h
  subst h
  exact awp_ret ⟨[AV.bool (decide (¬ a0 = a0))], by kernel_rfl, Lw.refl _⟩


-- cmp.Compare[int]
def F17 (a0 : Int) (a1 : Int) : Option Int :=
  (F26 a0).bind fun x4_1 => (F26 a1).bind fun x6_1 => if x4_1 = true then (if x6_1 = true then (some 0) else (some (-1))) else (if x6_1 = true then (some 1) else (if decide (a0 < a1) = true then (some (-1)) else (if decide (a1 < a0) = true then (some 1) else (some 0))))
/-- cmp.Compare[int] -/
theorem c17 (a0 : Int) (a1 : Int) (r : Int) (h : F17 a0 a1 = some r) :
    Det Tryd.prog 17 [AV.int a0, AV.int a1] (.ret (AV.int r)) := by
  refine Det.of_le ?_
  refine @calls_of_body Tryd.prog 17 Tryd.f17 _ Tryd.func17 rfl (by kernel_rfl) [.tmp 4] (by rw [Tryd.results17]) 20 Tryd.ntmps17 _ _ _ (by simp only [List.length_cons, List.length_nil]; decide) ?_
  unfold F17 at h
  refine awp_seq fun N1 hN1 => ?_
  refine awp_reg kpNone [] [] [0, 1] (cs := []) (st' := ⟨20, [(0, AV.int a0), (1, AV.int a1)], [], [], []⟩) (by kernel_rfl) trivial ?_
  refine hN1 _ ?_
  refine awp_seq fun N3 hN3 => ?_
  obtain ⟨x4_1, hx4_1, h⟩ := Option.bind_eq_some_iff.1 h
  refine awp_reg kpNone [(1, AV.bool x4_1)] [] [0, 1, 5] (cs := [(Det Tryd.prog 26 [AV.int a0] (.ret (AV.bool x4_1)))]) (st' := ⟨20, [(0, AV.int a0), (1, AV.int a1), (5, AV.bool x4_1)], [], [], []⟩) (by kernel_rfl) ⟨c26 a0 _ hx4_1, trivial⟩ ?_
  refine hN3 _ ?_
  refine awp_seq fun N5 hN5 => ?_
  obtain ⟨x6_1, hx6_1, h⟩ := Option.bind_eq_some_iff.1 h
  refine awp_reg kpNone [(1, AV.bool x6_1)] [] [0, 1, 5, 6] (cs := [(Det Tryd.prog 26 [AV.int a1] (.ret (AV.bool x6_1)))]) (st' := ⟨20, [(0, AV.int a0), (1, AV.int a1), (5, AV.bool x4_1), (6, AV.bool x6_1)], [], [], []⟩) (by kernel_rfl) ⟨c26 a1 _ hx6_1, trivial⟩ ?_
  refine hN5 _ ?_
  refine awp_seq fun N7 hN7 => ?_
  refine awp_seq fun N8 hN8 => ?_
  refine awp_reg kpNone [] [] [0, 1, 6, 11] (cs := []) (st' := ⟨20, [(0, AV.int a0), (1, AV.int a1), (6, AV.bool x6_1), (11, AV.bool x4_1)], [], [], []⟩) (by kernel_rfl) trivial ?_
  refine hN8 _ ?_
  refine awp_cond (t := x4_1) rfl (fun hb => ?_) (fun hb => ?_)
  · rw [if_pos hb] at h
    refine awp_seq fun N10 hN10 => ?_
    refine awp_seq fun N11 hN11 => ?_
    refine awp_reg kpNone [] [] [12] (cs := []) (st' := ⟨20, [(12, AV.bool x6_1)], [], [], []⟩) (by kernel_rfl) trivial ?_
    refine hN11 _ ?_
    refine awp_cond (t := x6_1) rfl (fun hb => ?_) (fun hb => ?_)
    · rw [if_pos hb] at h
      refine awp_seq fun N13 hN13 => ?_
      refine awp_reg kpNone [] [] [4] (cs := []) (st' := ⟨20, [(4, AV.int 0)], [], [], []⟩) (by kernel_rfl) trivial ?_
      refine hN13 _ ?_
      have h := Option.some.inj h
      subst h
      exact awp_ret ⟨[AV.int 0], by kernel_rfl, Lw.refl _⟩
    · rw [if_false hb] at h
      refine awp_skip ?_
      refine hN10 _ ?_
      refine awp_seq fun N15 hN15 => ?_
      refine awp_reg kpNone [] [] [4] (cs := []) (st' := ⟨20, [(4, AV.int (-1))], [], [], []⟩) (by kernel_rfl) trivial ?_
      refine hN15 _ ?_
      have h := Option.some.inj h
      subst h
      exact awp_ret ⟨[AV.int (-1)], by kernel_rfl, Lw.refl _⟩
  · rw [if_false hb] at h
    refine awp_skip ?_
    refine hN7 _ ?_
    refine awp_seq fun N17 hN17 => ?_
    refine awp_seq fun N18 hN18 => ?_
    refine awp_reg kpNone [] [] [0, 1, 13] (cs := []) (st' := ⟨20, [(0, AV.int a0), (1, AV.int a1), (13, AV.bool x6_1)], [], [], []⟩) (by kernel_rfl) trivial ?_
    refine hN18 _ ?_
    refine awp_cond (t := x6_1) rfl (fun hb => ?_) (fun hb => ?_)
    · rw [if_pos hb] at h
      refine awp_seq fun N20 hN20 => ?_
      refine awp_reg kpNone [] [] [4] (cs := []) (st' := ⟨20, [(4, AV.int 1)], [], [], []⟩) (by kernel_rfl) trivial ?_
      refine hN20 _ ?_
      have h := Option.some.inj h
      subst h
      exact awp_ret ⟨[AV.int 1], by kernel_rfl, Lw.refl _⟩
    · rw [if_false hb] at h
      refine awp_skip ?_
      refine hN17 _ ?_
      refine awp_seq fun N22 hN22 => ?_
      refine awp_seq fun N23 hN23 => ?_
      refine awp_reg kpNone [] [] [0, 1, 16] (cs := []) (st' := ⟨20, [(0, AV.int a0), (1, AV.int a1), (16, AV.bool (decide (a0 < a1)))], [], [], []⟩) (by kernel_rfl) trivial ?_
      refine hN23 _ ?_
      refine awp_cond (t := decide (a0 < a1)) rfl (fun hb => ?_) (fun hb => ?_)
      · rw [if_pos hb] at h
        refine awp_seq fun N25 hN25 => ?_
        refine awp_reg kpNone [] [] [4] (cs := []) (st' := ⟨20, [(4, AV.int (-1))], [], [], []⟩) (by kernel_rfl) trivial ?_
        refine hN25 _ ?_
        have h := Option.some.inj h
        subst h
        exact awp_ret ⟨[AV.int (-1)], by kernel_rfl, Lw.refl _⟩
      · rw [if_false hb] at h
        refine awp_skip ?_
        refine hN22 _ ?_
        refine awp_seq fun N27 hN27 => ?_
        refine awp_seq fun N28 hN28 => ?_
        refine awp_reg kpNone [] [] [19] (cs := []) (st' := ⟨20, [(19, AV.bool (decide (a1 < a0)))], [], [], []⟩) (by kernel_rfl) trivial ?_
        refine hN28 _ ?_
        refine awp_cond (t := decide (a1 < a0)) rfl (fun hb => ?_) (fun hb => ?_)
        · rw [if_pos hb] at h
          refine awp_seq fun N30 hN30 => ?_
          refine awp_reg kpNone [] [] [4] (cs := []) (st' := ⟨20, [(4, AV.int 1)], [], [], []⟩) (by kernel_rfl) trivial ?_
          refine hN30 _ ?_
          have h := Option.some.inj h
          subst h
          exact awp_ret ⟨[AV.int 1], by kernel_rfl, Lw.refl _⟩
        · rw [if_false hb] at h
          refine awp_skip ?_
          refine hN27 _ ?_
          refine awp_seq fun N32 hN32 => ?_
          refine awp_reg kpNone [] [] [4] (cs := []) (st' := ⟨20, [(4, AV.int 0)], [], [], []⟩) (by kernel_rfl) trivial ?_
          refine hN32 _ ?_
          have h := Option.some.inj h
          subst h
          exact awp_ret ⟨[AV.int 0], by kernel_rfl, Lw.refl _⟩


-- cmp.isNaN[float64]
def F27 (a0 : Nat) : Option Bool :=
  some (!fEq a0 a0)
/-- cmp.isNaN[float64] -/
theorem c27 (a0 : Nat) (r : Bool) (h : F27 a0 = some r) :
    Det Tryd.prog 27 [AV.fl a0] (.ret (AV.bool r)) := by
  refine Det.of_le ?_
  refine @calls_of_body Tryd.prog 27 Tryd.f27 _ Tryd.func27 rfl (by kernel_rfl) [.tmp 2] (by rw [Tryd.results27]) 6 Tryd.ntmps27 _ _ _ (by simp only [List.length_cons, List.length_nil]; decide) ?_
  unfold F27 at h
  refine awp_seq fun N1 hN1 => ?_
  refine awp_reg kpNone [] [] [0] (cs := []) (st' := ⟨6, [(0, AV.fl a0)], [], [], []⟩) (by kernel_rfl) trivial ?_
  refine hN1 _ ?_
  refine awp_seq fun N3 hN3 => ?_
  refine awp_reg kpNone [] [] [2] (cs := []) (st' := ⟨6, [(2, AV.bool (!fEq a0 a0))], [], [], []⟩) (by kernel_rfl) trivial ?_
  refine hN3 _ ?_
  have h := Option.some.inj h
  subst h
  exact awp_ret ⟨[AV.bool (!fEq a0 a0)], by kernel_rfl, Lw.refl _⟩


-- cmp.Compare[float64]
def F19 (a0 : Nat) (a1 : Nat) : Option Int :=
  (F27 a0).bind fun x4_1 => (F27 a1).bind fun x6_1 => if x4_1 = true then (if x6_1 = true then (some 0) else (some (-1))) else (if x6_1 = true then (some 1) else (if fLt a0 a1 = true then (some (-1)) else (if fGt a0 a1 = true then (some 1) else (some 0))))
/-- cmp.Compare[float64] -/
theorem c19 (a0 : Nat) (a1 : Nat) (r : Int) (h : F19 a0 a1 = some r) :
    Det Tryd.prog 19 [AV.fl a0, AV.fl a1] (.ret (AV.int r)) := by
  refine Det.of_le ?_
  refine @calls_of_body Tryd.prog 19 Tryd.f19 _ Tryd.func19 rfl (by kernel_rfl) [.tmp 4] (by rw [Tryd.results19]) 20 Tryd.ntmps19 _ _ _ (by simp only [List.length_cons, List.length_nil]; decide) ?_
  unfold F19 at h
  refine awp_seq fun N1 hN1 => ?_
  refine awp_reg kpNone [] [] [0, 1] (cs := []) (st' := ⟨20, [(0, AV.fl a0), (1, AV.fl a1)], [], [], []⟩) (by kernel_rfl) trivial ?_
  refine hN1 _ ?_
  refine awp_seq fun N3 hN3 => ?_
  obtain ⟨x4_1, hx4_1, h⟩ := Option.bind_eq_some_iff.1 h
  refine awp_reg kpNone [(1, AV.bool x4_1)] [] [0, 1, 5] (cs := [(Det Tryd.prog 27 [AV.fl a0] (.ret (AV.bool x4_1)))]) (st' := ⟨20, [(0, AV.fl a0), (1, AV.fl a1), (5, AV.bool x4_1)], [], [], []⟩) (by kernel_rfl) ⟨c27 a0 _ hx4_1, trivial⟩ ?_
  refine hN3 _ ?_
  refine awp_seq fun N5 hN5 => ?_
  obtain ⟨x6_1, hx6_1, h⟩ := Option.bind_eq_some_iff.1 h
  refine awp_reg kpNone [(1, AV.bool x6_1)] [] [0, 1, 5, 6] (cs := [(Det Tryd.prog 27 [AV.fl a1] (.ret (AV.bool x6_1)))]) (st' := ⟨20, [(0, AV.fl a0), (1, AV.fl a1), (5, AV.bool x4_1), (6, AV.bool x6_1)], [], [], []⟩) (by kernel_rfl) ⟨c27 a1 _ hx6_1, trivial⟩ ?_
  refine hN5 _ ?_
  refine awp_seq fun N7 hN7 => ?_
  refine awp_seq fun N8 hN8 => ?_
  refine awp_reg kpNone [] [] [0, 1, 6, 11] (cs := []) (st' := ⟨20, [(0, AV.fl a0), (1, AV.fl a1), (6, AV.bool x6_1), (11, AV.bool x4_1)], [], [], []⟩) (by kernel_rfl) trivial ?_
  refine hN8 _ ?_
  refine awp_cond (t := x4_1) rfl (fun hb => ?_) (fun hb => ?_)
  · rw [if_pos hb] at h
    refine awp_seq fun N10 hN10 => ?_
    refine awp_seq fun N11 hN11 => ?_
    refine awp_reg kpNone [] [] [12] (cs := []) (st' := ⟨20, [(12, AV.bool x6_1)], [], [], []⟩) (by kernel_rfl) trivial ?_
    refine hN11 _ ?_
    refine awp_cond (t := x6_1) rfl (fun hb => ?_) (fun hb => ?_)
    · rw [if_pos hb] at h
      refine awp_seq fun N13 hN13 => ?_
      refine awp_reg kpNone [] [] [4] (cs := []) (st' := ⟨20, [(4, AV.int 0)], [], [], []⟩) (by kernel_rfl) trivial ?_
      refine hN13 _ ?_
      have h := Option.some.inj h
      subst h
      exact awp_ret ⟨[AV.int 0], by kernel_rfl, Lw.refl _⟩
    · rw [if_false hb] at h
      refine awp_skip ?_
      refine hN10 _ ?_
      refine awp_seq fun N15 hN15 => ?_
      refine awp_reg kpNone [] [] [4] (cs := []) (st' := ⟨20, [(4, AV.int (-1))], [], [], []⟩) (by kernel_rfl) trivial ?_
      refine hN15 _ ?_
      have h := Option.some.inj h
      subst h
      exact awp_ret ⟨[AV.int (-1)], by kernel_rfl, Lw.refl _⟩
  · rw [if_false hb] at h
    refine awp_skip ?_
    refine hN7 _ ?_
    refine awp_seq fun N17 hN17 => ?_
    refine awp_seq fun N18 hN18 => ?_
    refine awp_reg kpNone [] [] [0, 1, 13] (cs := []) (st' := ⟨20, [(0, AV.fl a0), (1, AV.fl a1), (13, AV.bool x6_1)], [], [], []⟩) (by kernel_rfl) trivial ?_
    refine hN18 _ ?_
    refine awp_cond (t := x6_1) rfl (fun hb => ?_) (fun hb => ?_)
    · rw [if_pos hb] at h
      refine awp_seq fun N20 hN20 => ?_
      refine awp_reg kpNone [] [] [4] (cs := []) (st' := ⟨20, [(4, AV.int 1)], [], [], []⟩) (by kernel_rfl) trivial ?_
      refine hN20 _ ?_
      have h := Option.some.inj h
      subst h
      exact awp_ret ⟨[AV.int 1], by kernel_rfl, Lw.refl _⟩
    · rw [if_false hb] at h
      refine awp_skip ?_
      refine hN17 _ ?_
      refine awp_seq fun N22 hN22 => ?_
      refine awp_seq fun N23 hN23 => ?_
      refine awp_reg kpNone [] [] [0, 1, 16] (cs := []) (st' := ⟨20, [(0, AV.fl a0), (1, AV.fl a1), (16, AV.bool (fLt a0 a1))], [], [], []⟩) (by kernel_rfl) trivial ?_
      refine hN23 _ ?_
      refine awp_cond (t := fLt a0 a1) rfl (fun hb => ?_) (fun hb => ?_)
      · rw [if_pos hb] at h
        refine awp_seq fun N25 hN25 => ?_
        refine awp_reg kpNone [] [] [4] (cs := []) (st' := ⟨20, [(4, AV.int (-1))], [], [], []⟩) (by kernel_rfl) trivial ?_
        refine hN25 _ ?_
        have h := Option.some.inj h
        subst h
        exact awp_ret ⟨[AV.int (-1)], by kernel_rfl, Lw.refl _⟩
      · rw [if_false hb] at h
        refine awp_skip ?_
        refine hN22 _ ?_
        refine awp_seq fun N27 hN27 => ?_
        refine awp_seq fun N28 hN28 => ?_
        refine awp_reg kpNone [] [] [19] (cs := []) (st' := ⟨20, [(19, AV.bool (fGt a0 a1))], [], [], []⟩) (by kernel_rfl) trivial ?_
        refine hN28 _ ?_
        refine awp_cond (t := fGt a0 a1) rfl (fun hb => ?_) (fun hb => ?_)
        · rw [if_pos hb] at h
          refine awp_seq fun N30 hN30 => ?_
          refine awp_reg kpNone [] [] [4] (cs := []) (st' := ⟨20, [(4, AV.int 1)], [], [], []⟩) (by kernel_rfl) trivial ?_
          refine hN30 _ ?_
          have h := Option.some.inj h
          subst h
          exact awp_ret ⟨[AV.int 1], by kernel_rfl, Lw.refl _⟩
        · rw [if_false hb] at h
          refine awp_skip ?_
          refine hN27 _ ?_
          refine awp_seq fun N32 hN32 => ?_
          refine awp_reg kpNone [] [] [4] (cs := []) (st' := ⟨20, [(4, AV.int 0)], [], [], []⟩) (by kernel_rfl) trivial ?_
          refine hN32 _ ?_
          have h := Option.some.inj h
          subst h
          exact awp_ret ⟨[AV.int 0], by kernel_rfl, Lw.refl _⟩


-- ratio.Compare
def F9.j9 (x5_4 : Int) (a0 : Nat) (a1 : Nat) : (Bool) → Option Int := fun p9 =>
  if p9 = true then (some x5_4) else ((F19 a0 a1).bind fun x13_2 => some x13_2)
def F9 (a0 : Nat) (a1 : Nat) : Option Int :=
  (F12 a0).bind fun x5_1 => (F12 a1).bind fun x5_3 => (F17 x5_1 x5_3).bind fun x5_4 => if decide (¬ x5_4 = (0 : Int)) = true then (F9.j9 x5_4 a0 a1 true) else ((F18 a0).bind fun x7_4 => F9.j9 x5_4 a0 a1 x7_4)
/-- ballast/ratio.Compare -/
theorem c9 (a0 : Nat) (a1 : Nat) (r : Int) (h : F9 a0 a1 = some r) :
    Det Tryd.prog 9 [AV.fl a0, AV.fl a1] (.ret (AV.int r)) := by
  refine Det.of_le ?_
  refine @calls_of_body Tryd.prog 9 Tryd.f9 _ Tryd.func9 rfl (by kernel_rfl) [.tmp 4] (by rw [Tryd.results9]) 21 Tryd.ntmps9 _ _ _ (by simp only [List.length_cons, List.length_nil]; decide) ?_
  unfold F9 at h
  refine awp_seq fun N1 hN1 => ?_
  refine awp_reg kpNone [] [] [0, 1] (cs := []) (st' := ⟨21, [(0, AV.fl a0), (1, AV.fl a1)], [], [], []⟩) (by kernel_rfl) trivial ?_
  refine hN1 _ ?_
  refine awp_seq fun N3 hN3 => ?_
  refine awp_seq fun N4 hN4 => ?_
  obtain ⟨x5_1, hx5_1, h⟩ := Option.bind_eq_some_iff.1 h
  obtain ⟨x5_3, hx5_3, h⟩ := Option.bind_eq_some_iff.1 h
  obtain ⟨x5_4, hx5_4, h⟩ := Option.bind_eq_some_iff.1 h
  refine awp_reg kpNone [(1, AV.int x5_1), (3, AV.int x5_3), (4, AV.int x5_4)] [] [0, 1, 5] (cs := [(Det Tryd.prog 12 [AV.fl a0] (.ret (AV.int x5_1))), (Det Tryd.prog 12 [AV.fl a1] (.ret (AV.int x5_3))), (Det Tryd.prog 17 [AV.int x5_1, AV.int x5_3] (.ret (AV.int x5_4)))]) (st' := ⟨21, [(0, AV.fl a0), (1, AV.fl a1), (5, AV.int x5_4)], [], [], []⟩) (by kernel_rfl) ⟨c12 a0 _ hx5_1, c12 a1 _ hx5_3, c17 x5_1 x5_3 _ hx5_4, trivial⟩ ?_
  refine hN4 _ ?_
  refine awp_seq fun N6 hN6 => ?_
  refine awp_to (σ := Bool) (fun p9 => ⟨21, [(0, AV.fl a0), (1, AV.fl a1), (5, AV.int x5_4), (16, AV.bool p9)], [], [], []⟩) (fun p9 => F9.j9 x5_4 a0 a1 p9 = some r) (fun p9 h => ?_) (fun N9 hJ9 => ?_)
  · unfold F9.j9 at h
    refine hN6 _ ?_
    refine awp_cond (t := p9) rfl (fun hb => ?_) (fun hb => ?_)
    · rw [if_pos hb] at h
      refine awp_seq fun N10 hN10 => ?_
      refine awp_reg kpNone [] [] [4] (cs := []) (st' := ⟨21, [(4, AV.int x5_4)], [], [], []⟩) (by kernel_rfl) trivial ?_
      refine hN10 _ ?_
      have h := Option.some.inj h
      subst h
      exact awp_ret ⟨[AV.int x5_4], by kernel_rfl, Lw.refl _⟩
    · rw [if_false hb] at h
      refine awp_skip ?_
      refine hN3 _ ?_
      refine awp_seq fun N12 hN12 => ?_
      obtain ⟨x13_2, hx13_2, h⟩ := Option.bind_eq_some_iff.1 h
      refine awp_reg kpNone [(2, AV.int x13_2)] [] [4] (cs := [(Det Tryd.prog 19 [AV.fl a0, AV.fl a1] (.ret (AV.int x13_2)))]) (st' := ⟨21, [(4, AV.int x13_2)], [], [], []⟩) (by kernel_rfl) ⟨c19 a0 a1 _ hx13_2, trivial⟩ ?_
      refine hN12 _ ?_
      have h := Option.some.inj h
      subst h
      exact awp_ret ⟨[AV.int x13_2], by kernel_rfl, Lw.refl _⟩
  · by_cases hg8 : decide (¬ x5_4 = (0 : Int)) = true
    · rw [if_pos hg8] at h
      refine awp_reg kpNone [] [(2, true)] [0, 1, 5, 16] (cs := [(decide (¬ x5_4 = (0 : Int)) = true)]) (st' := ⟨21, [(0, AV.fl a0), (1, AV.fl a1), (5, AV.int x5_4), (16, AV.bool true)], [], [], []⟩) (by kernel_rfl) ⟨hg8, trivial⟩ ?_
      exact hJ9 true _ h (Le.rfl')
    · rw [if_neg hg8] at h
      have hg8 := Bool.eq_false_iff.2 hg8
      obtain ⟨x7_4, hx7_4, h⟩ := Option.bind_eq_some_iff.1 h
      refine awp_reg kpNone [(4, AV.bool x7_4)] [(2, false)] [0, 1, 5, 16] (cs := [(decide (¬ x5_4 = (0 : Int)) = false), (Det Tryd.prog 18 [AV.fl a0] (.ret (AV.bool x7_4)))]) (st' := ⟨21, [(0, AV.fl a0), (1, AV.fl a1), (5, AV.int x5_4), (16, AV.bool x7_4)], [], [], []⟩) (by kernel_rfl) ⟨hg8, c18 a0 _ hx7_4, trivial⟩ ?_
      exact hJ9 x7_4 _ h (Le.rfl')


-- level.Of$1
def F15 (a0 : Nat) (a1 : Marks) : Option Bool :=
  (F9 a0 a1.High).bind fun x4_3 => some (decide ((0 : Int) < x4_3))
/-- ballast/level.Of$1 -/
theorem c15 (a0 : Nat) (a1 : Marks) (r : Bool) (h : F15 a0 a1 = some r) :
    Det Tryd.prog 15 [AV.fl a0, .inp [AV.fl a1.Low, AV.fl a1.High]] (.ret (AV.bool r)) := by
  refine Det.of_le ?_
  refine @calls_of_body Tryd.prog 15 Tryd.f15 _ Tryd.func15 rfl (by kernel_rfl) [.tmp 3] (by rw [Tryd.results15]) 9 Tryd.ntmps15 _ _ _ (by simp only [List.length_cons, List.length_nil]; decide) ?_
  unfold F15 at h
  refine awp_seq fun N1 hN1 => ?_
  refine awp_reg kpNone [] [] [0, 1] (cs := []) (st' := ⟨9, [(0, AV.fl a0), (1, .inp [AV.fl a1.Low, AV.fl a1.High])], [], [], []⟩) (by kernel_rfl) trivial ?_
  refine hN1 _ ?_
  refine awp_seq fun N3 hN3 => ?_
  obtain ⟨x4_3, hx4_3, h⟩ := Option.bind_eq_some_iff.1 h
  refine awp_reg kpNone [(3, AV.int x4_3)] [] [3] (cs := [(Det Tryd.prog 9 [AV.fl a0, AV.fl a1.High] (.ret (AV.int x4_3)))]) (st' := ⟨9, [(3, AV.bool (decide ((0 : Int) < x4_3)))], [], [], []⟩) (by kernel_rfl) ⟨c9 a0 a1.High _ hx4_3, trivial⟩ ?_
  refine hN3 _ ?_
  have h := Option.some.inj h
  subst h
  exact awp_ret ⟨[AV.bool (decide ((0 : Int) < x4_3))], by kernel_rfl, Lw.refl _⟩


-- slices.IndexFunc[[]float64,float64]
def F25.l6 (a0 : (List Nat)) (g1 : Nat → Option Bool) (rec6 : (Int) → Option Int) : (Int) → Option Int := fun p6 =>
  if decide (p6 < (List.length a0 : Int)) = true then ((getI a0 p6).bind fun x14_3 => (g1 x14_3).bind fun x14_5 => if x14_5 = true then (some p6) else (rec6 (w64 (p6 + (1 : Int))))) else (some (-1))
def F25 (l6 : (Int) → Option Int) (a0 : (List Nat)) (g1 : Nat → Option Bool) : Option Int :=
  l6 0
/-- slices.IndexFunc[[]float64,float64] -/
theorem c25 (a0 : (List Nat)) (g1 : Nat → Option Bool) (gf1 : FuncId) (gc1 : List AV) (hc1 : List.map AV.cl0 gc1 = gc1) (hg1 : ∀ (y0 : Nat) (r : Bool), g1 y0 = some r → Det Tryd.prog gf1 ((AV.fl y0) :: List.map AV.cl gc1) (.ret (AV.bool r))) (l6 : (Int) → Option Int) (hl6 : Rounds (F25.l6 a0 g1) (l6)) (r : Int) (h : F25 l6 a0 g1 = some r) :
    Det Tryd.prog 25 [AV.lst 1 AV.fl a0, .func gf1 gc1] (.ret (AV.int r)) := by
  refine Det.of_le ?_
  refine @calls_of_body Tryd.prog 25 Tryd.f25 _ Tryd.func25 rfl (by kernel_rfl) [.tmp 4] (by rw [Tryd.results25]) 19 Tryd.ntmps25 _ _ _ (by simp only [List.length_cons, List.length_nil]; decide) ?_
  unfold F25 at h
  refine awp_seq fun N1 hN1 => ?_
  refine awp_reg kpNone [] [] [0, 1] (cs := []) (st' := ⟨19, [(0, AV.lst 1 AV.fl a0), (1, .func gf1 gc1)], [], [], []⟩) (by kernel_rfl) trivial ?_
  refine hN1 _ ?_
  refine awp_seq fun N3 hN3 => ?_
  refine awp_seq fun N4 hN4 => ?_
  refine awp_reg kpNone [(1, AV.int (List.length a0 : Int))] [] [0, 1, 7, 8] (cs := [((AV.int (List.length a0 : Int) = .val (.int .i64 (List.length (List.map AV.fl a0) : Int))))]) (st' := ⟨19, [(0, AV.lst 1 AV.fl a0), (1, .func gf1 gc1), (7, AV.int (List.length a0 : Int)), (8, AV.int 0)], [], [], []⟩) (by kernel_rfl) ⟨len_map _ _, trivial⟩ ?_
  refine hN4 _ ?_
  refine awp_block ?_
  refine awp_loop ?_
  refine awpL_le (st' := ⟨19, [(0, AV.lst 1 AV.fl a0), (1, .func gf1 gc1), (7, AV.int (List.length a0 : Int)), (8, AV.int 0)], [], [], []⟩) ?_ ?_
  · exact Le.rfl'
  refine awpL_fix hl6 r (fun p6 => ⟨19, [(0, AV.lst 1 AV.fl a0), (1, .func gf1 gc1), (7, AV.int (List.length a0 : Int)), (8, AV.int p6)], [], [], []⟩) (fun rec6 hrec6 p6 h => ?_) 0 h
  unfold F25.l6 at h
  refine awpL_round ?_
  refine awp_seq fun N7 hN7 => ?_
  refine awp_reg kpNone [] [] [0, 1, 7, 8, 9] (cs := []) (st' := ⟨19, [(0, AV.lst 1 AV.fl a0), (1, .func gf1 gc1), (7, AV.int (List.length a0 : Int)), (8, AV.int p6), (9, AV.bool (decide (p6 < (List.length a0 : Int))))], [], [], []⟩) (by kernel_rfl) trivial ?_
  refine hN7 _ ?_
  refine awp_seq fun N9 hN9 => ?_
  refine awp_cond (t := decide (p6 < (List.length a0 : Int))) rfl (fun hb => ?_) (fun hb => ?_)
  · rw [if_pos hb] at h
    refine awp_skip ?_
    refine hN9 _ ?_
    refine awp_seq fun N10 hN10 => ?_
    refine awp_block ?_
    refine awp_seq fun N11 hN11 => ?_
    refine awp_reg kpNone [] [] [0, 1, 5, 7, 8] (cs := []) (st' := ⟨19, [(0, AV.lst 1 AV.fl a0), (1, .func gf1 gc1), (5, AV.int p6), (7, AV.int (List.length a0 : Int)), (8, AV.int p6)], [], [], []⟩) (by kernel_rfl) trivial ?_
    refine hN11 _ ?_
    refine awp_seq fun N13 hN13 => ?_
    obtain ⟨x14_3, hx14_3, h⟩ := Option.bind_eq_some_iff.1 h
    obtain ⟨x14_5, hx14_5, h⟩ := Option.bind_eq_some_iff.1 h
    refine awp_reg kpNone [(3, AV.fl x14_3), (5, AV.bool x14_5)] [] [0, 1, 5, 7, 8, 16] (cs := [(0 ≤ p6), ((List.map AV.fl a0)[Int.toNat p6]? = some (AV.fl x14_3)), (Det Tryd.prog gf1 ((AV.fl x14_3) :: List.map AV.cl gc1) (.ret (AV.bool x14_5)))]) (st' := ⟨19, [(0, AV.lst 1 AV.fl a0), (1, .func gf1 gc1), (5, AV.int p6), (7, AV.int (List.length a0 : Int)), (8, AV.int p6), (16, AV.bool x14_5)], [], [], []⟩) (by kernel_rfl) ⟨getI_le hx14_3, getI_map hx14_3 _, hg1 x14_3 _ hx14_5, trivial⟩ ?_
    refine hN13 _ ?_
    refine awp_cond (t := x14_5) rfl (fun hb => ?_) (fun hb => ?_)
    · rw [if_pos hb] at h
      refine awp_seq fun N15 hN15 => ?_
      refine awp_reg kpNone [] [] [4] (cs := []) (st' := ⟨19, [(4, AV.int p6)], [], [], []⟩) (by kernel_rfl) trivial ?_
      refine hN15 _ ?_
      have h := Option.some.inj h
      subst h
      exact awp_ret ⟨[AV.int p6], by kernel_rfl, Lw.refl _⟩
    · rw [if_false hb] at h
      refine awp_skip ?_
      refine hN10 _ ?_
      refine awp_reg kpNone [] [] [0, 1, 7, 8] (cs := []) (st' := ⟨19, [(0, AV.lst 1 AV.fl a0), (1, .func gf1 gc1), (7, AV.int (List.length a0 : Int)), (8, AV.int (w64 (p6 + (1 : Int))))], [], [], []⟩) (by kernel_rfl) trivial ?_
      refine awpL_le ?_ (hrec6 _ h)
      exact Le.rfl'
  · rw [if_false hb] at h
    refine awp_exit ?_
    refine hN3 _ ?_
    refine awp_seq fun N18 hN18 => ?_
    refine awp_reg kpNone [] [] [4] (cs := []) (st' := ⟨19, [(4, AV.int (-1))], [], [], []⟩) (by kernel_rfl) trivial ?_
    refine hN18 _ ?_
    have h := Option.some.inj h
    subst h
    exact awp_ret ⟨[AV.int (-1)], by kernel_rfl, Lw.refl _⟩
def A25.l6 (a0 : (List Nat)) (g1 : Nat → Option Bool) : (Int) → Option Int := iterL (F25.l6 a0 g1) 4096
def A25 (a0 : (List Nat)) (g1 : Nat → Option Bool) : Option Int := F25 (A25.l6 a0 g1) a0 g1
theorem d25 (a0 : (List Nat)) (g1 : Nat → Option Bool) (gf1 : FuncId) (gc1 : List AV) (hc1 : List.map AV.cl0 gc1 = gc1) (hg1 : ∀ (y0 : Nat) (r : Bool), g1 y0 = some r → Det Tryd.prog gf1 ((AV.fl y0) :: List.map AV.cl gc1) (.ret (AV.bool r))) (r : Int) (h : A25 a0 g1 = some r) :
    Det Tryd.prog 25 [AV.lst 1 AV.fl a0, .func gf1 gc1] (.ret (AV.int r)) := by
  exact c25 a0 g1 gf1 gc1 hc1 hg1 (A25.l6 a0 g1) (rounds_iter _ _) r h


-- slices.ContainsFunc[[]float64,float64]
def F14 (a0 : (List Nat)) (g1 : Nat → Option Bool) : Option Bool :=
  (A25 a0 g1).bind fun x4_2 => some (decide ((0 : Int) ≤ x4_2))
/-- slices.ContainsFunc[[]float64,float64] -/
theorem c14 (a0 : (List Nat)) (g1 : Nat → Option Bool) (gf1 : FuncId) (gc1 : List AV) (hc1 : List.map AV.cl0 gc1 = gc1) (hg1 : ∀ (y0 : Nat) (r : Bool), g1 y0 = some r → Det Tryd.prog gf1 ((AV.fl y0) :: List.map AV.cl gc1) (.ret (AV.bool r))) (r : Bool) (h : F14 a0 g1 = some r) :
    Det Tryd.prog 14 [AV.lst 1 AV.fl a0, .func gf1 gc1] (.ret (AV.bool r)) := by
  refine Det.of_le ?_
  refine @calls_of_body Tryd.prog 14 Tryd.f14 _ Tryd.func14 rfl (by kernel_rfl) [.tmp 4] (by rw [Tryd.results14]) 9 Tryd.ntmps14 _ _ _ (by simp only [List.length_cons, List.length_nil]; decide) ?_
  unfold F14 at h
  refine awp_seq fun N1 hN1 => ?_
  refine awp_reg kpNone [] [] [0, 1] (cs := []) (st' := ⟨9, [(0, AV.lst 1 AV.fl a0), (1, .func gf1 gc1)], [], [], []⟩) (by kernel_rfl) trivial ?_
  refine hN1 _ ?_
  refine awp_seq fun N3 hN3 => ?_
  obtain ⟨x4_2, hx4_2, h⟩ := Option.bind_eq_some_iff.1 h
  refine awp_reg kpNone [(2, AV.int x4_2)] [] [4] (cs := [(Det Tryd.prog 25 [AV.lst 1 AV.fl a0, .func gf1 (List.map AV.cl0 gc1)] (.ret (AV.int x4_2)))]) (st' := ⟨9, [(4, AV.bool (decide ((0 : Int) ≤ x4_2)))], [], [], []⟩) (by kernel_rfl) ⟨by rw [hc1]; exact (d25 a0 g1 gf1 gc1 hc1 hg1 _ hx4_2), trivial⟩ ?_
  refine hN3 _ ?_
  have h := Option.some.inj h
  subst h
  exact awp_ret ⟨[AV.bool (decide ((0 : Int) ≤ x4_2))], by kernel_rfl, Lw.refl _⟩


-- level.Of$2
def F16 (a0 : Nat) (a1 : Marks) : Option Bool :=
  (F9 a0 a1.Low).bind fun x4_3 => some (decide ((0 : Int) ≤ x4_3))
/-- ballast/level.Of$2 -/
theorem c16 (a0 : Nat) (a1 : Marks) (r : Bool) (h : F16 a0 a1 = some r) :
    Det Tryd.prog 16 [AV.fl a0, .inp [AV.fl a1.Low, AV.fl a1.High]] (.ret (AV.bool r)) := by
  refine Det.of_le ?_
  refine @calls_of_body Tryd.prog 16 Tryd.f16 _ Tryd.func16 rfl (by kernel_rfl) [.tmp 3] (by rw [Tryd.results16]) 9 Tryd.ntmps16 _ _ _ (by simp only [List.length_cons, List.length_nil]; decide) ?_
  unfold F16 at h
  refine awp_seq fun N1 hN1 => ?_
  refine awp_reg kpNone [] [] [0, 1] (cs := []) (st' := ⟨9, [(0, AV.fl a0), (1, .inp [AV.fl a1.Low, AV.fl a1.High])], [], [], []⟩) (by kernel_rfl) trivial ?_
  refine hN1 _ ?_
  refine awp_seq fun N3 hN3 => ?_
  obtain ⟨x4_3, hx4_3, h⟩ := Option.bind_eq_some_iff.1 h
  refine awp_reg kpNone [(3, AV.int x4_3)] [] [3] (cs := [(Det Tryd.prog 9 [AV.fl a0, AV.fl a1.Low] (.ret (AV.int x4_3)))]) (st' := ⟨9, [(3, AV.bool (decide ((0 : Int) ≤ x4_3)))], [], [], []⟩) (by kernel_rfl) ⟨c9 a0 a1.Low _ hx4_3, trivial⟩ ?_
  refine hN3 _ ?_
  have h := Option.some.inj h
  subst h
  exact awp_ret ⟨[AV.bool (decide ((0 : Int) ≤ x4_3))], by kernel_rfl, Lw.refl _⟩


-- level.Of
def F7.j13  : (Bool) → Option Int := fun p13 =>
  if p13 = true then (some 1) else (some 0)
def F7 (a0 : State) (a1 : Str) (a2 : Marks) : Option Int :=
  (A13 a0 a1).bind fun x4_2 => (F14 x4_2 (fun y0 => F15 y0 a2)).bind fun x7_2 => if x7_2 = true then (some 2) else (if decide ((List.length x4_2 : Int) = (0 : Int)) = true then (F7.j13 true) else ((F14 x4_2 (fun y0 => F16 y0 a2)).bind fun x11_6 => F7.j13 x11_6))
/-- ballast/level.Of -/
theorem c7 (a0 : State) (a1 : Str) (a2 : Marks) (r : Int) (h : F7 a0 a1 a2 = some r) :
    Det Tryd.prog 7 [State.av a0, AV.str a1, Marks.av a2] (.ret (AV.int r)) := by
  refine Det.of_le ?_
  refine @calls_of_body Tryd.prog 7 Tryd.f7 _ Tryd.func7 rfl (by kernel_rfl) [.tmp 6] (by rw [Tryd.results7]) 24 Tryd.ntmps7 _ _ _ (by simp only [List.length_cons, List.length_nil]; decide) ?_
  unfold F7 at h
  refine awp_seq fun N1 hN1 => ?_
  refine awp_reg kpNone [] [] [1, 3, 5] (cs := []) (st' := ⟨24, [(1, AV.str a1), (3, .varp 3 0), (5, .varp 5 0)], [(5, (false, [AV.fl a2.Low, AV.fl a2.High])), (3, (false, [AV.lst 5 Node.av a0.Nodes, AV.lst 11 Pod.av a0.Pods, AV.lst 3 Budget.av a0.Budgets]))], [], []⟩) (by kernel_rfl) trivial ?_
  refine hN1 _ ?_
  refine awp_seq fun N3 hN3 => ?_
  obtain ⟨x4_2, hx4_2, h⟩ := Option.bind_eq_some_iff.1 h
  refine awp_reg kpNone [(2, AV.lst 1 AV.fl x4_2)] [] [5, 7] (cs := [(Det Tryd.prog 13 [State.av a0, AV.str a1] (.ret (AV.lst 1 AV.fl x4_2)))]) (st' := ⟨24, [(5, .varp 5 0), (7, AV.lst 1 AV.fl x4_2)], [(5, (false, [AV.fl a2.Low, AV.fl a2.High])), (3, (false, [AV.lst 5 Node.av a0.Nodes, AV.lst 11 Pod.av a0.Pods, AV.lst 3 Budget.av a0.Budgets]))], [], []⟩) (by kernel_rfl) ⟨d13 a0 a1 _ hx4_2, trivial⟩ ?_
  refine hN3 _ ?_
  refine awp_seq fun N5 hN5 => ?_
  refine awp_block ?_
  refine awp_seq fun N6 hN6 => ?_
  obtain ⟨x7_2, hx7_2, h⟩ := Option.bind_eq_some_iff.1 h
  refine awp_reg kpNone [(2, AV.bool x7_2)] [] [5, 7, 11] (cs := [(Det Tryd.prog 14 [AV.lst 1 AV.fl x4_2, .func 15 [.inp [AV.fl a2.Low, AV.fl a2.High]]] (.ret (AV.bool x7_2)))]) (st' := ⟨24, [(5, .varp 5 0), (7, AV.lst 1 AV.fl x4_2), (11, AV.bool x7_2)], [(5, (true, [AV.fl a2.Low, AV.fl a2.High])), (3, (false, [AV.lst 5 Node.av a0.Nodes, AV.lst 11 Pod.av a0.Pods, AV.lst 3 Budget.av a0.Budgets]))], [], []⟩) (by kernel_rfl) ⟨c14 x4_2 (fun y0 => F15 y0 a2) 15 [.inp [AV.fl a2.Low, AV.fl a2.High]] rfl (fun y0 _ hy => c15 y0 a2 _ hy) _ hx7_2, trivial⟩ ?_
  refine hN6 _ ?_
  refine awp_cond (t := x7_2) rfl (fun hb => ?_) (fun hb => ?_)
  · rw [if_pos hb] at h
    refine awp_seq fun N8 hN8 => ?_
    refine awp_reg kpNone [] [] [6] (cs := []) (st' := ⟨24, [(6, AV.int 2)], [(5, (true, [AV.fl a2.Low, AV.fl a2.High])), (3, (false, [AV.lst 5 Node.av a0.Nodes, AV.lst 11 Pod.av a0.Pods, AV.lst 3 Budget.av a0.Budgets]))], [], []⟩) (by kernel_rfl) trivial ?_
    refine hN8 _ ?_
    have h := Option.some.inj h
    subst h
    exact awp_ret ⟨[AV.int 2], by kernel_rfl, Lw.refl _⟩
  · rw [if_false hb] at h
    refine awp_seq fun N10 hN10 => ?_
    refine awp_to (σ := Bool) (fun p13 => ⟨24, [(15, AV.bool p13)], [(5, (true, [AV.fl a2.Low, AV.fl a2.High])), (3, (false, [AV.lst 5 Node.av a0.Nodes, AV.lst 11 Pod.av a0.Pods, AV.lst 3 Budget.av a0.Budgets]))], [], []⟩) (fun p13 => F7.j13 p13 = some r) (fun p13 h => ?_) (fun N13 hJ13 => ?_)
    · unfold F7.j13 at h
      refine hN10 _ ?_
      refine awp_cond (t := p13) rfl (fun hb => ?_) (fun hb => ?_)
      · rw [if_pos hb] at h
        refine awp_seq fun N14 hN14 => ?_
        refine awp_reg kpNone [] [] [6] (cs := []) (st' := ⟨24, [(6, AV.int 1)], [(5, (true, [AV.fl a2.Low, AV.fl a2.High])), (3, (false, [AV.lst 5 Node.av a0.Nodes, AV.lst 11 Pod.av a0.Pods, AV.lst 3 Budget.av a0.Budgets]))], [], []⟩) (by kernel_rfl) trivial ?_
        refine hN14 _ ?_
        have h := Option.some.inj h
        subst h
        exact awp_ret ⟨[AV.int 1], by kernel_rfl, Lw.refl _⟩
      · rw [if_false hb] at h
        refine awp_skip ?_
        refine hN5 _ ?_
        refine awp_seq fun N16 hN16 => ?_
        refine awp_reg kpNone [] [] [6] (cs := []) (st' := ⟨24, [(6, AV.int 0)], [(5, (true, [AV.fl a2.Low, AV.fl a2.High])), (3, (false, [AV.lst 5 Node.av a0.Nodes, AV.lst 11 Pod.av a0.Pods, AV.lst 3 Budget.av a0.Budgets]))], [], []⟩) (by kernel_rfl) trivial ?_
        refine hN16 _ ?_
        have h := Option.some.inj h
        subst h
        exact awp_ret ⟨[AV.int 0], by kernel_rfl, Lw.refl _⟩
    · by_cases hg12 : decide ((List.length x4_2 : Int) = (0 : Int)) = true
      · rw [if_pos hg12] at h
        refine awp_reg kpNone [(1, AV.int (List.length x4_2 : Int))] [(3, true)] [15] (cs := [((AV.int (List.length x4_2 : Int) = .val (.int .i64 (List.length (List.map AV.fl x4_2) : Int)))), (decide ((List.length x4_2 : Int) = (0 : Int)) = true)]) (st' := ⟨24, [(15, AV.bool true)], [(5, (true, [AV.fl a2.Low, AV.fl a2.High])), (3, (false, [AV.lst 5 Node.av a0.Nodes, AV.lst 11 Pod.av a0.Pods, AV.lst 3 Budget.av a0.Budgets]))], [], []⟩) (by kernel_rfl) ⟨len_map _ _, hg12, trivial⟩ ?_
        exact hJ13 true _ h (Le.rfl')
      · rw [if_neg hg12] at h
        have hg12 := Bool.eq_false_iff.2 hg12
        obtain ⟨x11_6, hx11_6, h⟩ := Option.bind_eq_some_iff.1 h
        refine awp_reg kpNone [(1, AV.int (List.length x4_2 : Int)), (6, AV.bool x11_6)] [(3, false)] [15] (cs := [((AV.int (List.length x4_2 : Int) = .val (.int .i64 (List.length (List.map AV.fl x4_2) : Int)))), (decide ((List.length x4_2 : Int) = (0 : Int)) = false), (Det Tryd.prog 14 [AV.lst 1 AV.fl x4_2, .func 16 [.inp [AV.fl a2.Low, AV.fl a2.High]]] (.ret (AV.bool x11_6)))]) (st' := ⟨24, [(15, AV.bool x11_6)], [(5, (true, [AV.fl a2.Low, AV.fl a2.High])), (3, (false, [AV.lst 5 Node.av a0.Nodes, AV.lst 11 Pod.av a0.Pods, AV.lst 3 Budget.av a0.Budgets]))], [], []⟩) (by kernel_rfl) ⟨len_map _ _, hg12, c14 x4_2 (fun y0 => F16 y0 a2) 16 [.inp [AV.fl a2.Low, AV.fl a2.High]] rfl (fun y0 _ hy => c16 y0 a2 _ hy) _ hx11_6, trivial⟩ ?_
        exact hJ13 x11_6 _ h (Le.rfl')


-- level.All
def F11.l8 (a0 : State) (a1 : Marks) (rec8 : (List Int × Int) → Option (List Int)) : (List Int × Int) → Option (List Int) := fun p8 =>
  if decide (p8.2 < (List.length a0.Nodes : Int)) = true then ((getI a0.Nodes p8.2).bind fun x14_0 => (F7 a0 x14_0.Name a1).bind fun x15_5 => if fits 8 (List.length (p8.1 ++ [x15_5])) then (rec8 (p8.1 ++ [x15_5], w64 (p8.2 + (1 : Int)))) else none) else (some p8.1)
def F11 (l8 : (List Int × Int) → Option (List Int)) (a0 : State) (a1 : Marks) : Option (List Int) :=
  l8 (([] : List Int), 0)
/-- ballast/level.All -/
theorem c11 (a0 : State) (a1 : Marks) (l8 : (List Int × Int) → Option (List Int)) (hl8 : Rounds (F11.l8 a0 a1) (l8)) (r : (List Int)) (h : F11 l8 a0 a1 = some r) :
    Det Tryd.prog 11 [State.av a0, Marks.av a1] (.ret (AV.lst 1 AV.int r)) := by
  refine Det.of_le ?_
  refine @calls_of_body Tryd.prog 11 Tryd.f11 _ Tryd.func11 rfl (by kernel_rfl) [.tmp 4] (by rw [Tryd.results11]) 25 Tryd.ntmps11 _ _ _ (by simp only [List.length_cons, List.length_nil]; decide) ?_
  unfold F11 at h
  refine awp_seq fun N1 hN1 => ?_
  refine awp_reg kpNone [] [] [2, 3] (cs := []) (st' := ⟨25, [(2, .varp 2 0), (3, .varp 3 0)], [(3, (false, [AV.fl a1.Low, AV.fl a1.High])), (2, (false, [AV.lst 5 Node.av a0.Nodes, AV.lst 11 Pod.av a0.Pods, AV.lst 3 Budget.av a0.Budgets]))], [], []⟩) (by kernel_rfl) trivial ?_
  refine hN1 _ ?_
  refine awp_seq fun N3 hN3 => ?_
  refine awp_reg kpNone [] [] [2, 3, 5] (cs := []) (st' := ⟨25, [(2, .varp 2 0), (3, .varp 3 0), (5, .nils)], [(3, (false, [AV.fl a1.Low, AV.fl a1.High])), (2, (false, [AV.lst 5 Node.av a0.Nodes, AV.lst 11 Pod.av a0.Pods, AV.lst 3 Budget.av a0.Budgets]))], [], []⟩) (by kernel_rfl) trivial ?_
  refine hN3 _ ?_
  refine awp_seq fun N5 hN5 => ?_
  refine awp_seq fun N6 hN6 => ?_
  refine awp_reg kpNone [(2, AV.int (List.length a0.Nodes : Int))] [] [2, 3, 5, 9, 10, 11] (cs := [((AV.int (List.length a0.Nodes : Int) = .val (.int .i64 (List.length (List.map Node.av a0.Nodes) : Int))))]) (st' := ⟨25, [(2, .varp 2 0), (3, .varp 3 0), (5, .nils), (9, AV.lst 5 Node.av a0.Nodes), (10, AV.int (List.length a0.Nodes : Int)), (11, AV.int 0)], [(3, (false, [AV.fl a1.Low, AV.fl a1.High])), (2, (false, [AV.lst 5 Node.av a0.Nodes, AV.lst 11 Pod.av a0.Pods, AV.lst 3 Budget.av a0.Budgets]))], [], []⟩) (by kernel_rfl) ⟨len_map _ _, trivial⟩ ?_
  refine hN6 _ ?_
  refine awp_block ?_
  refine awp_loop ?_
  refine awpL_le (st' := ⟨25, [(2, .varp 2 0), (3, .varp 3 0), (5, .slice (.own 22) 1 (List.map AV.int ([] : List Int))), (9, AV.lst 5 Node.av a0.Nodes), (10, AV.int (List.length a0.Nodes : Int)), (11, AV.int 0)], [(3, (false, [AV.fl a1.Low, AV.fl a1.High])), (2, (false, [AV.lst 5 Node.av a0.Nodes, AV.lst 11 Pod.av a0.Pods, AV.lst 3 Budget.av a0.Budgets]))], [], [(22, (3, 1, List.length (List.map AV.int ([] : List Int))))]⟩) ?_ ?_
  · exact Le.mk rfl ⟨⟨rfl, rfl⟩, ⟨rfl, rfl⟩, .inr ⟨rfl, rfl, rfl⟩, .inl rfl, rfl, rfl, trivial⟩ ⟨⟨rfl, ⟨rfl, rfl, trivial⟩⟩, ⟨rfl, ⟨.inl rfl, .inl rfl, .inl rfl, trivial⟩⟩, trivial⟩ ⟨⟨rfl, by decide⟩, trivial⟩ trivial
  refine awpL_fix hl8 r (fun p8 => ⟨25, [(2, .varp 2 0), (3, .varp 3 0), (5, .slice (.own 22) 1 (List.map AV.int p8.1)), (9, AV.lst 5 Node.av a0.Nodes), (10, AV.int (List.length a0.Nodes : Int)), (11, AV.int p8.2)], [(3, (false, [AV.fl a1.Low, AV.fl a1.High])), (2, (false, [AV.lst 5 Node.av a0.Nodes, AV.lst 11 Pod.av a0.Pods, AV.lst 3 Budget.av a0.Budgets]))], [], [(22, (3, 1, List.length (List.map AV.int p8.1)))]⟩) (fun rec8 hrec8 p8 h => ?_) (([] : List Int), 0) h
  unfold F11.l8 at h
  refine awpL_round ?_
  refine awp_seq fun N9 hN9 => ?_
  refine awp_reg kpNone [] [] [2, 3, 5, 9, 10, 11, 12] (cs := []) (st' := ⟨25, [(2, .varp 2 0), (3, .varp 3 0), (5, .slice (.own 22) 1 (List.map AV.int p8.1)), (9, AV.lst 5 Node.av a0.Nodes), (10, AV.int (List.length a0.Nodes : Int)), (11, AV.int p8.2), (12, AV.bool (decide (p8.2 < (List.length a0.Nodes : Int))))], [(3, (false, [AV.fl a1.Low, AV.fl a1.High])), (2, (false, [AV.lst 5 Node.av a0.Nodes, AV.lst 11 Pod.av a0.Pods, AV.lst 3 Budget.av a0.Budgets]))], [], [(22, (3, 1, List.length (List.map AV.int p8.1)))]⟩) (by kernel_rfl) trivial ?_
  refine hN9 _ ?_
  refine awp_seq fun N11 hN11 => ?_
  refine awp_cond (t := decide (p8.2 < (List.length a0.Nodes : Int))) rfl (fun hb => ?_) (fun hb => ?_)
  · rw [if_pos hb] at h
    refine awp_skip ?_
    refine hN11 _ ?_
    refine awp_seq fun N12 hN12 => ?_
    refine awp_block ?_
    refine awp_seq fun N13 hN13 => ?_
    obtain ⟨x14_0, hx14_0, h⟩ := Option.bind_eq_some_iff.1 h
    refine awp_reg kpNone [(0, Node.av x14_0)] [] [2, 3, 5, 7, 9, 10, 11] (cs := [(0 ≤ p8.2), ((List.map Node.av a0.Nodes)[Int.toNat p8.2]? = some (Node.av x14_0))]) (st' := ⟨25, [(2, .varp 2 0), (3, .varp 3 0), (5, .slice (.own 22) 1 (List.map AV.int p8.1)), (7, .varp 7 0), (9, AV.lst 5 Node.av a0.Nodes), (10, AV.int (List.length a0.Nodes : Int)), (11, AV.int p8.2)], [(7, (false, [AV.str x14_0.Name, AV.lst 2 Amount.av x14_0.Cap, AV.lst 2 Pair.av x14_0.Labels, AV.lst 3 Taint.av x14_0.Taints, AV.bool x14_0.Cordon])), (3, (false, [AV.fl a1.Low, AV.fl a1.High])), (2, (false, [AV.lst 5 Node.av a0.Nodes, AV.lst 11 Pod.av a0.Pods, AV.lst 3 Budget.av a0.Budgets]))], [], [(22, (3, 1, List.length (List.map AV.int p8.1)))]⟩) (by kernel_rfl) ⟨getI_le hx14_0, getI_map hx14_0 _, trivial⟩ ?_
    refine hN13 _ ?_
    obtain ⟨x15_5, hx15_5, h⟩ := Option.bind_eq_some_iff.1 h
    obtain ⟨hp15_7, h⟩ := guardP h
    refine awp_reg kpNone [(5, AV.int x15_5), (7, AV.lst 1 AV.int (p8.1 ++ [x15_5]))] [] [2, 3, 5, 9, 10, 11] (cs := [(Det Tryd.prog 7 [State.av a0, AV.str x14_0.Name, Marks.av a1] (.ret (AV.int x15_5))), (List.length (List.map AV.int p8.1) = List.length (List.map AV.int p8.1)), (List.length (List.map AV.int (p8.1 ++ [x15_5])) * 8 ≤ 140737488355328), (List.length (List.map AV.int (p8.1 ++ [x15_5])) ≤ 140737488355328), (List.map AV.int p8.1 ++ List.map AV.int [x15_5] = List.map AV.int (p8.1 ++ [x15_5]))]) (st' := ⟨25, [(2, .varp 2 0), (3, .varp 3 0), (5, .slice (.own 22) 1 (List.map AV.int (p8.1 ++ [x15_5]))), (9, AV.lst 5 Node.av a0.Nodes), (10, AV.int (List.length a0.Nodes : Int)), (11, AV.int p8.2)], [(7, (false, [AV.str x14_0.Name, AV.lst 2 Amount.av x14_0.Cap, AV.lst 2 Pair.av x14_0.Labels, AV.lst 3 Taint.av x14_0.Taints, AV.bool x14_0.Cordon])), (3, (false, [AV.fl a1.Low, AV.fl a1.High])), (2, (false, [AV.lst 5 Node.av a0.Nodes, AV.lst 11 Pod.av a0.Pods, AV.lst 3 Budget.av a0.Budgets]))], [], [(22, (3, 1, List.length (List.map AV.int (p8.1 ++ [x15_5])))), (21, (3, 1, 1))]⟩) (by kernel_rfl) ⟨c7 a0 x14_0.Name a1 _ hx15_5, by simp only [List.length_map, List.length_cons, List.length_nil], len_mul _ _ _ _ hp15_7.1, len_ge _ _ hp15_7.2, lst_app _ _ _, trivial⟩ ?_
    refine hN12 _ ?_
    refine awp_reg kpNone [] [] [2, 3, 5, 9, 10, 11] (cs := []) (st' := ⟨25, [(2, .varp 2 0), (3, .varp 3 0), (5, .slice (.own 22) 1 (List.map AV.int (p8.1 ++ [x15_5]))), (9, AV.lst 5 Node.av a0.Nodes), (10, AV.int (List.length a0.Nodes : Int)), (11, AV.int (w64 (p8.2 + (1 : Int))))], [(7, (false, [AV.str x14_0.Name, AV.lst 2 Amount.av x14_0.Cap, AV.lst 2 Pair.av x14_0.Labels, AV.lst 3 Taint.av x14_0.Taints, AV.bool x14_0.Cordon])), (3, (false, [AV.fl a1.Low, AV.fl a1.High])), (2, (false, [AV.lst 5 Node.av a0.Nodes, AV.lst 11 Pod.av a0.Pods, AV.lst 3 Budget.av a0.Budgets]))], [], [(22, (3, 1, List.length (List.map AV.int (p8.1 ++ [x15_5])))), (21, (3, 1, 1))]⟩) (by kernel_rfl) trivial ?_
    refine awpL_le ?_ (hrec8 _ h)
    exact Le.mk rfl ⟨⟨rfl, rfl⟩, ⟨rfl, rfl⟩, .inl ⟨rfl, rfl⟩, .inl rfl, rfl, rfl, trivial⟩ ⟨⟨rfl, ⟨rfl, rfl, trivial⟩⟩, ⟨rfl, ⟨.inl rfl, .inl rfl, .inl rfl, trivial⟩⟩, trivial⟩ ⟨rfl, trivial⟩ trivial
  · rw [if_false hb] at h
    refine awp_exit ?_
    refine hN5 _ ?_
    refine awp_seq fun N17 hN17 => ?_
    refine awp_reg kpNone [] [] [4] (cs := []) (st' := ⟨25, [(4, .slice (.own 22) 1 (List.map AV.int p8.1))], [(3, (false, [AV.fl a1.Low, AV.fl a1.High])), (2, (false, [AV.lst 5 Node.av a0.Nodes, AV.lst 11 Pod.av a0.Pods, AV.lst 3 Budget.av a0.Budgets]))], [], [(22, (3, 1, List.length (List.map AV.int p8.1)))]⟩) (by kernel_rfl) trivial ?_
    refine hN17 _ ?_
    have h := Option.some.inj h
    subst h
    exact awp_ret ⟨[.slice (.own 22) 1 (List.map AV.int p8.1)], by kernel_rfl, Lw.refl _⟩
def A11.l8 (a0 : State) (a1 : Marks) : (List Int × Int) → Option (List Int) := iterL (F11.l8 a0 a1) 4096
def A11 (a0 : State) (a1 : Marks) : Option (List Int) := F11 (A11.l8 a0 a1) a0 a1
theorem d11 (a0 : State) (a1 : Marks) (r : (List Int)) (h : A11 a0 a1 = some r) :
    Det Tryd.prog 11 [State.av a0, Marks.av a1] (.ret (AV.lst 1 AV.int r)) := by
  exact c11 a0 a1 (A11.l8 a0 a1) (rounds_iter _ _) r h


end Go.Proofs.Eng
