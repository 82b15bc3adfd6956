/- Printed walks and contracts. -/
import Derived.Test.YtdolhcmhdjmoeaaGreatDoorStrT9
set_option linter.unusedSimpArgs false
set_option linter.unusedVariables false
set_option maxRecDepth 100000
namespace Go.Proofs.Eng
open Go Go.Proofs Go.Sort
-- ballastref5.both
def F256 (a0 : (List Amount)) (a1 : (List Amount)) : Option Int :=
  if decide (¬ (checkVec a0) = (0 : Int)) = true then (some (checkVec a0)) else (some (checkVec a1))
/-- ballast/ballastref5.both -/
theorem c256 (a0 : (List Amount)) (a1 : (List Amount)) (r : Int) (h : F256 a0 a1 = some r) :
    Det Tryz.prog 256 [AV.lst 2 Amount.av a0, AV.lst 2 Amount.av a1] (.ret (AV.int r)) := by
  refine Det.of_le ?_
  refine @calls_of_body Tryz.prog 256 Tryz.f256 _ Tryz.func256 rfl (by kernel_rfl) [.tmp 4] (by rw [Tryz.results256]) 13 Tryz.ntmps256 _ _ _ (by simp only [List.length_cons, List.length_nil]; decide) ?_
  unfold F256 at h
  refine awp_sr kpNone [] [] [0, 1] (cs := []) (st' := ⟨13, [(0, AV.lst 2 Amount.av a0), (1, AV.lst 2 Amount.av a1)], [], [], []⟩) (by kernel_rfl) trivial ?_
  refine awp_sr kpNone [(1, AV.int (checkVec a0))] [] [1, 5] (cs := [(Det Tryz.prog 103 [AV.lst 2 Amount.av a0] (.ret (AV.int (checkVec a0))))]) (st' := ⟨13, [(1, AV.lst 2 Amount.av a1), (5, AV.int (checkVec a0))], [], [], []⟩) (by kernel_rfl) ⟨d103 a0, trivial⟩ ?_
  refine awp_seq fun N5 hN5 => ?_
  refine awp_sr kpNone [] [] [1, 5, 9] (cs := []) (st' := ⟨13, [(1, AV.lst 2 Amount.av a1), (5, AV.int (checkVec a0)), (9, AV.bool (decide (¬ (checkVec a0) = (0 : Int))))], [], [], []⟩) (by kernel_rfl) trivial ?_
  refine awp_cond (t := decide (¬ (checkVec a0) = (0 : Int))) rfl (fun hb => ?_) (fun hb => ?_)
  · rw [if_pos hb] at h
    refine awp_sr kpNone [] [] [4] (cs := []) (st' := ⟨13, [(4, AV.int (checkVec a0))], [], [], []⟩) (by kernel_rfl) trivial ?_
    have h := Option.some.inj h
    subst h
    exact awp_ret ⟨[AV.int (checkVec a0)], by kernel_rfl, Lw.refl _⟩
  · rw [if_false hb] at h
    refine awp_skip ?_
    refine hN5 _ ?_
    refine awp_sr kpNone [(1, AV.int (checkVec a1))] [] [4] (cs := [(Det Tryz.prog 103 [AV.lst 2 Amount.av a1] (.ret (AV.int (checkVec a1))))]) (st' := ⟨13, [(4, AV.int (checkVec a1))], [], [], []⟩) (by kernel_rfl) ⟨d103 a1, trivial⟩ ?_
    have h := Option.some.inj h
    subst h
    exact awp_ret ⟨[AV.int (checkVec a1)], by kernel_rfl, Lw.refl _⟩


-- ballastref5.names
def F257.j21 (rec10 : (List Str × Int × Int) → Option (List Str)) : (List Str × Int × Int) → Option (List Str) := fun p21 =>
  rec10 (p21.1, p21.2.1, p21.2.2)
def F257.j29 (rec10 : (List Str × Int × Int) → Option (List Str)) (p10 : List Str × Int × Int) : (List Str × Int) → Option (List Str) := fun p29 =>
  F257.j21 rec10 (p29.1, p29.2, w64 (p10.2.2 + (1 : Int)))
def F257.j28 (a1 : (List Amount)) (p10 : List Str × Int × Int) (rec10 : (List Str × Int × Int) → Option (List Str)) (a0 : (List Amount)) : (Bool) → Option (List Str) := fun p28 =>
  if p28 = true then ((getI a1 p10.2.2).bind fun x31_3 => if fits 16 (List.length (p10.1 ++ [x31_3.Name])) then (F257.j29 rec10 p10 (p10.1 ++ [x31_3.Name], p10.2.1)) else none) else ((getI a0 p10.2.1).bind fun x34_3 => if fits 16 (List.length (p10.1 ++ [x34_3.Name])) then (F257.j29 rec10 p10 (p10.1 ++ [x34_3.Name], w64 (p10.2.1 + (1 : Int)))) else none)
def F257.j20 (a0 : (List Amount)) (p10 : List Str × Int × Int) (rec10 : (List Str × Int × Int) → Option (List Str)) (a1 : (List Amount)) : (Bool) → Option (List Str) := fun p20 =>
  if p20 = true then ((getI a0 p10.2.1).bind fun x23_3 => if fits 16 (List.length (p10.1 ++ [x23_3.Name])) then (F257.j21 rec10 (p10.1 ++ [x23_3.Name], w64 (p10.2.1 + (1 : Int)), p10.2.2)) else none) else (if decide ((List.length a0 : Int) ≤ p10.2.1) = true then (F257.j28 a1 p10 rec10 a0 true) else ((getI a1 p10.2.2).bind fun x26_7 => (getI a0 p10.2.1).bind fun x26_12 => F257.j28 a1 p10 rec10 a0 (Op.bytesLess x26_7.Name x26_12.Name)))
def F257.l10 (a0 : (List Amount)) (a1 : (List Amount)) (rec10 : (List Str × Int × Int) → Option (List Str)) : (List Str × Int × Int) → Option (List Str) := fun p10 =>
  if ((decide (p10.2.1 < (List.length a0 : Int))) || (decide (p10.2.2 < (List.length a1 : Int)))) = true then (if decide ((List.length a1 : Int) ≤ p10.2.2) = true then (F257.j20 a0 p10 rec10 a1 true) else (if decide (p10.2.1 < (List.length a0 : Int)) = true then ((getI a0 p10.2.1).bind fun x17_12 => (getI a1 p10.2.2).bind fun x17_17 => F257.j20 a0 p10 rec10 a1 (Op.bytesLess x17_12.Name x17_17.Name)) else (F257.j20 a0 p10 rec10 a1 false))) else (some p10.1)
def F257 (l10 : (List Str × Int × Int) → Option (List Str)) (a0 : (List Amount)) (a1 : (List Amount)) : Option (List Str) :=
  l10 (([] : List Str), 0, 0)
/-- ballast/ballastref5.names -/
theorem c257 (a0 : (List Amount)) (a1 : (List Amount)) (l10 : (List Str × Int × Int) → Option (List Str)) (hl10 : Rounds (F257.l10 a0 a1) (l10)) (r : (List Str)) (h : F257 l10 a0 a1 = some r) :
    Det Tryz.prog 257 [AV.lst 2 Amount.av a0, AV.lst 2 Amount.av a1] (.ret (AV.lst 1 AV.str r)) := by
  refine Det.of_le ?_
  refine @calls_of_body Tryz.prog 257 Tryz.f257 _ Tryz.func257 rfl (by kernel_rfl) [.tmp 4] (by rw [Tryz.results257]) 93 Tryz.ntmps257 _ _ _ (by simp only [List.length_cons, List.length_nil]; decide) ?_
  unfold F257 at h
  refine awp_sr kpNone [] [] [0, 1] (cs := []) (st' := ⟨93, [(0, AV.lst 2 Amount.av a0), (1, AV.lst 2 Amount.av a1)], [], [], []⟩) (by kernel_rfl) trivial ?_
  refine awp_sr kpNone [] [] [0, 1, 5] (cs := []) (st' := ⟨93, [(0, AV.lst 2 Amount.av a0), (1, AV.lst 2 Amount.av a1), (5, .nils)], [], [], []⟩) (by kernel_rfl) trivial ?_
  refine awp_sr kpNone [] [] [0, 1, 5, 6] (cs := []) (st' := ⟨93, [(0, AV.lst 2 Amount.av a0), (1, AV.lst 2 Amount.av a1), (5, .nils), (6, AV.int 0)], [], [], []⟩) (by kernel_rfl) trivial ?_
  refine awp_sr kpNone [] [] [0, 1, 5, 6, 7] (cs := []) (st' := ⟨93, [(0, AV.lst 2 Amount.av a0), (1, AV.lst 2 Amount.av a1), (5, .nils), (6, AV.int 0), (7, AV.int 0)], [], [], []⟩) (by kernel_rfl) trivial ?_
  refine awp_seq fun N9 hN9 => ?_
  refine awp_block ?_
  refine awp_loop ?_
  refine awpL_le (st' := ⟨93, [(0, AV.lst 2 Amount.av a0), (1, AV.lst 2 Amount.av a1), (5, .slice (.own 61) 1 (List.map AV.str ([] : List Str))), (6, AV.int 0), (7, AV.int 0)], [], [], [(61, (9, 1, List.length (List.map AV.str ([] : List Str))))]⟩) ?_ ?_
  · exact Le.mk rfl ⟨.inl rfl, .inl rfl, .inr ⟨rfl, rfl, rfl⟩, rfl, rfl, trivial⟩ trivial ⟨⟨rfl, by decide⟩, trivial⟩ trivial
  refine awpL_fix hl10 r (fun p10 => ⟨93, [(0, AV.lst 2 Amount.av a0), (1, AV.lst 2 Amount.av a1), (5, .slice (.own 61) 1 (List.map AV.str p10.1)), (6, AV.int p10.2.1), (7, AV.int p10.2.2)], [], [], [(61, (9, 1, List.length (List.map AV.str p10.1)))]⟩) (fun rec10 hrec10 p10 h => ?_) (([] : List Str), 0, 0) h
  unfold F257.l10 at h
  refine awpL_round ?_
  refine awp_seq fun N11 hN11 => ?_
  refine awp_seq fun N12 hN12 => ?_
  refine awp_to (σ := Bool) (fun p => ⟨93, [(0, AV.lst 2 Amount.av a0), (1, AV.lst 2 Amount.av a1), (5, .slice (.own 61) 1 (List.map AV.str p10.1)), (6, AV.int p10.2.1), (7, AV.int p10.2.2), (17, AV.bool p)], [], [], [(61, (9, 1, List.length (List.map AV.str p10.1)))]⟩) (fun p => p = ((decide (p10.2.1 < (List.length a0 : Int))) || (decide (p10.2.2 < (List.length a1 : Int))))) (fun p hp => ?_) (fun N15 hJ15 => ?_)
  · subst hp
    refine hN12 _ ?_
    refine awp_cond (t := ((decide (p10.2.1 < (List.length a0 : Int))) || (decide (p10.2.2 < (List.length a1 : Int))))) rfl (fun hb => ?_) (fun hb => ?_)
    · rw [if_pos hb] at h
      refine awp_skip ?_
      refine hN11 _ ?_
      refine awp_block ?_
      refine awp_block ?_
      refine awp_seq fun N16 hN16 => ?_
      refine awp_to (σ := Bool) (fun p20 => ⟨93, [(0, AV.lst 2 Amount.av a0), (1, AV.lst 2 Amount.av a1), (5, .slice (.own 61) 1 (List.map AV.str p10.1)), (6, AV.int p10.2.1), (7, AV.int p10.2.2), (30, AV.bool p20)], [], [], [(61, (9, 1, List.length (List.map AV.str p10.1)))]⟩) (fun p20 => F257.j20 a0 p10 rec10 a1 p20 = some r) (fun p20 h => ?_) (fun N20 hJ20 => ?_)
      · unfold F257.j20 at h
        refine hN16 _ ?_
        refine awp_to (σ := List Str × Int × Int) (fun p21 => ⟨93, [(0, AV.lst 2 Amount.av a0), (1, AV.lst 2 Amount.av a1), (5, .slice (.own 61) 1 (List.map AV.str p21.1)), (6, AV.int p21.2.1), (7, AV.int p21.2.2)], [], [], [(61, (9, 1, List.length (List.map AV.str p21.1)))]⟩) (fun p21 => F257.j21 rec10 p21 = some r) (fun p21 h => ?_) (fun N21 hJ21 => ?_)
        · unfold F257.j21 at h
          refine awpL_le ?_ (hrec10 _ h)
          exact Le.rfl'
        · refine awp_cond (t := p20) rfl (fun hb => ?_) (fun hb => ?_)
          · rw [if_pos hb] at h
            obtain ⟨x23_3, hx23_3, h⟩ := Option.bind_eq_some_iff.1 h
            obtain ⟨hp23_7, h⟩ := guardP h
            refine awp_sr kpNone [(3, Amount.av x23_3), (7, AV.lst 1 AV.str (p10.1 ++ [x23_3.Name]))] [] [0, 1, 5, 6, 7] (cs := [(0 ≤ p10.2.1), ((List.map Amount.av a0)[Int.toNat p10.2.1]? = some (Amount.av x23_3)), (List.length (List.map AV.str p10.1) = List.length (List.map AV.str p10.1)), (List.length (List.map AV.str (p10.1 ++ [x23_3.Name])) * 16 ≤ 140737488355328), (List.length (List.map AV.str (p10.1 ++ [x23_3.Name])) ≤ 140737488355328), (List.map AV.str p10.1 ++ List.map AV.str [x23_3.Name] = List.map AV.str (p10.1 ++ [x23_3.Name]))]) (st' := ⟨93, [(0, AV.lst 2 Amount.av a0), (1, AV.lst 2 Amount.av a1), (5, .slice (.own 61) 1 (List.map AV.str (p10.1 ++ [x23_3.Name]))), (6, AV.int p10.2.1), (7, AV.int p10.2.2)], [], [], [(61, (9, 1, List.length (List.map AV.str (p10.1 ++ [x23_3.Name])))), (60, (9, 1, 1))]⟩) (by kernel_rfl) ⟨getI_le hx23_3, getI_map hx23_3 _, by simp only [List.length_map, List.length_cons, List.length_nil], len_mul _ _ _ _ hp23_7.1, len_ge _ _ hp23_7.2, lst_app _ _ _, trivial⟩ ?_
            refine awp_reg kpNone [] [] [0, 1, 5, 6, 7] (cs := []) (st' := ⟨93, [(0, AV.lst 2 Amount.av a0), (1, AV.lst 2 Amount.av a1), (5, .slice (.own 61) 1 (List.map AV.str (p10.1 ++ [x23_3.Name]))), (6, AV.int (w64 (p10.2.1 + (1 : Int)))), (7, AV.int p10.2.2)], [], [], [(61, (9, 1, List.length (List.map AV.str (p10.1 ++ [x23_3.Name])))), (60, (9, 1, 1))]⟩) (by kernel_rfl) trivial ?_
            exact hJ21 (p10.1 ++ [x23_3.Name], w64 (p10.2.1 + (1 : Int)), p10.2.2) _ h (Le.mk rfl ⟨.inl rfl, .inl rfl, .inl ⟨rfl, rfl⟩, rfl, rfl, trivial⟩ trivial ⟨rfl, trivial⟩ trivial)
          · rw [if_false hb] at h
            refine awp_seq fun N25 hN25 => ?_
            refine awp_to (σ := Bool) (fun p28 => ⟨93, [(0, AV.lst 2 Amount.av a0), (1, AV.lst 2 Amount.av a1), (5, .slice (.own 61) 1 (List.map AV.str p10.1)), (6, AV.int p10.2.1), (7, AV.int p10.2.2), (64, AV.bool p28)], [], [], [(61, (9, 1, List.length (List.map AV.str p10.1)))]⟩) (fun p28 => F257.j28 a1 p10 rec10 a0 p28 = some r) (fun p28 h => ?_) (fun N28 hJ28 => ?_)
            · unfold F257.j28 at h
              refine hN25 _ ?_
              refine awp_to (σ := List Str × Int) (fun p29 => ⟨93, [(0, AV.lst 2 Amount.av a0), (1, AV.lst 2 Amount.av a1), (5, .slice (.own 61) 1 (List.map AV.str p29.1)), (6, AV.int p29.2), (7, AV.int (w64 (p10.2.2 + (1 : Int))))], [], [], [(61, (9, 1, List.length (List.map AV.str p29.1)))]⟩) (fun p29 => F257.j29 rec10 p10 p29 = some r) (fun p29 h => ?_) (fun N29 hJ29 => ?_)
              · unfold F257.j29 at h
                exact hJ21 (p29.1, p29.2, w64 (p10.2.2 + (1 : Int))) _ h (Le.rfl')
              · refine awp_cond (t := p28) rfl (fun hb => ?_) (fun hb => ?_)
                · rw [if_pos hb] at h
                  obtain ⟨x31_3, hx31_3, h⟩ := Option.bind_eq_some_iff.1 h
                  obtain ⟨hp31_7, h⟩ := guardP h
                  refine awp_sr kpNone [(3, Amount.av x31_3), (7, AV.lst 1 AV.str (p10.1 ++ [x31_3.Name]))] [] [0, 1, 5, 6, 7] (cs := [(0 ≤ p10.2.2), ((List.map Amount.av a1)[Int.toNat p10.2.2]? = some (Amount.av x31_3)), (List.length (List.map AV.str p10.1) = List.length (List.map AV.str p10.1)), (List.length (List.map AV.str (p10.1 ++ [x31_3.Name])) * 16 ≤ 140737488355328), (List.length (List.map AV.str (p10.1 ++ [x31_3.Name])) ≤ 140737488355328), (List.map AV.str p10.1 ++ List.map AV.str [x31_3.Name] = List.map AV.str (p10.1 ++ [x31_3.Name]))]) (st' := ⟨93, [(0, AV.lst 2 Amount.av a0), (1, AV.lst 2 Amount.av a1), (5, .slice (.own 61) 1 (List.map AV.str (p10.1 ++ [x31_3.Name]))), (6, AV.int p10.2.1), (7, AV.int p10.2.2)], [], [], [(61, (9, 1, List.length (List.map AV.str (p10.1 ++ [x31_3.Name])))), (88, (9, 1, 1))]⟩) (by kernel_rfl) ⟨getI_le hx31_3, getI_map hx31_3 _, by simp only [List.length_map, List.length_cons, List.length_nil], len_mul _ _ _ _ hp31_7.1, len_ge _ _ hp31_7.2, lst_app _ _ _, trivial⟩ ?_
                  refine awp_reg kpNone [] [] [0, 1, 5, 6, 7] (cs := []) (st' := ⟨93, [(0, AV.lst 2 Amount.av a0), (1, AV.lst 2 Amount.av a1), (5, .slice (.own 61) 1 (List.map AV.str (p10.1 ++ [x31_3.Name]))), (6, AV.int p10.2.1), (7, AV.int (w64 (p10.2.2 + (1 : Int))))], [], [], [(61, (9, 1, List.length (List.map AV.str (p10.1 ++ [x31_3.Name])))), (88, (9, 1, 1))]⟩) (by kernel_rfl) trivial ?_
                  exact hJ29 (p10.1 ++ [x31_3.Name], p10.2.1) _ h (Le.mk rfl ⟨.inl rfl, .inl rfl, .inl ⟨rfl, rfl⟩, rfl, rfl, trivial⟩ trivial ⟨rfl, trivial⟩ trivial)
                · rw [if_false hb] at h
                  obtain ⟨x34_3, hx34_3, h⟩ := Option.bind_eq_some_iff.1 h
                  obtain ⟨hp34_7, h⟩ := guardP h
                  refine awp_sr kpNone [(3, Amount.av x34_3), (7, AV.lst 1 AV.str (p10.1 ++ [x34_3.Name]))] [] [0, 1, 5, 6, 7] (cs := [(0 ≤ p10.2.1), ((List.map Amount.av a0)[Int.toNat p10.2.1]? = some (Amount.av x34_3)), (List.length (List.map AV.str p10.1) = List.length (List.map AV.str p10.1)), (List.length (List.map AV.str (p10.1 ++ [x34_3.Name])) * 16 ≤ 140737488355328), (List.length (List.map AV.str (p10.1 ++ [x34_3.Name])) ≤ 140737488355328), (List.map AV.str p10.1 ++ List.map AV.str [x34_3.Name] = List.map AV.str (p10.1 ++ [x34_3.Name]))]) (st' := ⟨93, [(0, AV.lst 2 Amount.av a0), (1, AV.lst 2 Amount.av a1), (5, .slice (.own 61) 1 (List.map AV.str (p10.1 ++ [x34_3.Name]))), (6, AV.int p10.2.1), (7, AV.int p10.2.2)], [], [], [(61, (9, 1, List.length (List.map AV.str (p10.1 ++ [x34_3.Name])))), (24, (9, 1, 1))]⟩) (by kernel_rfl) ⟨getI_le hx34_3, getI_map hx34_3 _, by simp only [List.length_map, List.length_cons, List.length_nil], len_mul _ _ _ _ hp34_7.1, len_ge _ _ hp34_7.2, lst_app _ _ _, trivial⟩ ?_
                  refine awp_sr kpNone [] [] [0, 1, 5, 6, 7] (cs := []) (st' := ⟨93, [(0, AV.lst 2 Amount.av a0), (1, AV.lst 2 Amount.av a1), (5, .slice (.own 61) 1 (List.map AV.str (p10.1 ++ [x34_3.Name]))), (6, AV.int (w64 (p10.2.1 + (1 : Int)))), (7, AV.int p10.2.2)], [], [], [(61, (9, 1, List.length (List.map AV.str (p10.1 ++ [x34_3.Name])))), (24, (9, 1, 1))]⟩) (by kernel_rfl) trivial ?_
                  refine awp_reg kpNone [] [] [0, 1, 5, 6, 7] (cs := []) (st' := ⟨93, [(0, AV.lst 2 Amount.av a0), (1, AV.lst 2 Amount.av a1), (5, .slice (.own 61) 1 (List.map AV.str (p10.1 ++ [x34_3.Name]))), (6, AV.int (w64 (p10.2.1 + (1 : Int)))), (7, AV.int (w64 (p10.2.2 + (1 : Int))))], [], [], [(61, (9, 1, List.length (List.map AV.str (p10.1 ++ [x34_3.Name])))), (24, (9, 1, 1))]⟩) (by kernel_rfl) trivial ?_
                  exact hJ29 (p10.1 ++ [x34_3.Name], w64 (p10.2.1 + (1 : Int))) _ h (Le.mk rfl ⟨.inl rfl, .inl rfl, .inl ⟨rfl, rfl⟩, rfl, rfl, trivial⟩ trivial ⟨rfl, trivial⟩ trivial)
            · by_cases hg27 : decide ((List.length a0 : Int) ≤ p10.2.1) = true
              · rw [if_pos hg27] at h
                refine awp_regD mixedTryz kpNone [(2, AV.int (List.length a0 : Int))] [(4, true)] [0, 1, 5, 6, 7, 64] (by kernel_rfl) (cs := [((AV.int (List.length a0 : Int) = .val (.int .i64 (List.length (List.map Amount.av a0) : Int)))), (decide ((List.length a0 : Int) ≤ p10.2.1) = true)]) (st' := ⟨93, [(0, AV.lst 2 Amount.av a0), (1, AV.lst 2 Amount.av a1), (5, .slice (.own 61) 1 (List.map AV.str p10.1)), (6, AV.int p10.2.1), (7, AV.int p10.2.2), (64, AV.bool true)], [], [], [(61, (9, 1, List.length (List.map AV.str p10.1)))]⟩) (by kernel_rfl) ⟨len_map _ _, hg27, trivial⟩ ?_
                exact hJ28 true _ h (Le.rfl')
              · rw [if_neg hg27] at h
                have hg27 := Bool.eq_false_iff.2 hg27
                obtain ⟨x26_7, hx26_7, h⟩ := Option.bind_eq_some_iff.1 h
                obtain ⟨x26_12, hx26_12, h⟩ := Option.bind_eq_some_iff.1 h
                refine awp_regD mixedTryz kpNone [(2, AV.int (List.length a0 : Int)), (7, Amount.av x26_7), (12, Amount.av x26_12)] [(4, false)] [0, 1, 5, 6, 7, 64] (by kernel_rfl) (cs := [((AV.int (List.length a0 : Int) = .val (.int .i64 (List.length (List.map Amount.av a0) : Int)))), (decide ((List.length a0 : Int) ≤ p10.2.1) = false), (0 ≤ p10.2.2), ((List.map Amount.av a1)[Int.toNat p10.2.2]? = some (Amount.av x26_7)), (0 ≤ p10.2.1), ((List.map Amount.av a0)[Int.toNat p10.2.1]? = some (Amount.av x26_12))]) (st' := ⟨93, [(0, AV.lst 2 Amount.av a0), (1, AV.lst 2 Amount.av a1), (5, .slice (.own 61) 1 (List.map AV.str p10.1)), (6, AV.int p10.2.1), (7, AV.int p10.2.2), (64, AV.bool (Op.bytesLess x26_7.Name x26_12.Name))], [], [], [(61, (9, 1, List.length (List.map AV.str p10.1)))]⟩) (by kernel_rfl) ⟨len_map _ _, hg27, getI_le hx26_7, getI_map hx26_7 _, getI_le hx26_12, getI_map hx26_12 _, trivial⟩ ?_
                exact hJ28 (Op.bytesLess x26_7.Name x26_12.Name) _ h (Le.rfl')
      · by_cases hg18 : decide ((List.length a1 : Int) ≤ p10.2.2) = true
        · rw [if_pos hg18] at h
          refine awp_regD mixedTryz kpNone [(2, AV.int (List.length a1 : Int))] [(4, true)] [0, 1, 5, 6, 7, 30] (by kernel_rfl) (cs := [((AV.int (List.length a1 : Int) = .val (.int .i64 (List.length (List.map Amount.av a1) : Int)))), (decide ((List.length a1 : Int) ≤ p10.2.2) = true)]) (st' := ⟨93, [(0, AV.lst 2 Amount.av a0), (1, AV.lst 2 Amount.av a1), (5, .slice (.own 61) 1 (List.map AV.str p10.1)), (6, AV.int p10.2.1), (7, AV.int p10.2.2), (30, AV.bool true)], [], [], [(61, (9, 1, List.length (List.map AV.str p10.1)))]⟩) (by kernel_rfl) ⟨len_map _ _, hg18, trivial⟩ ?_
          exact hJ20 true _ h (Le.rfl')
        · rw [if_neg hg18] at h
          have hg18 := Bool.eq_false_iff.2 hg18
          by_cases hg19 : decide (p10.2.1 < (List.length a0 : Int)) = true
          · rw [if_pos hg19] at h
            obtain ⟨x17_12, hx17_12, h⟩ := Option.bind_eq_some_iff.1 h
            obtain ⟨x17_17, hx17_17, h⟩ := Option.bind_eq_some_iff.1 h
            refine awp_regD mixedTryz kpNone [(2, AV.int (List.length a1 : Int)), (7, AV.int (List.length a0 : Int)), (12, Amount.av x17_12), (17, Amount.av x17_17)] [(4, false), (9, true)] [0, 1, 5, 6, 7, 30] (by kernel_rfl) (cs := [((AV.int (List.length a1 : Int) = .val (.int .i64 (List.length (List.map Amount.av a1) : Int)))), (decide ((List.length a1 : Int) ≤ p10.2.2) = false), ((AV.int (List.length a0 : Int) = .val (.int .i64 (List.length (List.map Amount.av a0) : Int)))), (decide (p10.2.1 < (List.length a0 : Int)) = true), (0 ≤ p10.2.1), ((List.map Amount.av a0)[Int.toNat p10.2.1]? = some (Amount.av x17_12)), (0 ≤ p10.2.2), ((List.map Amount.av a1)[Int.toNat p10.2.2]? = some (Amount.av x17_17))]) (st' := ⟨93, [(0, AV.lst 2 Amount.av a0), (1, AV.lst 2 Amount.av a1), (5, .slice (.own 61) 1 (List.map AV.str p10.1)), (6, AV.int p10.2.1), (7, AV.int p10.2.2), (30, AV.bool (Op.bytesLess x17_12.Name x17_17.Name))], [], [], [(61, (9, 1, List.length (List.map AV.str p10.1)))]⟩) (by kernel_rfl) ⟨len_map _ _, hg18, len_map _ _, hg19, getI_le hx17_12, getI_map hx17_12 _, getI_le hx17_17, getI_map hx17_17 _, trivial⟩ ?_
            exact hJ20 (Op.bytesLess x17_12.Name x17_17.Name) _ h (Le.rfl')
          · rw [if_neg hg19] at h
            have hg19 := Bool.eq_false_iff.2 hg19
            refine awp_regD mixedTryz kpNone [(2, AV.int (List.length a1 : Int)), (7, AV.int (List.length a0 : Int))] [(4, false), (9, false)] [0, 1, 5, 6, 7, 30] (by kernel_rfl) (cs := [((AV.int (List.length a1 : Int) = .val (.int .i64 (List.length (List.map Amount.av a1) : Int)))), (decide ((List.length a1 : Int) ≤ p10.2.2) = false), ((AV.int (List.length a0 : Int) = .val (.int .i64 (List.length (List.map Amount.av a0) : Int)))), (decide (p10.2.1 < (List.length a0 : Int)) = false)]) (st' := ⟨93, [(0, AV.lst 2 Amount.av a0), (1, AV.lst 2 Amount.av a1), (5, .slice (.own 61) 1 (List.map AV.str p10.1)), (6, AV.int p10.2.1), (7, AV.int p10.2.2), (30, AV.bool false)], [], [], [(61, (9, 1, List.length (List.map AV.str p10.1)))]⟩) (by kernel_rfl) ⟨len_map _ _, hg18, len_map _ _, hg19, trivial⟩ ?_
            exact hJ20 false _ h (Le.rfl')
    · rw [if_false hb] at h
      refine awp_exit ?_
      refine hN9 _ ?_
      refine awp_sr kpNone [] [] [4] (cs := []) (st' := ⟨93, [(4, .slice (.own 61) 1 (List.map AV.str p10.1))], [], [], [(61, (9, 1, List.length (List.map AV.str p10.1)))]⟩) (by kernel_rfl) trivial ?_
      have h := Option.some.inj h
      subst h
      exact awp_ret ⟨[.slice (.own 61) 1 (List.map AV.str p10.1)], by kernel_rfl, Lw.refl _⟩
  · by_cases hg14 : decide (p10.2.1 < (List.length a0 : Int)) = true
    · refine awp_reg kpNone [(2, AV.int (List.length a0 : Int))] [(4, true)] [0, 1, 5, 6, 7, 17] (cs := [((AV.int (List.length a0 : Int) = .val (.int .i64 (List.length (List.map Amount.av a0) : Int)))), (decide (p10.2.1 < (List.length a0 : Int)) = true)]) (st' := ⟨93, [(0, AV.lst 2 Amount.av a0), (1, AV.lst 2 Amount.av a1), (5, .slice (.own 61) 1 (List.map AV.str p10.1)), (6, AV.int p10.2.1), (7, AV.int p10.2.2), (17, AV.bool true)], [], [], [(61, (9, 1, List.length (List.map AV.str p10.1)))]⟩) (by kernel_rfl) ⟨len_map _ _, hg14, trivial⟩ ?_
      exact hJ15 true _ (by first | rfl | (rw [hg14]; done) | (rw [hg14]; rfl) | (simp [hg14]; done) | (exfalso; revert hg14; simp; done) | (exfalso; revert hg14; simp; intros; assumption)) (Le.rfl')
    · have hg14 := Bool.eq_false_iff.2 hg14
      refine awp_reg kpNone [(2, AV.int (List.length a0 : Int)), (7, AV.int (List.length a1 : Int))] [(4, false)] [0, 1, 5, 6, 7, 17] (cs := [((AV.int (List.length a0 : Int) = .val (.int .i64 (List.length (List.map Amount.av a0) : Int)))), (decide (p10.2.1 < (List.length a0 : Int)) = false), ((AV.int (List.length a1 : Int) = .val (.int .i64 (List.length (List.map Amount.av a1) : Int))))]) (st' := ⟨93, [(0, AV.lst 2 Amount.av a0), (1, AV.lst 2 Amount.av a1), (5, .slice (.own 61) 1 (List.map AV.str p10.1)), (6, AV.int p10.2.1), (7, AV.int p10.2.2), (17, AV.bool (decide (p10.2.2 < (List.length a1 : Int))))], [], [], [(61, (9, 1, List.length (List.map AV.str p10.1)))]⟩) (by kernel_rfl) ⟨len_map _ _, hg14, len_map _ _, trivial⟩ ?_
      exact hJ15 (decide (p10.2.2 < (List.length a1 : Int))) _ (by first | rfl | (rw [hg14]; done) | (rw [hg14]; rfl) | (simp [hg14]; done) | (exfalso; revert hg14; simp; done) | (exfalso; revert hg14; simp; intros; assumption)) (Le.rfl')
-- {"kind": "opt", "S": "namesR", "thm": "d257"}
theorem d257 (a0 a1 : List Amount) (r : List Str) (h : namesR a0 a1 = some r) : Det Tryz.prog 257 [AV.lst 2 Amount.av a0, AV.lst 2 Amount.av a1] (.ret (AV.lst 1 AV.str r)) := by
  unfold namesR at h
  split at h
  rotate_left
  · cases h
  rename_i hf
  cases h
  have hf2 := hf.2
  have hf1 := hf.1
  refine c257 a0 a1 (fun q => if (0 ≤ q.2.1 ∧ q.2.1 ≤ a0.length) ∧ (0 ≤ q.2.2 ∧ q.2.2 ≤ a1.length) ∧ q.1.length ≤ q.2.1.toNat + q.2.2.toNat then some (q.1 ++ mergeN ((a0.length - q.2.1.toNat) + (a1.length - q.2.2.toNat)) ((a0.drop q.2.1.toNat).map Amount.Name) ((a1.drop q.2.2.toNat).map Amount.Name)) else none) (rounds_mk ⟨fun q => (a0.length - q.2.1.toNat) + (a1.length - q.2.2.toNat), ?_⟩) _ ?_
  · rintro ⟨out, i, k⟩ r h
    simp only at h
    split at h
    rotate_left
    · cases h
    rename_i hq
    obtain ⟨⟨i0, i1⟩, ⟨k0, k1⟩, hl⟩ := hq
    have hfit : ∀ (o : List Str) (x : Str), o.length < a0.length + a1.length → fits 16 (List.length (o ++ [x])) := fun o x h => fits_le hf (by simp; omega)
    generalize hrec : (fun y : List Str × Int × Int => if (_ : Nat) < _ then _ else (none : Option (List Str))) = rec
    have R : ∀ (o : List Str) (i' k' : Int), 0 ≤ i' → i' ≤ a0.length → 0 ≤ k' → k' ≤ a1.length → o.length ≤ i'.toNat + k'.toNat → (a0.length - i'.toNat) + (a1.length - k'.toNat) < (a0.length - i.toNat) + (a1.length - k.toNat) →
        ∀ n, (a0.length - i'.toNat) + (a1.length - k'.toNat) ≤ n → rec (o, i', k') = some (o ++ mergeN n ((a0.drop i'.toNat).map Amount.Name) ((a1.drop k'.toNat).map Amount.Name)) := by
      intro o i' k' q1 q2 q3 q4 q5 q6 n q7
      rw [← hrec]
      simp only
      rw [if_pos q6, if_pos ⟨⟨q1, q2⟩, ⟨q3, q4⟩, q5⟩]
      rw [mergeN_fuel _ n _ _ (by simp) (by simp; omega)]
    clear hrec
    simp only [F257.l10, F257.j20, F257.j21, F257.j28, F257.j29]
    by_cases hi : i < a0.length
    · obtain ⟨x, hx, hdx⟩ := getI_drop i0 hi
      have wi : w64 (i + 1) = i + 1 := w64_of (by omega) (by omega)
      have ei : (i + 1).toNat = i.toNat + 1 := by omega
      have hlx := hfit out x.Name (by omega)
      by_cases hk : k < a1.length
      · obtain ⟨y, hy, hdy⟩ := getI_drop k0 hk
        have wk : w64 (k + 1) = k + 1 := w64_of (by omega) (by omega)
        have ek : (k + 1).toNat = k.toNat + 1 := by omega
        have hly := hfit out y.Name (by omega)
        have en : a0.length - i.toNat + (a1.length - k.toNat) = (a0.length - i.toNat + (a1.length - k.toNat) - 1) + 1 := by omega
        have nk : ¬ (a1.length : Int) ≤ k := by omega
        have ni : ¬ (a0.length : Int) ≤ i := by omega
        have r1 := R (out ++ [x.Name]) (i + 1) k (by omega) (by omega) k0 k1 (by simp; omega) (by omega) (a0.length - i.toNat + (a1.length - k.toNat) - 1) (by omega)
        have r2 := R (out ++ [y.Name]) i (k + 1) i0 i1 (by omega) (by omega) (by simp; omega) (by omega) (a0.length - i.toNat + (a1.length - k.toNat) - 1) (by omega)
        have r3 := R (out ++ [x.Name]) (i + 1) (k + 1) (by omega) (by omega) (by omega) (by omega) (by simp; omega) (by omega) (a0.length - i.toNat + (a1.length - k.toNat) - 1) (by omega)
        rw [hdy] at r1
        rw [hdx] at r2
        rw [en, hdx, hdy] at h
        rw [← h]
        simp only [List.map_cons, mergeN, hi, hk, nk, ni, hx, hy, decide_true, decide_false, Bool.or_self, Bool.true_or, if_true, Bool.false_eq_true, if_false, Option.bind_some, wi, wk, hlx, hly, r1, r2, r3]
        by_cases b1 : Op.bytesLess x.Name y.Name = true
        · simp [b1]
          exact ⟨by omega, by omega⟩
        · by_cases b2 : Op.bytesLess y.Name x.Name = true
          · simp [b1, b2]
            exact ⟨by omega, by omega⟩
          · simp [b1, b2]
            exact ⟨by omega, by omega⟩
      · have nk : (a1.length : Int) ≤ k := by omega
        have e0 : a1.drop k.toNat = [] := List.drop_eq_nil_of_le (by omega)
        have en : a0.length - i.toNat + (a1.length - k.toNat) = (a0.length - i.toNat - 1) + 1 := by omega
        have r1 := R (out ++ [x.Name]) (i + 1) k (by omega) (by omega) k0 k1 (by simp; omega) (by omega) (a0.length - i.toNat - 1) (by omega)
        rw [e0] at r1
        rw [en, hdx, e0] at h
        rw [← h]
        simp only [List.map_cons, List.map_nil, mergeN, hi, hk, nk, hx, decide_true, decide_false, Bool.or_false, Bool.true_or, if_true, Option.bind_some, wi, hlx, r1]
        simp
        exact ⟨by omega, by omega⟩
    · have ni : (a0.length : Int) ≤ i := by omega
      have e0 : a0.drop i.toNat = [] := List.drop_eq_nil_of_le (by omega)
      by_cases hk : k < a1.length
      · obtain ⟨y, hy, hdy⟩ := getI_drop k0 hk
        have wk : w64 (k + 1) = k + 1 := w64_of (by omega) (by omega)
        have ek : (k + 1).toNat = k.toNat + 1 := by omega
        have hly := hfit out y.Name (by omega)
        have en : a0.length - i.toNat + (a1.length - k.toNat) = (a1.length - k.toNat - 1) + 1 := by omega
        have nk : ¬ (a1.length : Int) ≤ k := by omega
        have r2 := R (out ++ [y.Name]) i (k + 1) i0 i1 (by omega) (by omega) (by simp; omega) (by omega) (a1.length - k.toNat - 1) (by omega)
        rw [e0] at r2
        rw [en, hdy, e0] at h
        rw [← h]
        simp only [List.map_cons, List.map_nil, mergeN, hi, hk, nk, ni, hy, decide_true, decide_false, Bool.false_or, if_true, Bool.false_eq_true, if_false, Option.bind_some, wk, hly, r2]
        simp
        exact ⟨by omega, by omega⟩
      · have e1 : a1.drop k.toNat = [] := List.drop_eq_nil_of_le (by omega)
        have en : a0.length - i.toNat + (a1.length - k.toNat) = 0 := by omega
        rw [en] at h
        rw [← h]
        simp [hi, hk, mergeN]
  · simp [F257]


-- ballastref5.Get
def F77.l6 (a0 : (List Amount)) (a1 : Str) (rec6 : (Int) → Option Int) : (Int) → Option Int := fun p6 =>
  if decide (p6 < (List.length a0 : Int)) = true then ((getI a0 p6).bind fun x12_2 => if decide (x12_2.Name = a1) = true then ((getI a0 p6).bind fun x14_2 => some x14_2.N) else (rec6 (w64 (p6 + (1 : Int))))) else (some 0)
def F77 (l6 : (Int) → Option Int) (a0 : (List Amount)) (a1 : Str) : Option Int :=
  l6 0
/-- ballast/ballastref5.Get -/
theorem c77 (a0 : (List Amount)) (a1 : Str) (l6 : (Int) → Option Int) (hl6 : Rounds (F77.l6 a0 a1) (l6)) (r : Int) (h : F77 l6 a0 a1 = some r) :
    Det Tryz.prog 77 [AV.lst 2 Amount.av a0, AV.str a1] (.ret (AV.int r)) := by
  refine Det.of_le ?_
  refine @calls_of_body Tryz.prog 77 Tryz.f77 _ Tryz.func77 rfl (by kernel_rfl) [.tmp 4] (by rw [Tryz.results77]) 24 Tryz.ntmps77 _ _ _ (by simp only [List.length_cons, List.length_nil]; decide) ?_
  unfold F77 at h
  refine awp_sr kpNone [] [] [0, 1] (cs := []) (st' := ⟨24, [(0, AV.lst 2 Amount.av a0), (1, AV.str a1)], [], [], []⟩) (by kernel_rfl) trivial ?_
  refine awp_seq fun N3 hN3 => ?_
  refine awp_sr kpNone [] [] [0, 1, 5] (cs := []) (st' := ⟨24, [(0, AV.lst 2 Amount.av a0), (1, AV.str a1), (5, AV.int 0)], [], [], []⟩) (by kernel_rfl) trivial ?_
  refine awp_block ?_
  refine awp_loop ?_
  refine awpL_le (st' := ⟨24, [(0, AV.lst 2 Amount.av a0), (1, AV.str a1), (5, AV.int 0)], [], [], []⟩) ?_ ?_
  · exact Le.rfl'
  refine awpL_fix hl6 r (fun p6 => ⟨24, [(0, AV.lst 2 Amount.av a0), (1, AV.str a1), (5, AV.int p6)], [], [], []⟩) (fun rec6 hrec6 p6 h => ?_) 0 h
  unfold F77.l6 at h
  refine awpL_round ?_
  refine awp_seq fun N7 hN7 => ?_
  refine awp_sr kpNone [(2, AV.int (List.length a0 : Int))] [] [0, 1, 5, 9] (cs := [((AV.int (List.length a0 : Int) = .val (.int .i64 (List.length (List.map Amount.av a0) : Int))))]) (st' := ⟨24, [(0, AV.lst 2 Amount.av a0), (1, AV.str a1), (5, AV.int p6), (9, AV.bool (decide (p6 < (List.length a0 : Int))))], [], [], []⟩) (by kernel_rfl) ⟨len_map _ _, trivial⟩ ?_
  refine awp_cond (t := decide (p6 < (List.length a0 : Int))) rfl (fun hb => ?_) (fun hb => ?_)
  · rw [if_pos hb] at h
    refine awp_skip ?_
    refine hN7 _ ?_
    refine awp_seq fun N10 hN10 => ?_
    refine awp_block ?_
    obtain ⟨x12_2, hx12_2, h⟩ := Option.bind_eq_some_iff.1 h
    refine awp_sr kpNone [(2, Amount.av x12_2)] [] [0, 1, 5, 18] (cs := [(0 ≤ p6), ((List.map Amount.av a0)[Int.toNat p6]? = some (Amount.av x12_2))]) (st' := ⟨24, [(0, AV.lst 2 Amount.av a0), (1, AV.str a1), (5, AV.int p6), (18, AV.bool (decide (x12_2.Name = a1)))], [], [], []⟩) (by kernel_rfl) ⟨getI_le hx12_2, getI_map hx12_2 _, trivial⟩ ?_
    refine awp_cond (t := decide (x12_2.Name = a1)) rfl (fun hb => ?_) (fun hb => ?_)
    · rw [if_pos hb] at h
      obtain ⟨x14_2, hx14_2, h⟩ := Option.bind_eq_some_iff.1 h
      refine awp_sr kpNone [(2, Amount.av x14_2)] [] [4] (cs := [(0 ≤ p6), ((List.map Amount.av a0)[Int.toNat p6]? = some (Amount.av x14_2))]) (st' := ⟨24, [(4, AV.int x14_2.N)], [], [], []⟩) (by kernel_rfl) ⟨getI_le hx14_2, getI_map hx14_2 _, trivial⟩ ?_
      have h := Option.some.inj h
      subst h
      exact awp_ret ⟨[AV.int x14_2.N], by kernel_rfl, Lw.refl _⟩
    · rw [if_false hb] at h
      refine awp_skip ?_
      refine hN10 _ ?_
      refine awp_reg kpNone [] [] [0, 1, 5] (cs := []) (st' := ⟨24, [(0, AV.lst 2 Amount.av a0), (1, AV.str a1), (5, AV.int (w64 (p6 + (1 : Int))))], [], [], []⟩) (by kernel_rfl) trivial ?_
      refine awpL_le ?_ (hrec6 _ h)
      exact Le.rfl'
  · rw [if_false hb] at h
    refine awp_exit ?_
    refine hN3 _ ?_
    refine awp_sr kpNone [] [] [4] (cs := []) (st' := ⟨24, [(4, AV.int 0)], [], [], []⟩) (by kernel_rfl) trivial ?_
    have h := Option.some.inj h
    subst h
    exact awp_ret ⟨[AV.int 0], by kernel_rfl, Lw.refl _⟩
-- {"kind": "tot", "S": "getN", "thm": "d77"}
theorem d77 (a0 : List Amount) (a1 : Str) : Det Tryz.prog 77 [AV.lst 2 Amount.av a0, AV.str a1] (.ret (AV.int (getN a0 a1))) := by
  refine Det.len 0 rfl fun hl => c77 a0 a1 _ (rounds_list a0 hl (fun t => some (getN t a1)) _ ?_ ?_) _ ?_
  · intro rec
    simp [F77.l6, getN]
  · intro rec p x t h0 h1 hx hd hr hw
    simp only [F77.l6, hx, hw, hr, h1, decide_true, if_true, Option.bind_some, getN, decide_eq_true_eq]
    split <;> rfl
  · simp [F77]


-- ballastref5.Add
def F258 (a0 : Int) (a1 : Int) : Option (Int × Int) :=
  if ((decide (a0 < (0 : Int))) || (decide (a1 < (0 : Int)))) = true then (some (0, 1)) else (if decide ((w64 ((9223372036854775807 : Int) - a1)) < a0) = true then (some (0, 5)) else (some (w64 (a0 + a1), 0)))
/-- ballast/ballastref5.Add -/
theorem c258 (a0 : Int) (a1 : Int) (r : (Int × Int)) (h : F258 a0 a1 = some r) :
    Det Tryz.prog 258 [AV.int a0, AV.int a1] (.ret (.tuple [AV.int r.1, AV.int r.2])) := by
  refine Det.of_le ?_
  refine @calls_of_body Tryz.prog 258 Tryz.f258 _ Tryz.func258 rfl (by kernel_rfl) [.tmp 4, .tmp 5] (by rw [Tryz.results258]) 19 Tryz.ntmps258 _ _ _ (by simp only [List.length_cons, List.length_nil]; decide) ?_
  unfold F258 at h
  refine awp_sr kpNone [] [] [0, 1] (cs := []) (st' := ⟨19, [(0, AV.int a0), (1, AV.int a1)], [], [], []⟩) (by kernel_rfl) trivial ?_
  refine awp_seq fun N3 hN3 => ?_
  refine awp_seq fun N4 hN4 => ?_
  refine awp_to (σ := Bool) (fun p => ⟨19, [(0, AV.int a0), (1, AV.int a1), (11, AV.bool p)], [], [], []⟩) (fun p => p = ((decide (a0 < (0 : Int))) || (decide (a1 < (0 : Int))))) (fun p hp => ?_) (fun N7 hJ7 => ?_)
  · subst hp
    refine hN4 _ ?_
    refine awp_cond (t := ((decide (a0 < (0 : Int))) || (decide (a1 < (0 : Int))))) rfl (fun hb => ?_) (fun hb => ?_)
    · rw [if_pos hb] at h
      refine awp_sr kpNone [] [] [4, 5] (cs := []) (st' := ⟨19, [(4, AV.int 0), (5, AV.int 1)], [], [], []⟩) (by kernel_rfl) trivial ?_
      have h := Option.some.inj h
      subst h
      exact awp_ret ⟨[AV.int 0, AV.int 1], by kernel_rfl, Lw.refl _⟩
    · rw [if_false hb] at h
      refine awp_skip ?_
      refine hN3 _ ?_
      refine awp_seq fun N10 hN10 => ?_
      refine awp_sr kpNone [] [] [0, 1, 15] (cs := []) (st' := ⟨19, [(0, AV.int a0), (1, AV.int a1), (15, AV.bool (decide ((w64 ((9223372036854775807 : Int) - a1)) < a0)))], [], [], []⟩) (by kernel_rfl) trivial ?_
      refine awp_cond (t := decide ((w64 ((9223372036854775807 : Int) - a1)) < a0)) rfl (fun hb => ?_) (fun hb => ?_)
      · rw [if_pos hb] at h
        refine awp_sr kpNone [] [] [4, 5] (cs := []) (st' := ⟨19, [(4, AV.int 0), (5, AV.int 5)], [], [], []⟩) (by kernel_rfl) trivial ?_
        have h := Option.some.inj h
        subst h
        exact awp_ret ⟨[AV.int 0, AV.int 5], by kernel_rfl, Lw.refl _⟩
      · rw [if_false hb] at h
        refine awp_skip ?_
        refine hN10 _ ?_
        refine awp_sr kpNone [] [] [4, 5] (cs := []) (st' := ⟨19, [(4, AV.int (w64 (a0 + a1))), (5, AV.int 0)], [], [], []⟩) (by kernel_rfl) trivial ?_
        have h := Option.some.inj h
        subst h
        exact awp_ret ⟨[AV.int (w64 (a0 + a1)), AV.int 0], by kernel_rfl, Lw.refl _⟩
  · by_cases hg6 : decide (a0 < (0 : Int)) = true
    · refine awp_reg kpNone [] [(2, true)] [0, 1, 11] (cs := [(decide (a0 < (0 : Int)) = true)]) (st' := ⟨19, [(0, AV.int a0), (1, AV.int a1), (11, AV.bool true)], [], [], []⟩) (by kernel_rfl) ⟨hg6, trivial⟩ ?_
      exact hJ7 true _ (by first | rfl | (rw [hg6]; done) | (rw [hg6]; rfl) | (simp [hg6]; done) | (exfalso; revert hg6; simp; done) | (exfalso; revert hg6; simp; intros; assumption)) (Le.rfl')
    · have hg6 := Bool.eq_false_iff.2 hg6
      refine awp_reg kpNone [] [(2, false)] [0, 1, 11] (cs := [(decide (a0 < (0 : Int)) = false)]) (st' := ⟨19, [(0, AV.int a0), (1, AV.int a1), (11, AV.bool (decide (a1 < (0 : Int))))], [], [], []⟩) (by kernel_rfl) ⟨hg6, trivial⟩ ?_
      exact hJ7 (decide (a1 < (0 : Int))) _ (by first | rfl | (rw [hg6]; done) | (rw [hg6]; rfl) | (simp [hg6]; done) | (exfalso; revert hg6; simp; done) | (exfalso; revert hg6; simp; intros; assumption)) (Le.rfl')


-- ballastref5.whole
def F259 (a0 : (List Amount)) : Option ((List Amount) × Int) :=
  if decide ((8 : Int) < (List.length a0 : Int)) = true then (some (([] : (List Amount)), 4)) else (some (a0, 0))
/-- ballast/ballastref5.whole -/
theorem c259 (a0 : (List Amount)) (r : ((List Amount) × Int)) (h : F259 a0 = some r) :
    Det Tryz.prog 259 [AV.lst 2 Amount.av a0] (.ret (.tuple [AV.lst 2 Amount.av r.1, AV.int r.2])) := by
  refine Det.of_le ?_
  refine @calls_of_body Tryz.prog 259 Tryz.f259 _ Tryz.func259 rfl (by kernel_rfl) [.tmp 2, .tmp 3] (by rw [Tryz.results259]) 8 Tryz.ntmps259 _ _ _ (by simp only [List.length_cons, List.length_nil]; decide) ?_
  unfold F259 at h
  refine awp_sr kpNone [] [] [0] (cs := []) (st' := ⟨8, [(0, AV.lst 2 Amount.av a0)], [], [], []⟩) (by kernel_rfl) trivial ?_
  refine awp_seq fun N3 hN3 => ?_
  refine awp_sr kpNone [(1, AV.int (List.length a0 : Int))] [] [0, 6] (cs := [((AV.int (List.length a0 : Int) = .val (.int .i64 (List.length (List.map Amount.av a0) : Int))))]) (st' := ⟨8, [(0, AV.lst 2 Amount.av a0), (6, AV.bool (decide ((8 : Int) < (List.length a0 : Int))))], [], [], []⟩) (by kernel_rfl) ⟨len_map _ _, trivial⟩ ?_
  refine awp_cond (t := decide ((8 : Int) < (List.length a0 : Int))) rfl (fun hb => ?_) (fun hb => ?_)
  · rw [if_pos hb] at h
    refine awp_sr kpNone [] [] [2, 3] (cs := []) (st' := ⟨8, [(2, .nils), (3, AV.int 4)], [], [], []⟩) (by kernel_rfl) trivial ?_
    have h := Option.some.inj h
    subst h
    exact awp_ret ⟨[.nils, AV.int 4], by kernel_rfl, Lw.tupleL ⟨(Lw.nils _), (Lw.refl _), trivial⟩⟩
  · rw [if_false hb] at h
    refine awp_skip ?_
    refine hN3 _ ?_
    refine awp_sr kpNone [] [] [2, 3] (cs := []) (st' := ⟨8, [(2, AV.lst 2 Amount.av a0), (3, AV.int 0)], [], [], []⟩) (by kernel_rfl) trivial ?_
    have h := Option.some.inj h
    subst h
    exact awp_ret ⟨[AV.lst 2 Amount.av a0, AV.int 0], by kernel_rfl, Lw.refl _⟩


-- ballastref5.AddVec
def F155.l17 (x11_2 : (List Str)) (a0 : (List Amount)) (a1 : (List Amount)) (rec17 : (List Amount × Int) → Option ((List Amount) × Int)) : (List Amount × Int) → Option ((List Amount) × Int) := fun p17 =>
  if decide (p17.2 < (List.length x11_2 : Int)) = true then ((getI x11_2 p17.2).bind fun x23_3 => (getI x11_2 p17.2).bind fun x23_9 => (F258 (getN a0 x23_3) (getN a1 x23_9)).bind fun x23_12 => if decide (¬ x23_12.2 = (0 : Int)) = true then (some (([] : (List Amount)), x23_12.2)) else ((getI x11_2 p17.2).bind fun x29_3 => if fits 24 (List.length (p17.1 ++ [(⟨x29_3, x23_12.1⟩ : Amount)])) then (rec17 (p17.1 ++ [(⟨x29_3, x23_12.1⟩ : Amount)], w64 (p17.2 + (1 : Int)))) else none)) else ((F259 p17.1).bind fun x32_1 => some (x32_1.1, x32_1.2))
def F155 (l17 : ((List Str)) → (List Amount × Int) → Option ((List Amount) × Int)) (a0 : (List Amount)) (a1 : (List Amount)) : Option ((List Amount) × Int) :=
  (F256 a0 a1).bind fun x4_2 => if decide (¬ x4_2 = (0 : Int)) = true then (some (([] : (List Amount)), x4_2)) else ((namesR a0 a1).bind fun x11_2 => l17 x11_2 (([] : List Amount), 0))
/-- ballast/ballastref5.AddVec -/
theorem c155 (a0 : (List Amount)) (a1 : (List Amount)) (l17 : ((List Str)) → (List Amount × Int) → Option ((List Amount) × Int)) (hl17 : ∀ (x11_2 : (List Str)), Rounds (F155.l17 x11_2 a0 a1) (l17 x11_2)) (r : ((List Amount) × Int)) (h : F155 l17 a0 a1 = some r) :
    Det Tryz.prog 155 [AV.lst 2 Amount.av a0, AV.lst 2 Amount.av a1] (.ret (.tuple [AV.lst 2 Amount.av r.1, AV.int r.2])) := by
  refine Det.of_le ?_
  refine @calls_of_body Tryz.prog 155 Tryz.f155 _ Tryz.func155 rfl (by kernel_rfl) [.tmp 4, .tmp 5] (by rw [Tryz.results155]) 59 Tryz.ntmps155 _ _ _ (by simp only [List.length_cons, List.length_nil]; decide) ?_
  unfold F155 at h
  refine awp_sr kpNone [] [] [0, 1] (cs := []) (st' := ⟨59, [(0, AV.lst 2 Amount.av a0), (1, AV.lst 2 Amount.av a1)], [], [], []⟩) (by kernel_rfl) trivial ?_
  obtain ⟨x4_2, hx4_2, h⟩ := Option.bind_eq_some_iff.1 h
  refine awp_sr kpNone [(2, AV.int x4_2)] [] [0, 1, 6] (cs := [(Det Tryz.prog 256 [AV.lst 2 Amount.av a0, AV.lst 2 Amount.av a1] (.ret (AV.int x4_2)))]) (st' := ⟨59, [(0, AV.lst 2 Amount.av a0), (1, AV.lst 2 Amount.av a1), (6, AV.int x4_2)], [], [], []⟩) (by kernel_rfl) ⟨c256 a0 a1 _ hx4_2, trivial⟩ ?_
  refine awp_seq fun N5 hN5 => ?_
  refine awp_sr kpNone [] [] [0, 1, 6, 16] (cs := []) (st' := ⟨59, [(0, AV.lst 2 Amount.av a0), (1, AV.lst 2 Amount.av a1), (6, AV.int x4_2), (16, AV.bool (decide (¬ x4_2 = (0 : Int))))], [], [], []⟩) (by kernel_rfl) trivial ?_
  refine awp_cond (t := decide (¬ x4_2 = (0 : Int))) rfl (fun hb => ?_) (fun hb => ?_)
  · rw [if_pos hb] at h
    refine awp_sr kpNone [] [] [4, 5] (cs := []) (st' := ⟨59, [(4, .nils), (5, AV.int x4_2)], [], [], []⟩) (by kernel_rfl) trivial ?_
    have h := Option.some.inj h
    subst h
    exact awp_ret ⟨[.nils, AV.int x4_2], by kernel_rfl, Lw.tupleL ⟨(Lw.nils _), (Lw.refl _), trivial⟩⟩
  · rw [if_false hb] at h
    refine awp_skip ?_
    refine hN5 _ ?_
    obtain ⟨x11_2, hx11_2, h⟩ := Option.bind_eq_some_iff.1 h
    refine awp_sr kpNone [(2, AV.lst 1 AV.str x11_2)] [] [0, 1, 7] (cs := [(Det Tryz.prog 257 [AV.lst 2 Amount.av a0, AV.lst 2 Amount.av a1] (.ret (AV.lst 1 AV.str x11_2)))]) (st' := ⟨59, [(0, AV.lst 2 Amount.av a0), (1, AV.lst 2 Amount.av a1), (7, AV.lst 1 AV.str x11_2)], [], [], []⟩) (by kernel_rfl) ⟨d257 a0 a1 _ hx11_2, trivial⟩ ?_
    refine awp_sr kpNone [] [] [0, 1, 7, 8] (cs := []) (st' := ⟨59, [(0, AV.lst 2 Amount.av a0), (1, AV.lst 2 Amount.av a1), (7, AV.lst 1 AV.str x11_2), (8, .nils)], [], [], []⟩) (by kernel_rfl) trivial ?_
    refine awp_seq fun N14 hN14 => ?_
    refine awp_sr kpNone [] [] [0, 1, 7, 8, 9] (cs := []) (st' := ⟨59, [(0, AV.lst 2 Amount.av a0), (1, AV.lst 2 Amount.av a1), (7, AV.lst 1 AV.str x11_2), (8, .nils), (9, AV.int 0)], [], [], []⟩) (by kernel_rfl) trivial ?_
    refine awp_block ?_
    refine awp_loop ?_
    refine awpL_le (st' := ⟨59, [(0, AV.lst 2 Amount.av a0), (1, AV.lst 2 Amount.av a1), (7, AV.lst 1 AV.str x11_2), (8, .slice (.own 54) 2 (List.map Amount.av ([] : List Amount))), (9, AV.int 0)], [], [], [(54, (226, 2, List.length (List.map Amount.av ([] : List Amount))))]⟩) ?_ ?_
    · exact Le.mk rfl ⟨.inl rfl, .inl rfl, .inl rfl, .inr ⟨rfl, rfl, rfl⟩, rfl, trivial⟩ trivial ⟨⟨rfl, by decide⟩, trivial⟩ trivial
    refine awpL_fix (hl17 x11_2) r (fun p17 => ⟨59, [(0, AV.lst 2 Amount.av a0), (1, AV.lst 2 Amount.av a1), (7, AV.lst 1 AV.str x11_2), (8, .slice (.own 54) 2 (List.map Amount.av p17.1)), (9, AV.int p17.2)], [], [], [(54, (226, 2, List.length (List.map Amount.av p17.1)))]⟩) (fun rec17 hrec17 p17 h => ?_) (([] : List Amount), 0) h
    unfold F155.l17 at h
    refine awpL_round ?_
    refine awp_seq fun N18 hN18 => ?_
    refine awp_sr kpNone [(2, AV.int (List.length x11_2 : Int))] [] [0, 1, 7, 8, 9, 24] (cs := [((AV.int (List.length x11_2 : Int) = .val (.int .i64 (List.length (List.map AV.str x11_2) : Int))))]) (st' := ⟨59, [(0, AV.lst 2 Amount.av a0), (1, AV.lst 2 Amount.av a1), (7, AV.lst 1 AV.str x11_2), (8, .slice (.own 54) 2 (List.map Amount.av p17.1)), (9, AV.int p17.2), (24, AV.bool (decide (p17.2 < (List.length x11_2 : Int))))], [], [], [(54, (226, 2, List.length (List.map Amount.av p17.1)))]⟩) (by kernel_rfl) ⟨len_map _ _, trivial⟩ ?_
    refine awp_cond (t := decide (p17.2 < (List.length x11_2 : Int))) rfl (fun hb => ?_) (fun hb => ?_)
    · rw [if_pos hb] at h
      refine awp_skip ?_
      refine hN18 _ ?_
      refine awp_seq fun N21 hN21 => ?_
      refine awp_block ?_
      refine awp_seq fun N22 hN22 => ?_
      obtain ⟨x23_3, hx23_3, h⟩ := Option.bind_eq_some_iff.1 h
      obtain ⟨x23_9, hx23_9, h⟩ := Option.bind_eq_some_iff.1 h
      obtain ⟨x23_12, hx23_12, h⟩ := Option.bind_eq_some_iff.1 h
      refine awp_regD mixedTryz kpNone [(3, AV.str x23_3), (5, AV.int (getN a0 x23_3)), (9, AV.str x23_9), (11, AV.int (getN a1 x23_9)), (12, .tuple [AV.int x23_12.1, AV.int x23_12.2])] [] [0, 1, 7, 8, 9, 10, 11] (by kernel_rfl) (cs := [(0 ≤ p17.2), ((List.map AV.str x11_2)[Int.toNat p17.2]? = some (AV.str x23_3)), (Det Tryz.prog 77 [AV.lst 2 Amount.av a0, AV.str x23_3] (.ret (AV.int (getN a0 x23_3)))), (0 ≤ p17.2), ((List.map AV.str x11_2)[Int.toNat p17.2]? = some (AV.str x23_9)), (Det Tryz.prog 77 [AV.lst 2 Amount.av a1, AV.str x23_9] (.ret (AV.int (getN a1 x23_9)))), (Det Tryz.prog 258 [AV.int (getN a0 x23_3), AV.int (getN a1 x23_9)] (.ret (.tuple [AV.int x23_12.1, AV.int x23_12.2])))]) (st' := ⟨59, [(0, AV.lst 2 Amount.av a0), (1, AV.lst 2 Amount.av a1), (7, AV.lst 1 AV.str x11_2), (8, .slice (.own 54) 2 (List.map Amount.av p17.1)), (9, AV.int p17.2), (10, AV.int x23_12.1), (11, AV.int x23_12.2)], [], [], [(54, (226, 2, List.length (List.map Amount.av p17.1)))]⟩) (by kernel_rfl) ⟨getI_le hx23_3, getI_map hx23_3 _, d77 a0 x23_3, getI_le hx23_9, getI_map hx23_9 _, d77 a1 x23_9, c258 (getN a0 x23_3) (getN a1 x23_9) _ hx23_12, trivial⟩ ?_
      refine hN22 _ ?_
      refine awp_seq fun N24 hN24 => ?_
      refine awp_sr kpNone [] [] [0, 1, 7, 8, 9, 10, 11, 44] (cs := []) (st' := ⟨59, [(0, AV.lst 2 Amount.av a0), (1, AV.lst 2 Amount.av a1), (7, AV.lst 1 AV.str x11_2), (8, .slice (.own 54) 2 (List.map Amount.av p17.1)), (9, AV.int p17.2), (10, AV.int x23_12.1), (11, AV.int x23_12.2), (44, AV.bool (decide (¬ x23_12.2 = (0 : Int))))], [], [], [(54, (226, 2, List.length (List.map Amount.av p17.1)))]⟩) (by kernel_rfl) trivial ?_
      refine awp_cond (t := decide (¬ x23_12.2 = (0 : Int))) rfl (fun hb => ?_) (fun hb => ?_)
      · rw [if_pos hb] at h
        refine awp_sr kpNone [] [] [4, 5] (cs := []) (st' := ⟨59, [(4, .nils), (5, AV.int x23_12.2)], [], [], [(54, (226, 2, List.length (List.map Amount.av p17.1)))]⟩) (by kernel_rfl) trivial ?_
        have h := Option.some.inj h
        subst h
        exact awp_ret ⟨[.nils, AV.int x23_12.2], by kernel_rfl, Lw.tupleL ⟨(Lw.nils _), (Lw.refl _), trivial⟩⟩
      · rw [if_false hb] at h
        refine awp_skip ?_
        refine hN24 _ ?_
        obtain ⟨x29_3, hx29_3, h⟩ := Option.bind_eq_some_iff.1 h
        obtain ⟨hp29_8, h⟩ := guardP h
        refine awp_reg kpNone [(3, AV.str x29_3), (8, AV.lst 2 Amount.av (p17.1 ++ [(⟨x29_3, x23_12.1⟩ : Amount)]))] [] [0, 1, 7, 8, 9] (cs := [(0 ≤ p17.2), ((List.map AV.str x11_2)[Int.toNat p17.2]? = some (AV.str x29_3)), (List.length (List.map Amount.av p17.1) = List.length (List.map Amount.av p17.1)), (List.length (List.map Amount.av (p17.1 ++ [(⟨x29_3, x23_12.1⟩ : Amount)])) * 24 ≤ 140737488355328), (List.length (List.map Amount.av (p17.1 ++ [(⟨x29_3, x23_12.1⟩ : Amount)])) ≤ 140737488355328), (List.map Amount.av p17.1 ++ List.map Amount.av [(⟨x29_3, x23_12.1⟩ : Amount)] = List.map Amount.av (p17.1 ++ [(⟨x29_3, x23_12.1⟩ : Amount)]))]) (st' := ⟨59, [(0, AV.lst 2 Amount.av a0), (1, AV.lst 2 Amount.av a1), (7, AV.lst 1 AV.str x11_2), (8, .slice (.own 54) 2 (List.map Amount.av (p17.1 ++ [(⟨x29_3, x23_12.1⟩ : Amount)]))), (9, AV.int p17.2)], [], [], [(54, (226, 2, List.length (List.map Amount.av (p17.1 ++ [(⟨x29_3, x23_12.1⟩ : Amount)])))), (53, (226, 2, 1))]⟩) (by kernel_rfl) ⟨getI_le hx29_3, getI_map hx29_3 _, by simp only [List.length_map, List.length_cons, List.length_nil], len_mul _ _ _ _ hp29_8.1, len_ge _ _ hp29_8.2, lst_app _ _ _, trivial⟩ ?_
        refine hN21 _ ?_
        refine awp_reg kpNone [] [] [0, 1, 7, 8, 9] (cs := []) (st' := ⟨59, [(0, AV.lst 2 Amount.av a0), (1, AV.lst 2 Amount.av a1), (7, AV.lst 1 AV.str x11_2), (8, .slice (.own 54) 2 (List.map Amount.av (p17.1 ++ [(⟨x29_3, x23_12.1⟩ : Amount)]))), (9, AV.int (w64 (p17.2 + (1 : Int))))], [], [], [(54, (226, 2, List.length (List.map Amount.av (p17.1 ++ [(⟨x29_3, x23_12.1⟩ : Amount)])))), (53, (226, 2, 1))]⟩) (by kernel_rfl) trivial ?_
        refine awpL_le ?_ (hrec17 _ h)
        exact Le.mk rfl ⟨.inl rfl, .inl rfl, .inl rfl, .inl ⟨rfl, rfl⟩, rfl, trivial⟩ trivial ⟨rfl, trivial⟩ trivial
    · rw [if_false hb] at h
      refine awp_exit ?_
      refine hN14 _ ?_
      obtain ⟨x32_1, hx32_1, h⟩ := Option.bind_eq_some_iff.1 h
      refine awp_sr kpNone [(1, .tuple [AV.lst 2 Amount.av x32_1.1, AV.int x32_1.2])] [] [4, 5] (cs := [(Det Tryz.prog 259 [AV.lst 2 Amount.av p17.1] (.ret (.tuple [AV.lst 2 Amount.av x32_1.1, AV.int x32_1.2])))]) (st' := ⟨59, [(4, AV.lst 2 Amount.av x32_1.1), (5, AV.int x32_1.2)], [], [], [(54, (226, 2, List.length (List.map Amount.av p17.1)))]⟩) (by kernel_rfl) ⟨c259 p17.1 _ hx32_1, trivial⟩ ?_
      have h := Option.some.inj h
      subst h
      exact awp_ret ⟨[AV.lst 2 Amount.av x32_1.1, AV.int x32_1.2], by kernel_rfl, Lw.refl _⟩
-- {"kind": "tot", "S": "addVec", "thm": "d155"}
theorem d155 (a0 a1 : List Amount) : Det Tryz.prog 155 [AV.lst 2 Amount.av a0, AV.lst 2 Amount.av a1] (.ret (.tuple [AV.lst 2 Amount.av (addVec a0 a1).1, AV.int (addVec a0 a1).2])) := by
  have hm : maxLen = 9223372036854775807 := rfl
  by_cases q1 : checkVec a0 = 0
  rotate_left
  · refine c155 a0 a1 (fun _ _ => none) (fun _ => rounds_none _) _ ?_
    simp [F155, F256, addVec, q1]
  by_cases q2 : checkVec a1 = 0
  rotate_left
  · refine c155 a0 a1 (fun _ _ => none) (fun _ => rounds_none _) _ ?_
    simp [F155, F256, addVec, q1, q2]
  have l1 := checkVec_len q1
  have l2 := checkVec_len q2
  have hfit : fits 16 (a0.length + a1.length) := ⟨by omega, by omega⟩
  have hml := mergeN_len (a0.length + a1.length) (a0.map Amount.Name) (a1.map Amount.Name)
  refine c155 a0 a1 (fun l q => if l.length ≤ 16 ∧ q.1.length ≤ q.2.toNat ∧ 0 ≤ q.2 ∧ q.2 ≤ l.length then some (addL a0 a1 (l.drop q.2.toNat) q.1) else none) (fun l => ?_) _ ?_
  · refine rounds_mk ⟨fun q => (l.length - q.2).toNat, ?_⟩
    rintro ⟨out, p⟩ r h
    simp only at h
    split at h
    rotate_left
    · cases h
    rename_i hq
    obtain ⟨h16, hol, hp0, hp1⟩ := hq
    generalize hrec : (fun y : List Amount × Int => if (_ : Nat) < _ then _ else (none : Option (List Amount × Int))) = rec
    have R : p < l.length → ∀ y : Amount, rec (out ++ [y], p + 1) = some (addL a0 a1 (l.drop (p + 1).toNat) (out ++ [y])) := by
      intro hlt y
      rw [← hrec]
      simp only
      rw [if_pos (by omega), if_pos ⟨h16, by simp; omega, by omega, by omega⟩]
    clear hrec
    rw [← h]
    simp only [F155.l17, F259]
    by_cases hlt : p < l.length
    · obtain ⟨x, hx, hd⟩ := getI_drop hp0 hlt
      have hw : w64 (p + 1) = p + 1 := w64_of (by omega) (by omega)
      have hf : ∀ y : Amount, fits 24 (List.length (out ++ [y])) := fun y => ⟨by simp; omega, by simp; omega⟩
      have he : F258 (getN a0 x) (getN a1 x) = some (rAdd (getN a0 x) (getN a1 x)) := by
        simp only [F258, rAdd]
        repeat' split
        all_goals rfl
      rw [hd]
      simp only [hlt, hx, decide_true, if_true, Option.bind_some, he, addL, hf, hw, R hlt, decide_eq_true_eq, ne_eq]
      by_cases q3 : (rAdd (getN a0 x) (getN a1 x)).2 = 0
      · simp [q3]
        exact ⟨by omega, by omega⟩
      · simp [q3]
    · have : p = l.length := by omega
      subst this
      simp only [Int.toNat_natCast, List.drop_length, addL, Int.lt_irrefl, decide_false, Bool.false_eq_true, if_false, decide_eq_true_eq]
      by_cases q4 : 8 < out.length
      · have : (8 : Int) < out.length := by omega
        simp [q4, this]
      · have : ¬ (8 : Int) < out.length := by omega
        simp [q4, this]
  · have hn : namesR a0 a1 = some (mergeN (a0.length + a1.length) (a0.map Amount.Name) (a1.map Amount.Name)) := if_pos hfit
    have h16 : (mergeN (a0.length + a1.length) (a0.map Amount.Name) (a1.map Amount.Name)).length ≤ 16 := by omega
    simp [F155, F256, addVec, q1, q2, hn, h16]


-- ballastref10.Used
def F56.l15 (a0 : State) (a1 : Str) (rec15 : (List Amount × Int) → Option ((List Amount) × Int)) : (List Amount × Int) → Option ((List Amount) × Int) := fun p15 =>
  if decide (p15.2 < (List.length a0.Pods : Int)) = true then ((getI a0.Pods p15.2).bind fun x22_3 => if decide (¬ x22_3.Node = a1) = true then (rec15 (p15.1, w64 (p15.2 + (1 : Int)))) else ((getI a0.Pods p15.2).bind fun x25_4 => if decide (¬ ((addVec p15.1 x25_4.Need).2) = (0 : Int)) = true then (some (([] : (List Amount)), (addVec p15.1 x25_4.Need).2)) else (rec15 ((addVec p15.1 x25_4.Need).1, w64 (p15.2 + (1 : Int)))))) else (some (p15.1, 0))
def F56 (l15 : (List Amount × Int) → Option ((List Amount) × Int)) (a0 : State) (a1 : Str) : Option ((List Amount) × Int) :=
  if (!((nodeFind a0.Nodes a1).2)) = true then (some (([] : (List Amount)), 3)) else (l15 (([] : List Amount), 0))
/-- ballast/ballastref10.Used -/
theorem c56 (a0 : State) (a1 : Str) (l15 : (List Amount × Int) → Option ((List Amount) × Int)) (hl15 : Rounds (F56.l15 a0 a1) (l15)) (r : ((List Amount) × Int)) (h : F56 l15 a0 a1 = some r) :
    Det Tryz.prog 56 [State.av a0, AV.str a1] (.ret (.tuple [AV.lst 2 Amount.av r.1, AV.int r.2])) := by
  refine Det.of_le ?_
  refine @calls_of_body Tryz.prog 56 Tryz.f56 _ Tryz.func56 rfl (by kernel_rfl) [.tmp 4, .tmp 5] (by rw [Tryz.results56]) 52 Tryz.ntmps56 _ _ _ (by simp only [List.length_cons, List.length_nil]; decide) ?_
  unfold F56 at h
  refine awp_sr kpNone [] [] [1, 2] (cs := []) (st' := ⟨52, [(1, AV.str a1), (2, .varp 2 0)], [(2, (false, a0.cs))], [], []⟩) (by kernel_rfl) trivial ?_
  refine awp_sr kpNone [(3, .tuple [Node.av ((nodeFind a0.Nodes a1).1), AV.bool ((nodeFind a0.Nodes a1).2)])] [] [1, 2, 7] (cs := [(Det Tryz.prog 120 [AV.lst 5 Node.av a0.Nodes, AV.str a1] (.ret (.tuple [Node.av ((nodeFind a0.Nodes a1).1), AV.bool ((nodeFind a0.Nodes a1).2)])))]) (st' := ⟨52, [(1, AV.str a1), (2, .varp 2 0), (7, AV.bool ((nodeFind a0.Nodes a1).2))], [(6, (false, [AV.str (((nodeFind a0.Nodes a1).1).Name), AV.lst 2 Amount.av (((nodeFind a0.Nodes a1).1).Cap), AV.lst 2 Pair.av (((nodeFind a0.Nodes a1).1).Labels), AV.lst 3 Taint.av (((nodeFind a0.Nodes a1).1).Taints), AV.bool (((nodeFind a0.Nodes a1).1).Cordon)])), (2, (false, a0.cs))], [], []⟩) (by kernel_rfl) ⟨d120 a0.Nodes a1, trivial⟩ ?_
  refine awp_seq fun N5 hN5 => ?_
  refine awp_sr kpNone [] [] [1, 2, 20] (cs := []) (st' := ⟨52, [(1, AV.str a1), (2, .varp 2 0), (20, AV.bool (!((nodeFind a0.Nodes a1).2)))], [(6, (false, [AV.str (((nodeFind a0.Nodes a1).1).Name), AV.lst 2 Amount.av (((nodeFind a0.Nodes a1).1).Cap), AV.lst 2 Pair.av (((nodeFind a0.Nodes a1).1).Labels), AV.lst 3 Taint.av (((nodeFind a0.Nodes a1).1).Taints), AV.bool (((nodeFind a0.Nodes a1).1).Cordon)])), (2, (false, a0.cs))], [], []⟩) (by kernel_rfl) trivial ?_
  refine awp_cond (t := (!((nodeFind a0.Nodes a1).2))) rfl (fun hb => ?_) (fun hb => ?_)
  · rw [if_pos hb] at h
    refine awp_sr kpNone [] [] [4, 5] (cs := []) (st' := ⟨52, [(4, .nils), (5, AV.int 3)], [(6, (false, [AV.str (((nodeFind a0.Nodes a1).1).Name), AV.lst 2 Amount.av (((nodeFind a0.Nodes a1).1).Cap), AV.lst 2 Pair.av (((nodeFind a0.Nodes a1).1).Labels), AV.lst 3 Taint.av (((nodeFind a0.Nodes a1).1).Taints), AV.bool (((nodeFind a0.Nodes a1).1).Cordon)])), (2, (false, a0.cs))], [], []⟩) (by kernel_rfl) trivial ?_
    have h := Option.some.inj h
    subst h
    exact awp_ret ⟨[.nils, AV.int 3], by kernel_rfl, Lw.tupleL ⟨(Lw.nils _), (Lw.refl _), trivial⟩⟩
  · rw [if_false hb] at h
    refine awp_skip ?_
    refine hN5 _ ?_
    refine awp_sr kpNone [] [] [1, 2, 8] (cs := []) (st' := ⟨52, [(1, AV.str a1), (2, .varp 2 0), (8, .nils)], [(6, (false, [AV.str (((nodeFind a0.Nodes a1).1).Name), AV.lst 2 Amount.av (((nodeFind a0.Nodes a1).1).Cap), AV.lst 2 Pair.av (((nodeFind a0.Nodes a1).1).Labels), AV.lst 3 Taint.av (((nodeFind a0.Nodes a1).1).Taints), AV.bool (((nodeFind a0.Nodes a1).1).Cordon)])), (2, (false, a0.cs))], [], []⟩) (by kernel_rfl) trivial ?_
    refine awp_seq fun N12 hN12 => ?_
    refine awp_sr kpNone [] [] [1, 2, 8, 9] (cs := []) (st' := ⟨52, [(1, AV.str a1), (2, .varp 2 0), (8, .nils), (9, AV.int 0)], [(6, (false, [AV.str (((nodeFind a0.Nodes a1).1).Name), AV.lst 2 Amount.av (((nodeFind a0.Nodes a1).1).Cap), AV.lst 2 Pair.av (((nodeFind a0.Nodes a1).1).Labels), AV.lst 3 Taint.av (((nodeFind a0.Nodes a1).1).Taints), AV.bool (((nodeFind a0.Nodes a1).1).Cordon)])), (2, (false, a0.cs))], [], []⟩) (by kernel_rfl) trivial ?_
    refine awp_block ?_
    refine awp_loop ?_
    refine awpL_le (st' := ⟨52, [(1, AV.str a1), (2, .varp 2 0), (8, AV.lst 2 Amount.av ([] : List Amount)), (9, AV.int 0)], [(2, (false, a0.cs))], [], []⟩) ?_ ?_
    · exact Le.mk rfl ⟨rfl, ⟨rfl, rfl⟩, .inr (.inl ⟨rfl, rfl⟩), rfl, trivial⟩ ⟨⟨rfl, ⟨.inl rfl, .inl rfl, .inl rfl, trivial⟩⟩, trivial⟩ trivial trivial
    refine awpL_fix hl15 r (fun p15 => ⟨52, [(1, AV.str a1), (2, .varp 2 0), (8, AV.lst 2 Amount.av p15.1), (9, AV.int p15.2)], [(2, (false, a0.cs))], [], []⟩) (fun rec15 hrec15 p15 h => ?_) (([] : List Amount), 0) h
    unfold F56.l15 at h
    refine awpL_round ?_
    refine awp_seq fun N16 hN16 => ?_
    refine awp_sr kpNone [(3, AV.int (List.length a0.Pods : Int))] [] [1, 2, 8, 9, 25] (cs := [((AV.int (List.length a0.Pods : Int) = .val (.int .i64 (List.length (List.map Pod.av a0.Pods) : Int))))]) (st' := ⟨52, [(1, AV.str a1), (2, .varp 2 0), (8, AV.lst 2 Amount.av p15.1), (9, AV.int p15.2), (25, AV.bool (decide (p15.2 < (List.length a0.Pods : Int))))], [(2, (false, a0.cs))], [], []⟩) (by kernel_rfl) ⟨len_map _ _, trivial⟩ ?_
    refine awp_cond (t := decide (p15.2 < (List.length a0.Pods : Int))) rfl (fun hb => ?_) (fun hb => ?_)
    · rw [if_pos hb] at h
      refine awp_skip ?_
      refine hN16 _ ?_
      refine awp_seq fun N19 hN19 => ?_
      refine awp_block ?_
      refine awp_seq fun N20 hN20 => ?_
      obtain ⟨x22_3, hx22_3, h⟩ := Option.bind_eq_some_iff.1 h
      refine awp_sr kpNone [(3, Pod.av x22_3)] [] [1, 2, 8, 9, 35] (cs := [(0 ≤ p15.2), ((List.map Pod.av a0.Pods)[Int.toNat p15.2]? = some (Pod.av x22_3))]) (st' := ⟨52, [(1, AV.str a1), (2, .varp 2 0), (8, AV.lst 2 Amount.av p15.1), (9, AV.int p15.2), (35, AV.bool (decide (¬ x22_3.Node = a1)))], [(2, (false, a0.cs))], [], []⟩) (by kernel_rfl) ⟨getI_le hx22_3, getI_map hx22_3 _, trivial⟩ ?_
      refine awp_cond (t := decide (¬ x22_3.Node = a1)) rfl (fun hb => ?_) (fun hb => ?_)
      · rw [if_pos hb] at h
        refine awp_exit ?_
        refine hN19 _ ?_
        refine awp_reg kpNone [] [] [1, 2, 8, 9] (cs := []) (st' := ⟨52, [(1, AV.str a1), (2, .varp 2 0), (8, AV.lst 2 Amount.av p15.1), (9, AV.int (w64 (p15.2 + (1 : Int))))], [(2, (false, a0.cs))], [], []⟩) (by kernel_rfl) trivial ?_
        refine awpL_le ?_ (hrec15 _ h)
        exact Le.rfl'
      · rw [if_false hb] at h
        refine awp_skip ?_
        refine hN20 _ ?_
        obtain ⟨x25_4, hx25_4, h⟩ := Option.bind_eq_some_iff.1 h
        refine awp_sr kpNone [(4, Pod.av x25_4), (7, .tuple [AV.lst 2 Amount.av ((addVec p15.1 x25_4.Need).1), AV.int ((addVec p15.1 x25_4.Need).2)])] [] [1, 2, 9, 10, 11] (cs := [(0 ≤ p15.2), ((List.map Pod.av a0.Pods)[Int.toNat p15.2]? = some (Pod.av x25_4)), (Det Tryz.prog 155 [AV.lst 2 Amount.av p15.1, AV.lst 2 Amount.av x25_4.Need] (.ret (.tuple [AV.lst 2 Amount.av ((addVec p15.1 x25_4.Need).1), AV.int ((addVec p15.1 x25_4.Need).2)])))]) (st' := ⟨52, [(1, AV.str a1), (2, .varp 2 0), (9, AV.int p15.2), (10, AV.lst 2 Amount.av ((addVec p15.1 x25_4.Need).1)), (11, AV.int ((addVec p15.1 x25_4.Need).2))], [(2, (false, a0.cs))], [], []⟩) (by kernel_rfl) ⟨getI_le hx25_4, getI_map hx25_4 _, d155 p15.1 x25_4.Need, trivial⟩ ?_
        refine awp_seq fun N26 hN26 => ?_
        refine awp_sr kpNone [] [] [1, 2, 9, 10, 11, 48] (cs := []) (st' := ⟨52, [(1, AV.str a1), (2, .varp 2 0), (9, AV.int p15.2), (10, AV.lst 2 Amount.av ((addVec p15.1 x25_4.Need).1)), (11, AV.int ((addVec p15.1 x25_4.Need).2)), (48, AV.bool (decide (¬ ((addVec p15.1 x25_4.Need).2) = (0 : Int))))], [(2, (false, a0.cs))], [], []⟩) (by kernel_rfl) trivial ?_
        refine awp_cond (t := decide (¬ ((addVec p15.1 x25_4.Need).2) = (0 : Int))) rfl (fun hb => ?_) (fun hb => ?_)
        · rw [if_pos hb] at h
          refine awp_sr kpNone [] [] [4, 5] (cs := []) (st' := ⟨52, [(4, .nils), (5, AV.int ((addVec p15.1 x25_4.Need).2))], [(2, (false, a0.cs))], [], []⟩) (by kernel_rfl) trivial ?_
          have h := Option.some.inj h
          subst h
          exact awp_ret ⟨[.nils, AV.int ((addVec p15.1 x25_4.Need).2)], by kernel_rfl, Lw.tupleL ⟨(Lw.nils _), (Lw.refl _), trivial⟩⟩
        · rw [if_false hb] at h
          refine awp_skip ?_
          refine hN26 _ ?_
          refine awp_reg kpNone [] [] [1, 2, 8, 9] (cs := []) (st' := ⟨52, [(1, AV.str a1), (2, .varp 2 0), (8, AV.lst 2 Amount.av ((addVec p15.1 x25_4.Need).1)), (9, AV.int p15.2)], [(2, (false, a0.cs))], [], []⟩) (by kernel_rfl) trivial ?_
          refine hN19 _ ?_
          refine awp_reg kpNone [] [] [1, 2, 8, 9] (cs := []) (st' := ⟨52, [(1, AV.str a1), (2, .varp 2 0), (8, AV.lst 2 Amount.av ((addVec p15.1 x25_4.Need).1)), (9, AV.int (w64 (p15.2 + (1 : Int))))], [(2, (false, a0.cs))], [], []⟩) (by kernel_rfl) trivial ?_
          refine awpL_le ?_ (hrec15 _ h)
          exact Le.rfl'
    · rw [if_false hb] at h
      refine awp_exit ?_
      refine hN12 _ ?_
      refine awp_sr kpNone [] [] [4, 5] (cs := []) (st' := ⟨52, [(4, AV.lst 2 Amount.av p15.1), (5, AV.int 0)], [(2, (false, a0.cs))], [], []⟩) (by kernel_rfl) trivial ?_
      have h := Option.some.inj h
      subst h
      exact awp_ret ⟨[AV.lst 2 Amount.av p15.1, AV.int 0], by kernel_rfl, Lw.refl _⟩
-- {"kind": "tot", "S": "usedR", "thm": "d56"}
theorem d56 (a0 : State) (a1 : Str) : Det Tryz.prog 56 [State.av a0, AV.str a1] (.ret (.tuple [AV.lst 2 Amount.av (usedR a0 a1).1, AV.int (usedR a0 a1).2])) := by
  refine Det.lenF 0 1 rfl rfl fun hl => ?_
  refine c56 a0 a1 _ (rounds_fold a0.Pods hl (fun b t => some (usedL a1 t b)) _ ?_ ?_) _ ?_
  · intro rec b r h
    simpa [F56.l15, usedL] using h
  · intro rec p b x t r h0 h1 hx hr hw h
    simp only [F56.l15, hx, hw, h1, decide_true, if_true, Option.bind_some, decide_eq_true_eq]
    simp only [usedL] at h
    by_cases q1 : x.Node = a1
    · by_cases q2 : (addVec b x.Need).2 = 0
      · simp only [q1, q2, not_true_eq_false, if_false, if_true, ne_eq] at h ⊢
        exact hr _ _ h
      · simpa [q1, q2] using h
    · simp only [q1, not_false_eq_true, if_true, if_false] at h ⊢
      exact hr _ _ h
  · simp only [F56, usedR]
    cases (nodeFind a0.Nodes a1).2 <;> simp


-- ballastref5.Fits
def F124.l6 (a0 : (List Amount)) (a1 : (List Amount)) (rec6 : (Int) → Option Bool) : (Int) → Option Bool := fun p6 =>
  if decide (p6 < (List.length a0 : Int)) = true then ((getI a0 p6).bind fun x12_2 => (getI a0 p6).bind fun x12_8 => if decide ((getN a1 x12_8.Name) < x12_2.N) = true then (some false) else (rec6 (w64 (p6 + (1 : Int))))) else (some true)
def F124 (l6 : (Int) → Option Bool) (a0 : (List Amount)) (a1 : (List Amount)) : Option Bool :=
  l6 0
/-- ballast/ballastref5.Fits -/
theorem c124 (a0 : (List Amount)) (a1 : (List Amount)) (l6 : (Int) → Option Bool) (hl6 : Rounds (F124.l6 a0 a1) (l6)) (r : Bool) (h : F124 l6 a0 a1 = some r) :
    Det Tryz.prog 124 [AV.lst 2 Amount.av a0, AV.lst 2 Amount.av a1] (.ret (AV.bool r)) := by
  refine Det.of_le ?_
  refine @calls_of_body Tryz.prog 124 Tryz.f124 _ Tryz.func124 rfl (by kernel_rfl) [.tmp 4] (by rw [Tryz.results124]) 25 Tryz.ntmps124 _ _ _ (by simp only [List.length_cons, List.length_nil]; decide) ?_
  unfold F124 at h
  refine awp_sr kpNone [] [] [0, 1] (cs := []) (st' := ⟨25, [(0, AV.lst 2 Amount.av a0), (1, AV.lst 2 Amount.av a1)], [], [], []⟩) (by kernel_rfl) trivial ?_
  refine awp_seq fun N3 hN3 => ?_
  refine awp_sr kpNone [] [] [0, 1, 5] (cs := []) (st' := ⟨25, [(0, AV.lst 2 Amount.av a0), (1, AV.lst 2 Amount.av a1), (5, AV.int 0)], [], [], []⟩) (by kernel_rfl) trivial ?_
  refine awp_block ?_
  refine awp_loop ?_
  refine awpL_le (st' := ⟨25, [(0, AV.lst 2 Amount.av a0), (1, AV.lst 2 Amount.av a1), (5, AV.int 0)], [], [], []⟩) ?_ ?_
  · exact Le.rfl'
  refine awpL_fix hl6 r (fun p6 => ⟨25, [(0, AV.lst 2 Amount.av a0), (1, AV.lst 2 Amount.av a1), (5, AV.int p6)], [], [], []⟩) (fun rec6 hrec6 p6 h => ?_) 0 h
  unfold F124.l6 at h
  refine awpL_round ?_
  refine awp_seq fun N7 hN7 => ?_
  refine awp_sr kpNone [(2, AV.int (List.length a0 : Int))] [] [0, 1, 5, 9] (cs := [((AV.int (List.length a0 : Int) = .val (.int .i64 (List.length (List.map Amount.av a0) : Int))))]) (st' := ⟨25, [(0, AV.lst 2 Amount.av a0), (1, AV.lst 2 Amount.av a1), (5, AV.int p6), (9, AV.bool (decide (p6 < (List.length a0 : Int))))], [], [], []⟩) (by kernel_rfl) ⟨len_map _ _, trivial⟩ ?_
  refine awp_cond (t := decide (p6 < (List.length a0 : Int))) rfl (fun hb => ?_) (fun hb => ?_)
  · rw [if_pos hb] at h
    refine awp_skip ?_
    refine hN7 _ ?_
    refine awp_seq fun N10 hN10 => ?_
    refine awp_block ?_
    refine awp_seq fun N11 hN11 => ?_
    obtain ⟨x12_2, hx12_2, h⟩ := Option.bind_eq_some_iff.1 h
    obtain ⟨x12_8, hx12_8, h⟩ := Option.bind_eq_some_iff.1 h
    refine awp_regD mixedTryz kpNone [(2, Amount.av x12_2), (8, Amount.av x12_8), (11, AV.int (getN a1 x12_8.Name))] [] [0, 1, 5, 24] (by kernel_rfl) (cs := [(0 ≤ p6), ((List.map Amount.av a0)[Int.toNat p6]? = some (Amount.av x12_2)), (0 ≤ p6), ((List.map Amount.av a0)[Int.toNat p6]? = some (Amount.av x12_8)), (Det Tryz.prog 77 [AV.lst 2 Amount.av a1, AV.str x12_8.Name] (.ret (AV.int (getN a1 x12_8.Name))))]) (st' := ⟨25, [(0, AV.lst 2 Amount.av a0), (1, AV.lst 2 Amount.av a1), (5, AV.int p6), (24, AV.bool (decide ((getN a1 x12_8.Name) < x12_2.N)))], [], [], []⟩) (by kernel_rfl) ⟨getI_le hx12_2, getI_map hx12_2 _, getI_le hx12_8, getI_map hx12_8 _, d77 a1 x12_8.Name, trivial⟩ ?_
    refine hN11 _ ?_
    refine awp_cond (t := decide ((getN a1 x12_8.Name) < x12_2.N)) rfl (fun hb => ?_) (fun hb => ?_)
    · rw [if_pos hb] at h
      refine awp_sr kpNone [] [] [4] (cs := []) (st' := ⟨25, [(4, AV.bool false)], [], [], []⟩) (by kernel_rfl) trivial ?_
      have h := Option.some.inj h
      subst h
      exact awp_ret ⟨[AV.bool false], by kernel_rfl, Lw.refl _⟩
    · rw [if_false hb] at h
      refine awp_skip ?_
      refine hN10 _ ?_
      refine awp_reg kpNone [] [] [0, 1, 5] (cs := []) (st' := ⟨25, [(0, AV.lst 2 Amount.av a0), (1, AV.lst 2 Amount.av a1), (5, AV.int (w64 (p6 + (1 : Int))))], [], [], []⟩) (by kernel_rfl) trivial ?_
      refine awpL_le ?_ (hrec6 _ h)
      exact Le.rfl'
  · rw [if_false hb] at h
    refine awp_exit ?_
    refine hN3 _ ?_
    refine awp_sr kpNone [] [] [4] (cs := []) (st' := ⟨25, [(4, AV.bool true)], [], [], []⟩) (by kernel_rfl) trivial ?_
    have h := Option.some.inj h
    subst h
    exact awp_ret ⟨[AV.bool true], by kernel_rfl, Lw.refl _⟩
-- {"kind": "tot", "S": "fitsB", "thm": "d124"}
theorem d124 (a0 a1 : List Amount) : Det Tryz.prog 124 [AV.lst 2 Amount.av a0, AV.lst 2 Amount.av a1] (.ret (AV.bool (fitsB a0 a1))) := by
  refine Det.len 0 rfl fun hl => c124 a0 a1 _ (rounds_list a0 hl (fun t => some (fitsB t a1)) _ ?_ ?_) _ ?_
  · intro rec
    simp [F124.l6, fitsB]
  · intro rec p x t h0 h1 hx hd hr hw
    simp only [F124.l6, hx, hw, hr, h1, decide_true, if_true, Option.bind_some, fitsB, List.all_cons]
    by_cases q : getN a1 x.Name < x.N <;> simp [q]
  · simp [F124]


-- ballastref10.Total
def F62.l8 (a0 : State) (rec8 : (List Amount × Int) → Option ((List Amount) × Int)) : (List Amount × Int) → Option ((List Amount) × Int) := fun p8 =>
  if decide (p8.2 < (List.length a0.Nodes : Int)) = true then ((getI a0.Nodes p8.2).bind fun x14_4 => if decide (¬ ((addVec p8.1 x14_4.Cap).2) = (0 : Int)) = true then (some (([] : (List Amount)), (addVec p8.1 x14_4.Cap).2)) else (rec8 ((addVec p8.1 x14_4.Cap).1, w64 (p8.2 + (1 : Int))))) else (some (p8.1, 0))
def F62 (l8 : (List Amount × Int) → Option ((List Amount) × Int)) (a0 : State) : Option ((List Amount) × Int) :=
  l8 (([] : List Amount), 0)
/-- ballast/ballastref10.Total -/
theorem c62 (a0 : State) (l8 : (List Amount × Int) → Option ((List Amount) × Int)) (hl8 : Rounds (F62.l8 a0) (l8)) (r : ((List Amount) × Int)) (h : F62 l8 a0 = some r) :
    Det Tryz.prog 62 [State.av a0] (.ret (.tuple [AV.lst 2 Amount.av r.1, AV.int r.2])) := by
  refine Det.of_le ?_
  refine @calls_of_body Tryz.prog 62 Tryz.f62 _ Tryz.func62 rfl (by kernel_rfl) [.tmp 2, .tmp 3] (by rw [Tryz.results62]) 31 Tryz.ntmps62 _ _ _ (by simp only [List.length_cons, List.length_nil]; decide) ?_
  unfold F62 at h
  refine awp_sr kpNone [] [] [1] (cs := []) (st' := ⟨31, [(1, .varp 1 0)], [(1, (false, a0.cs))], [], []⟩) (by kernel_rfl) trivial ?_
  refine awp_sr kpNone [] [] [1, 4] (cs := []) (st' := ⟨31, [(1, .varp 1 0), (4, .nils)], [(1, (false, a0.cs))], [], []⟩) (by kernel_rfl) trivial ?_
  refine awp_seq fun N5 hN5 => ?_
  refine awp_sr kpNone [] [] [1, 4, 5] (cs := []) (st' := ⟨31, [(1, .varp 1 0), (4, .nils), (5, AV.int 0)], [(1, (false, a0.cs))], [], []⟩) (by kernel_rfl) trivial ?_
  refine awp_block ?_
  refine awp_loop ?_
  refine awpL_le (st' := ⟨31, [(1, .varp 1 0), (4, AV.lst 2 Amount.av ([] : List Amount)), (5, AV.int 0)], [(1, (false, a0.cs))], [], []⟩) ?_ ?_
  · exact Le.mk rfl ⟨⟨rfl, rfl⟩, .inr (.inl ⟨rfl, rfl⟩), rfl, trivial⟩ ⟨⟨rfl, ⟨.inl rfl, .inl rfl, .inl rfl, trivial⟩⟩, trivial⟩ trivial trivial
  refine awpL_fix hl8 r (fun p8 => ⟨31, [(1, .varp 1 0), (4, AV.lst 2 Amount.av p8.1), (5, AV.int p8.2)], [(1, (false, a0.cs))], [], []⟩) (fun rec8 hrec8 p8 h => ?_) (([] : List Amount), 0) h
  unfold F62.l8 at h
  refine awpL_round ?_
  refine awp_seq fun N9 hN9 => ?_
  refine awp_sr kpNone [(3, AV.int (List.length a0.Nodes : Int))] [] [1, 4, 5, 12] (cs := [((AV.int (List.length a0.Nodes : Int) = .val (.int .i64 (List.length (List.map Node.av a0.Nodes) : Int))))]) (st' := ⟨31, [(1, .varp 1 0), (4, AV.lst 2 Amount.av p8.1), (5, AV.int p8.2), (12, AV.bool (decide (p8.2 < (List.length a0.Nodes : Int))))], [(1, (false, a0.cs))], [], []⟩) (by kernel_rfl) ⟨len_map _ _, trivial⟩ ?_
  refine awp_cond (t := decide (p8.2 < (List.length a0.Nodes : Int))) rfl (fun hb => ?_) (fun hb => ?_)
  · rw [if_pos hb] at h
    refine awp_skip ?_
    refine hN9 _ ?_
    refine awp_seq fun N12 hN12 => ?_
    refine awp_block ?_
    obtain ⟨x14_4, hx14_4, h⟩ := Option.bind_eq_some_iff.1 h
    refine awp_sr kpNone [(4, Node.av x14_4), (7, .tuple [AV.lst 2 Amount.av ((addVec p8.1 x14_4.Cap).1), AV.int ((addVec p8.1 x14_4.Cap).2)])] [] [1, 5, 6, 7] (cs := [(0 ≤ p8.2), ((List.map Node.av a0.Nodes)[Int.toNat p8.2]? = some (Node.av x14_4)), (Det Tryz.prog 155 [AV.lst 2 Amount.av p8.1, AV.lst 2 Amount.av x14_4.Cap] (.ret (.tuple [AV.lst 2 Amount.av ((addVec p8.1 x14_4.Cap).1), AV.int ((addVec p8.1 x14_4.Cap).2)])))]) (st' := ⟨31, [(1, .varp 1 0), (5, AV.int p8.2), (6, AV.lst 2 Amount.av ((addVec p8.1 x14_4.Cap).1)), (7, AV.int ((addVec p8.1 x14_4.Cap).2))], [(1, (false, a0.cs))], [], []⟩) (by kernel_rfl) ⟨getI_le hx14_4, getI_map hx14_4 _, d155 p8.1 x14_4.Cap, trivial⟩ ?_
    refine awp_seq fun N15 hN15 => ?_
    refine awp_sr kpNone [] [] [1, 5, 6, 7, 27] (cs := []) (st' := ⟨31, [(1, .varp 1 0), (5, AV.int p8.2), (6, AV.lst 2 Amount.av ((addVec p8.1 x14_4.Cap).1)), (7, AV.int ((addVec p8.1 x14_4.Cap).2)), (27, AV.bool (decide (¬ ((addVec p8.1 x14_4.Cap).2) = (0 : Int))))], [(1, (false, a0.cs))], [], []⟩) (by kernel_rfl) trivial ?_
    refine awp_cond (t := decide (¬ ((addVec p8.1 x14_4.Cap).2) = (0 : Int))) rfl (fun hb => ?_) (fun hb => ?_)
    · rw [if_pos hb] at h
      refine awp_sr kpNone [] [] [2, 3] (cs := []) (st' := ⟨31, [(2, .nils), (3, AV.int ((addVec p8.1 x14_4.Cap).2))], [(1, (false, a0.cs))], [], []⟩) (by kernel_rfl) trivial ?_
      have h := Option.some.inj h
      subst h
      exact awp_ret ⟨[.nils, AV.int ((addVec p8.1 x14_4.Cap).2)], by kernel_rfl, Lw.tupleL ⟨(Lw.nils _), (Lw.refl _), trivial⟩⟩
    · rw [if_false hb] at h
      refine awp_skip ?_
      refine hN15 _ ?_
      refine awp_reg kpNone [] [] [1, 4, 5] (cs := []) (st' := ⟨31, [(1, .varp 1 0), (4, AV.lst 2 Amount.av ((addVec p8.1 x14_4.Cap).1)), (5, AV.int p8.2)], [(1, (false, a0.cs))], [], []⟩) (by kernel_rfl) trivial ?_
      refine hN12 _ ?_
      refine awp_reg kpNone [] [] [1, 4, 5] (cs := []) (st' := ⟨31, [(1, .varp 1 0), (4, AV.lst 2 Amount.av ((addVec p8.1 x14_4.Cap).1)), (5, AV.int (w64 (p8.2 + (1 : Int))))], [(1, (false, a0.cs))], [], []⟩) (by kernel_rfl) trivial ?_
      refine awpL_le ?_ (hrec8 _ h)
      exact Le.rfl'
  · rw [if_false hb] at h
    refine awp_exit ?_
    refine hN5 _ ?_
    refine awp_sr kpNone [] [] [2, 3] (cs := []) (st' := ⟨31, [(2, AV.lst 2 Amount.av p8.1), (3, AV.int 0)], [(1, (false, a0.cs))], [], []⟩) (by kernel_rfl) trivial ?_
    have h := Option.some.inj h
    subst h
    exact awp_ret ⟨[AV.lst 2 Amount.av p8.1, AV.int 0], by kernel_rfl, Lw.refl _⟩
-- {"kind": "tot", "S": "totalR", "thm": "d62"}
theorem d62 (a0 : State) : Det Tryz.prog 62 [State.av a0] (.ret (.tuple [AV.lst 2 Amount.av (totalR a0).1, AV.int (totalR a0).2])) := by
  refine Det.lenF 0 0 rfl rfl fun hl => ?_
  refine c62 a0 _ (rounds_fold a0.Nodes hl (fun b t => some (totalL t b)) _ ?_ ?_) _ ?_
  · intro rec b r h
    simpa [F62.l8, totalL] using h
  · intro rec p b x t r h0 h1 hx hr hw h
    simp only [F62.l8, hx, hw, h1, decide_true, if_true, Option.bind_some, decide_eq_true_eq]
    simp only [totalL] at h
    by_cases q2 : (addVec b x.Cap).2 = 0
    · simp only [q2, not_true_eq_false, if_false, ne_eq] at h ⊢
      exact hr _ _ h
    · simpa [q2] using h
  · simp [F62, totalR]


-- ballastref10.Check
def F53.l46 (a0 : State) (rec46 : (Int) → Option Int) : (Int) → Option Int := fun p46 =>
  if decide (p46 < (List.length a0.Nodes : Int)) = true then ((getI a0.Nodes p46).bind fun x52_4 => if decide (¬ ((usedR a0 x52_4.Name).2) = (0 : Int)) = true then (some ((usedR a0 x52_4.Name).2)) else ((getI a0.Nodes p46).bind fun x59_4 => if (!(fitsB ((usedR a0 x52_4.Name).1) x59_4.Cap)) = true then (some 7) else (rec46 (w64 (p46 + (1 : Int)))))) else (some ((totalR a0).2))
def F53.l27 (a0 : State) (l46 : (Int) → Option Int) (rec27 : (Int) → Option Int) : (Int) → Option Int := fun p27 =>
  if decide (p27 < (List.length a0.Pods : Int)) = true then ((getI a0.Pods p27).bind fun x34_3 => if decide (x34_3.Node = []) = true then (rec27 (w64 (p27 + (1 : Int)))) else ((getI a0.Pods p27).bind fun x37_5 => if (!((nodeFind a0.Nodes x37_5.Node).2)) = true then (some 3) else (rec27 (w64 (p27 + (1 : Int)))))) else (l46 0)
def F53 (l46 : (Int) → Option Int) (l27 : ((Int) → Option Int) → (Int) → Option Int) (a0 : State) : Option Int :=
  if decide (¬ (checkNodes a0.Nodes) = (0 : Int)) = true then (some (checkNodes a0.Nodes)) else (if decide (¬ (checkPods a0.Pods) = (0 : Int)) = true then (some (checkPods a0.Pods)) else (if decide (¬ (checkBudgets a0.Budgets) = (0 : Int)) = true then (some (checkBudgets a0.Budgets)) else (l27 l46 0)))
/-- ballast/ballastref10.Check -/
theorem c53 (a0 : State) (l46 : (Int) → Option Int) (l27 : ((Int) → Option Int) → (Int) → Option Int) (hl46 : Rounds (F53.l46 a0) (l46)) (hl27 : ∀ (l46 : (Int) → Option Int), Rounds (F53.l27 a0 l46) (l27 l46)) (r : Int) (h : F53 l46 l27 a0 = some r) :
    Det Tryz.prog 53 [State.av a0] (.ret (AV.int r)) := by
  refine Det.of_le ?_
  refine @calls_of_body Tryz.prog 53 Tryz.f53 _ Tryz.func53 rfl (by kernel_rfl) [.tmp 2] (by rw [Tryz.results53]) 92 Tryz.ntmps53 _ _ _ (by simp only [List.length_cons, List.length_nil]; decide) ?_
  unfold F53 at h
  refine awp_sr kpNone [] [] [1] (cs := []) (st' := ⟨92, [(1, .varp 1 0)], [(1, (false, a0.cs))], [], []⟩) (by kernel_rfl) trivial ?_
  refine awp_sr kpNone [(2, AV.int (checkNodes a0.Nodes))] [] [1, 3] (cs := [(Det Tryz.prog 145 [AV.lst 5 Node.av a0.Nodes] (.ret (AV.int (checkNodes a0.Nodes))))]) (st' := ⟨92, [(1, .varp 1 0), (3, AV.int (checkNodes a0.Nodes))], [(1, (false, a0.cs))], [], []⟩) (by kernel_rfl) ⟨d145 a0.Nodes, trivial⟩ ?_
  refine awp_seq fun N5 hN5 => ?_
  refine awp_sr kpNone [] [] [1, 3, 14] (cs := []) (st' := ⟨92, [(1, .varp 1 0), (3, AV.int (checkNodes a0.Nodes)), (14, AV.bool (decide (¬ (checkNodes a0.Nodes) = (0 : Int))))], [(1, (false, a0.cs))], [], []⟩) (by kernel_rfl) trivial ?_
  refine awp_cond (t := decide (¬ (checkNodes a0.Nodes) = (0 : Int))) rfl (fun hb => ?_) (fun hb => ?_)
  · rw [if_pos hb] at h
    refine awp_sr kpNone [] [] [2] (cs := []) (st' := ⟨92, [(2, AV.int (checkNodes a0.Nodes))], [(1, (false, a0.cs))], [], []⟩) (by kernel_rfl) trivial ?_
    have h := Option.some.inj h
    subst h
    exact awp_ret ⟨[AV.int (checkNodes a0.Nodes)], by kernel_rfl, Lw.refl _⟩
  · rw [if_false hb] at h
    refine awp_skip ?_
    refine hN5 _ ?_
    refine awp_sr kpNone [(2, AV.int (checkPods a0.Pods))] [] [1, 3] (cs := [(Det Tryz.prog 146 [AV.lst 11 Pod.av a0.Pods] (.ret (AV.int (checkPods a0.Pods))))]) (st' := ⟨92, [(1, .varp 1 0), (3, AV.int (checkPods a0.Pods))], [(1, (false, a0.cs))], [], []⟩) (by kernel_rfl) ⟨d146 a0.Pods, trivial⟩ ?_
    refine awp_seq fun N12 hN12 => ?_
    refine awp_sr kpNone [] [] [1, 3, 20] (cs := []) (st' := ⟨92, [(1, .varp 1 0), (3, AV.int (checkPods a0.Pods)), (20, AV.bool (decide (¬ (checkPods a0.Pods) = (0 : Int))))], [(1, (false, a0.cs))], [], []⟩) (by kernel_rfl) trivial ?_
    refine awp_cond (t := decide (¬ (checkPods a0.Pods) = (0 : Int))) rfl (fun hb => ?_) (fun hb => ?_)
    · rw [if_pos hb] at h
      refine awp_sr kpNone [] [] [2] (cs := []) (st' := ⟨92, [(2, AV.int (checkPods a0.Pods))], [(1, (false, a0.cs))], [], []⟩) (by kernel_rfl) trivial ?_
      have h := Option.some.inj h
      subst h
      exact awp_ret ⟨[AV.int (checkPods a0.Pods)], by kernel_rfl, Lw.refl _⟩
    · rw [if_false hb] at h
      refine awp_skip ?_
      refine hN12 _ ?_
      refine awp_sr kpNone [(2, AV.int (checkBudgets a0.Budgets))] [] [1, 3] (cs := [(Det Tryz.prog 147 [AV.lst 3 Budget.av a0.Budgets] (.ret (AV.int (checkBudgets a0.Budgets))))]) (st' := ⟨92, [(1, .varp 1 0), (3, AV.int (checkBudgets a0.Budgets))], [(1, (false, a0.cs))], [], []⟩) (by kernel_rfl) ⟨d147 a0.Budgets, trivial⟩ ?_
      refine awp_seq fun N19 hN19 => ?_
      refine awp_sr kpNone [] [] [1, 3, 26] (cs := []) (st' := ⟨92, [(1, .varp 1 0), (3, AV.int (checkBudgets a0.Budgets)), (26, AV.bool (decide (¬ (checkBudgets a0.Budgets) = (0 : Int))))], [(1, (false, a0.cs))], [], []⟩) (by kernel_rfl) trivial ?_
      refine awp_cond (t := decide (¬ (checkBudgets a0.Budgets) = (0 : Int))) rfl (fun hb => ?_) (fun hb => ?_)
      · rw [if_pos hb] at h
        refine awp_sr kpNone [] [] [2] (cs := []) (st' := ⟨92, [(2, AV.int (checkBudgets a0.Budgets))], [(1, (false, a0.cs))], [], []⟩) (by kernel_rfl) trivial ?_
        have h := Option.some.inj h
        subst h
        exact awp_ret ⟨[AV.int (checkBudgets a0.Budgets)], by kernel_rfl, Lw.refl _⟩
      · rw [if_false hb] at h
        refine awp_skip ?_
        refine hN19 _ ?_
        refine awp_seq fun N24 hN24 => ?_
        refine awp_sr kpNone [] [] [1, 4] (cs := []) (st' := ⟨92, [(1, .varp 1 0), (4, AV.int 0)], [(1, (false, a0.cs))], [], []⟩) (by kernel_rfl) trivial ?_
        refine awp_block ?_
        refine awp_loop ?_
        refine awpL_le (st' := ⟨92, [(1, .varp 1 0), (4, AV.int 0)], [(1, (false, a0.cs))], [], []⟩) ?_ ?_
        · exact Le.rfl'
        refine awpL_fix (hl27 l46) r (fun p27 => ⟨92, [(1, .varp 1 0), (4, AV.int p27)], [(1, (false, a0.cs))], [], []⟩) (fun rec27 hrec27 p27 h => ?_) 0 h
        unfold F53.l27 at h
        refine awpL_round ?_
        refine awp_seq fun N28 hN28 => ?_
        refine awp_sr kpNone [(3, AV.int (List.length a0.Pods : Int))] [] [1, 4, 32] (cs := [((AV.int (List.length a0.Pods : Int) = .val (.int .i64 (List.length (List.map Pod.av a0.Pods) : Int))))]) (st' := ⟨92, [(1, .varp 1 0), (4, AV.int p27), (32, AV.bool (decide (p27 < (List.length a0.Pods : Int))))], [(1, (false, a0.cs))], [], []⟩) (by kernel_rfl) ⟨len_map _ _, trivial⟩ ?_
        refine awp_cond (t := decide (p27 < (List.length a0.Pods : Int))) rfl (fun hb => ?_) (fun hb => ?_)
        · rw [if_pos hb] at h
          refine awp_skip ?_
          refine hN28 _ ?_
          refine awp_seq fun N31 hN31 => ?_
          refine awp_block ?_
          refine awp_seq fun N32 hN32 => ?_
          obtain ⟨x34_3, hx34_3, h⟩ := Option.bind_eq_some_iff.1 h
          refine awp_sr kpNone [(3, Pod.av x34_3)] [] [1, 4, 41] (cs := [(0 ≤ p27), ((List.map Pod.av a0.Pods)[Int.toNat p27]? = some (Pod.av x34_3))]) (st' := ⟨92, [(1, .varp 1 0), (4, AV.int p27), (41, AV.bool (decide (x34_3.Node = [])))], [(1, (false, a0.cs))], [], []⟩) (by kernel_rfl) ⟨getI_le hx34_3, getI_map hx34_3 _, trivial⟩ ?_
          refine awp_cond (t := decide (x34_3.Node = [])) rfl (fun hb => ?_) (fun hb => ?_)
          · rw [if_pos hb] at h
            refine awp_exit ?_
            refine hN31 _ ?_
            refine awp_reg kpNone [] [] [1, 4] (cs := []) (st' := ⟨92, [(1, .varp 1 0), (4, AV.int (w64 (p27 + (1 : Int))))], [(1, (false, a0.cs))], [], []⟩) (by kernel_rfl) trivial ?_
            refine awpL_le ?_ (hrec27 _ h)
            exact Le.rfl'
          · rw [if_false hb] at h
            refine awp_skip ?_
            refine hN32 _ ?_
            refine awp_seq fun N36 hN36 => ?_
            obtain ⟨x37_5, hx37_5, h⟩ := Option.bind_eq_some_iff.1 h
            refine awp_regD mixedTryz kpNone [(5, Pod.av x37_5), (8, .tuple [Node.av ((nodeFind a0.Nodes x37_5.Node).1), AV.bool ((nodeFind a0.Nodes x37_5.Node).2)])] [] [1, 4, 6] (by kernel_rfl) (cs := [(0 ≤ p27), ((List.map Pod.av a0.Pods)[Int.toNat p27]? = some (Pod.av x37_5)), (Det Tryz.prog 120 [AV.lst 5 Node.av a0.Nodes, AV.str x37_5.Node] (.ret (.tuple [Node.av ((nodeFind a0.Nodes x37_5.Node).1), AV.bool ((nodeFind a0.Nodes x37_5.Node).2)])))]) (st' := ⟨92, [(1, .varp 1 0), (4, AV.int p27), (6, AV.bool ((nodeFind a0.Nodes x37_5.Node).2))], [(5, (false, [AV.str (((nodeFind a0.Nodes x37_5.Node).1).Name), AV.lst 2 Amount.av (((nodeFind a0.Nodes x37_5.Node).1).Cap), AV.lst 2 Pair.av (((nodeFind a0.Nodes x37_5.Node).1).Labels), AV.lst 3 Taint.av (((nodeFind a0.Nodes x37_5.Node).1).Taints), AV.bool (((nodeFind a0.Nodes x37_5.Node).1).Cordon)])), (1, (false, a0.cs))], [], []⟩) (by kernel_rfl) ⟨getI_le hx37_5, getI_map hx37_5 _, d120 a0.Nodes x37_5.Node, trivial⟩ ?_
            refine hN36 _ ?_
            refine awp_sr kpNone [] [] [1, 4, 55] (cs := []) (st' := ⟨92, [(1, .varp 1 0), (4, AV.int p27), (55, AV.bool (!((nodeFind a0.Nodes x37_5.Node).2)))], [(5, (false, [AV.str (((nodeFind a0.Nodes x37_5.Node).1).Name), AV.lst 2 Amount.av (((nodeFind a0.Nodes x37_5.Node).1).Cap), AV.lst 2 Pair.av (((nodeFind a0.Nodes x37_5.Node).1).Labels), AV.lst 3 Taint.av (((nodeFind a0.Nodes x37_5.Node).1).Taints), AV.bool (((nodeFind a0.Nodes x37_5.Node).1).Cordon)])), (1, (false, a0.cs))], [], []⟩) (by kernel_rfl) trivial ?_
            refine awp_cond (t := (!((nodeFind a0.Nodes x37_5.Node).2))) rfl (fun hb => ?_) (fun hb => ?_)
            · rw [if_pos hb] at h
              refine awp_sr kpNone [] [] [2] (cs := []) (st' := ⟨92, [(2, AV.int 3)], [(5, (false, [AV.str (((nodeFind a0.Nodes x37_5.Node).1).Name), AV.lst 2 Amount.av (((nodeFind a0.Nodes x37_5.Node).1).Cap), AV.lst 2 Pair.av (((nodeFind a0.Nodes x37_5.Node).1).Labels), AV.lst 3 Taint.av (((nodeFind a0.Nodes x37_5.Node).1).Taints), AV.bool (((nodeFind a0.Nodes x37_5.Node).1).Cordon)])), (1, (false, a0.cs))], [], []⟩) (by kernel_rfl) trivial ?_
              have h := Option.some.inj h
              subst h
              exact awp_ret ⟨[AV.int 3], by kernel_rfl, Lw.refl _⟩
            · rw [if_false hb] at h
              refine awp_skip ?_
              refine hN31 _ ?_
              refine awp_reg kpNone [] [] [1, 4] (cs := []) (st' := ⟨92, [(1, .varp 1 0), (4, AV.int (w64 (p27 + (1 : Int))))], [(5, (false, [AV.str (((nodeFind a0.Nodes x37_5.Node).1).Name), AV.lst 2 Amount.av (((nodeFind a0.Nodes x37_5.Node).1).Cap), AV.lst 2 Pair.av (((nodeFind a0.Nodes x37_5.Node).1).Labels), AV.lst 3 Taint.av (((nodeFind a0.Nodes x37_5.Node).1).Taints), AV.bool (((nodeFind a0.Nodes x37_5.Node).1).Cordon)])), (1, (false, a0.cs))], [], []⟩) (by kernel_rfl) trivial ?_
              refine awpL_le ?_ (hrec27 _ h)
              exact Le.mk rfl ⟨⟨rfl, rfl⟩, rfl, trivial⟩ ⟨⟨rfl, ⟨.inl rfl, .inl rfl, .inl rfl, trivial⟩⟩, trivial⟩ trivial trivial
        · rw [if_false hb] at h
          refine awp_exit ?_
          refine hN24 _ ?_
          refine awp_seq fun N43 hN43 => ?_
          refine awp_sr kpNone [] [] [1, 7] (cs := []) (st' := ⟨92, [(1, .varp 1 0), (7, AV.int 0)], [(1, (false, a0.cs))], [], []⟩) (by kernel_rfl) trivial ?_
          refine awp_block ?_
          refine awp_loop ?_
          refine awpL_le (st' := ⟨92, [(1, .varp 1 0), (7, AV.int 0)], [(1, (false, a0.cs))], [], []⟩) ?_ ?_
          · exact Le.rfl'
          refine awpL_fix hl46 r (fun p46 => ⟨92, [(1, .varp 1 0), (7, AV.int p46)], [(1, (false, a0.cs))], [], []⟩) (fun rec46 hrec46 p46 h => ?_) 0 h
          unfold F53.l46 at h
          refine awpL_round ?_
          refine awp_seq fun N47 hN47 => ?_
          refine awp_sr kpNone [(3, AV.int (List.length a0.Nodes : Int))] [] [1, 7, 60] (cs := [((AV.int (List.length a0.Nodes : Int) = .val (.int .i64 (List.length (List.map Node.av a0.Nodes) : Int))))]) (st' := ⟨92, [(1, .varp 1 0), (7, AV.int p46), (60, AV.bool (decide (p46 < (List.length a0.Nodes : Int))))], [(1, (false, a0.cs))], [], []⟩) (by kernel_rfl) ⟨len_map _ _, trivial⟩ ?_
          refine awp_cond (t := decide (p46 < (List.length a0.Nodes : Int))) rfl (fun hb => ?_) (fun hb => ?_)
          · rw [if_pos hb] at h
            refine awp_skip ?_
            refine hN47 _ ?_
            refine awp_seq fun N50 hN50 => ?_
            refine awp_block ?_
            refine awp_seq fun N51 hN51 => ?_
            obtain ⟨x52_4, hx52_4, h⟩ := Option.bind_eq_some_iff.1 h
            refine awp_regD mixedTryz kpNone [(4, Node.av x52_4), (7, .tuple [AV.lst 2 Amount.av ((usedR a0 x52_4.Name).1), AV.int ((usedR a0 x52_4.Name).2)])] [] [1, 7, 8, 9] (by kernel_rfl) (cs := [(0 ≤ p46), ((List.map Node.av a0.Nodes)[Int.toNat p46]? = some (Node.av x52_4)), (Det Tryz.prog 56 [State.av a0, AV.str x52_4.Name] (.ret (.tuple [AV.lst 2 Amount.av ((usedR a0 x52_4.Name).1), AV.int ((usedR a0 x52_4.Name).2)])))]) (st' := ⟨92, [(1, .varp 1 0), (7, AV.int p46), (8, AV.lst 2 Amount.av ((usedR a0 x52_4.Name).1)), (9, AV.int ((usedR a0 x52_4.Name).2))], [(1, (false, a0.cs))], [], []⟩) (by kernel_rfl) ⟨getI_le hx52_4, getI_map hx52_4 _, d56 a0 x52_4.Name, trivial⟩ ?_
            refine hN51 _ ?_
            refine awp_seq fun N53 hN53 => ?_
            refine awp_sr kpNone [] [] [1, 7, 8, 9, 75] (cs := []) (st' := ⟨92, [(1, .varp 1 0), (7, AV.int p46), (8, AV.lst 2 Amount.av ((usedR a0 x52_4.Name).1)), (9, AV.int ((usedR a0 x52_4.Name).2)), (75, AV.bool (decide (¬ ((usedR a0 x52_4.Name).2) = (0 : Int))))], [(1, (false, a0.cs))], [], []⟩) (by kernel_rfl) trivial ?_
            refine awp_cond (t := decide (¬ ((usedR a0 x52_4.Name).2) = (0 : Int))) rfl (fun hb => ?_) (fun hb => ?_)
            · rw [if_pos hb] at h
              refine awp_sr kpNone [] [] [2] (cs := []) (st' := ⟨92, [(2, AV.int ((usedR a0 x52_4.Name).2))], [(1, (false, a0.cs))], [], []⟩) (by kernel_rfl) trivial ?_
              have h := Option.some.inj h
              subst h
              exact awp_ret ⟨[AV.int ((usedR a0 x52_4.Name).2)], by kernel_rfl, Lw.refl _⟩
            · rw [if_false hb] at h
              refine awp_skip ?_
              refine hN53 _ ?_
              obtain ⟨x59_4, hx59_4, h⟩ := Option.bind_eq_some_iff.1 h
              refine awp_sr kpNone [(4, Node.av x59_4), (7, AV.bool (fitsB ((usedR a0 x52_4.Name).1) x59_4.Cap))] [] [1, 7, 85] (cs := [(0 ≤ p46), ((List.map Node.av a0.Nodes)[Int.toNat p46]? = some (Node.av x59_4)), (Det Tryz.prog 124 [AV.lst 2 Amount.av ((usedR a0 x52_4.Name).1), AV.lst 2 Amount.av x59_4.Cap] (.ret (AV.bool (fitsB ((usedR a0 x52_4.Name).1) x59_4.Cap))))]) (st' := ⟨92, [(1, .varp 1 0), (7, AV.int p46), (85, AV.bool (!(fitsB ((usedR a0 x52_4.Name).1) x59_4.Cap)))], [(1, (false, a0.cs))], [], []⟩) (by kernel_rfl) ⟨getI_le hx59_4, getI_map hx59_4 _, d124 ((usedR a0 x52_4.Name).1) x59_4.Cap, trivial⟩ ?_
              refine awp_cond (t := (!(fitsB ((usedR a0 x52_4.Name).1) x59_4.Cap))) rfl (fun hb => ?_) (fun hb => ?_)
              · rw [if_pos hb] at h
                refine awp_sr kpNone [] [] [2] (cs := []) (st' := ⟨92, [(2, AV.int 7)], [(1, (false, a0.cs))], [], []⟩) (by kernel_rfl) trivial ?_
                have h := Option.some.inj h
                subst h
                exact awp_ret ⟨[AV.int 7], by kernel_rfl, Lw.refl _⟩
              · rw [if_false hb] at h
                refine awp_skip ?_
                refine hN50 _ ?_
                refine awp_reg kpNone [] [] [1, 7] (cs := []) (st' := ⟨92, [(1, .varp 1 0), (7, AV.int (w64 (p46 + (1 : Int))))], [(1, (false, a0.cs))], [], []⟩) (by kernel_rfl) trivial ?_
                refine awpL_le ?_ (hrec46 _ h)
                exact Le.rfl'
          · rw [if_false hb] at h
            refine awp_exit ?_
            refine hN43 _ ?_
            refine awp_sr kpNone [(1, .tuple [AV.lst 2 Amount.av ((totalR a0).1), AV.int ((totalR a0).2)])] [] [3] (cs := [(Det Tryz.prog 62 [State.av a0] (.ret (.tuple [AV.lst 2 Amount.av ((totalR a0).1), AV.int ((totalR a0).2)])))]) (st' := ⟨92, [(3, AV.int ((totalR a0).2))], [(1, (false, a0.cs))], [], []⟩) (by kernel_rfl) ⟨d62 a0, trivial⟩ ?_
            refine awp_sr kpNone [] [] [2] (cs := []) (st' := ⟨92, [(2, AV.int ((totalR a0).2))], [(1, (false, a0.cs))], [], []⟩) (by kernel_rfl) trivial ?_
            have h := Option.some.inj h
            subst h
            exact awp_ret ⟨[AV.int ((totalR a0).2)], by kernel_rfl, Lw.refl _⟩
-- {"kind": "tot", "S": "checkState", "thm": "d53"}
open Classical in
theorem d53 (a0 : State) : Det Tryz.prog 53 [State.av a0] (.ret (AV.int (checkState a0))) := by
  refine Det.lenF 0 0 rfl rfl fun hl => Det.lenF 0 1 rfl rfl fun hl' => ?_
  let L46 : Int → Option Int := fun p => if 0 ≤ p ∧ p ≤ a0.Nodes.length then some (if roomy a0 (a0.Nodes.drop p.toNat) ≠ 0 then roomy a0 (a0.Nodes.drop p.toNat) else (totalR a0).2) else none
  refine c53 a0 L46 (fun l p => if l = L46 then (if 0 ≤ p ∧ p ≤ a0.Pods.length then some (if placed a0 (a0.Pods.drop p.toNat) = true then (if roomy a0 a0.Nodes ≠ 0 then roomy a0 a0.Nodes else (totalR a0).2) else 3) else none) else none) ?_ (fun l => ?_) _ ?_
  · refine rounds_list a0.Nodes hl (fun t => some (if roomy a0 t ≠ 0 then roomy a0 t else (totalR a0).2)) _ ?_ ?_
    · intro rec
      simp [F53.l46, roomy]
    · intro rec p x t h0 h1 hx hd hr hw
      simp only [F53.l46, hx, hw, hr, h1, decide_true, if_true, Option.bind_some, roomy, decide_eq_true_eq]
      by_cases q1 : (usedR a0 x.Name).2 = 0
      · rcases Bool.eq_false_or_eq_true (fitsB (usedR a0 x.Name).1 x.Cap) with q2 | q2 <;> simp [q1, q2]
      · simp [q1]
  · by_cases hle : l = L46
    · subst hle
      simp only [if_true]
      refine rounds_list a0.Pods hl' (fun t => some (if placed a0 t = true then (if roomy a0 a0.Nodes ≠ 0 then roomy a0 a0.Nodes else (totalR a0).2) else 3)) _ ?_ ?_
      · intro rec
        simp [F53.l27, placed, L46]
      · intro rec p x t h0 h1 hx hd hr hw
        simp only [F53.l27, hx, hw, hr, h1, decide_true, if_true, Option.bind_some, placed, decide_eq_true_eq]
        by_cases q1 : x.Node = []
        · simp [q1]
        · rcases Bool.eq_false_or_eq_true ((nodeFind a0.Nodes x.Node).2) with q2 | q2 <;> simp [q1, q2]
    · simp only [hle, if_false]
      exact rounds_none _
  · simp only [F53, checkState, decide_eq_true_eq]
    by_cases q1 : checkNodes a0.Nodes = 0
    · by_cases q2 : checkPods a0.Pods = 0
      · by_cases q3 : checkBudgets a0.Budgets = 0
        · simp [q1, q2, q3]
        · simp [q1, q2, q3]
      · simp [q1, q2]
    · simp [q1]


-- ballastlaw9.Good
def F26.j6  : (Bool) → Option Bool := fun p6 =>
  some p6
def F26 (a0 : State) : Option Bool :=
  if (State.few a0) = true then ((keep State.ok a0).bind fun x4_4 => F26.j6 (decide ((checkState x4_4) = (0 : Int)))) else (F26.j6 false)
/-- ballast/ballastlaw9.Good -/
theorem c26 (a0 : State) (r : Bool) (h : F26 a0 = some r) :
    Det Tryz.prog 26 [State.av a0] (.ret (AV.bool r)) := by
  refine Det.of_le ?_
  refine @calls_of_body Tryz.prog 26 Tryz.f26 _ Tryz.func26 rfl (by kernel_rfl) [.tmp 2] (by rw [Tryz.results26]) 11 Tryz.ntmps26 _ _ _ (by simp only [List.length_cons, List.length_nil]; decide) ?_
  unfold F26 at h
  refine awp_sr kpNone [] [] [1] (cs := []) (st' := ⟨11, [(1, .varp 1 0)], [(1, (false, a0.cs))], [], []⟩) (by kernel_rfl) trivial ?_
  refine awp_seq fun N3 hN3 => ?_
  refine awp_to (σ := Bool) (fun p6 => ⟨11, [(2, AV.bool p6)], [(1, (false, a0.cs))], [], []⟩) (fun p6 => F26.j6 p6 = some r) (fun p6 h => ?_) (fun N6 hJ6 => ?_)
  · unfold F26.j6 at h
    refine hN3 _ ?_
    have h := Option.some.inj h
    subst h
    exact awp_ret ⟨[AV.bool p6], by kernel_rfl, Lw.refl _⟩
  · by_cases hg5 : (State.few a0) = true
    · rw [if_pos hg5] at h
      obtain ⟨x4_4, hx4_4, h⟩ := Option.bind_eq_some_iff.1 h
      refine awp_reg kpNone [(1, AV.bool (State.few a0)), (4, State.av x4_4), (5, AV.int (checkState x4_4))] [(2, true)] [2] (cs := [(Det Tryz.prog 52 [State.av a0] (.ret (AV.bool (State.few a0)))), ((State.few a0) = true), (Det Tryz.prog 33 [State.av a0] (.ret (State.av x4_4))), (Det Tryz.prog 53 [State.av x4_4] (.ret (AV.int (checkState x4_4))))]) (st' := ⟨11, [(2, AV.bool (decide ((checkState x4_4) = (0 : Int))))], [(1, (false, a0.cs))], [], []⟩) (by kernel_rfl) ⟨d52 a0, hg5, d33 a0 _ hx4_4, d53 x4_4, trivial⟩ ?_
      exact hJ6 (decide ((checkState x4_4) = (0 : Int))) _ h (Le.rfl')
    · rw [if_neg hg5] at h
      have hg5 := Bool.eq_false_iff.2 hg5
      refine awp_reg kpNone [(1, AV.bool (State.few a0))] [(2, false)] [2] (cs := [(Det Tryz.prog 52 [State.av a0] (.ret (AV.bool (State.few a0)))), ((State.few a0) = false)]) (st' := ⟨11, [(2, AV.bool false)], [(1, (false, a0.cs))], [], []⟩) (by kernel_rfl) ⟨d52 a0, hg5, trivial⟩ ?_
      exact hJ6 false _ h (Le.rfl')


-- ballastlaw19.StratTwins
def F11.j46 (rec37 : (Bool × Int) → Option Bool) (p37 : Bool × Int) : (Bool) → Option Bool := fun p46 =>
  rec37 (p46, w64 (p37.2 + (1 : Int)))
def F11.j45 (rec37 : (Bool × Int) → Option Bool) (p37 : Bool × Int) : (Bool) → Option Bool := fun p45 =>
  if p45 = true then (F11.j46 rec37 p37 false) else (F11.j46 rec37 p37 p37.1)
def F11.j54 (rec27 : (Int × Int) → Option Bool) (p27 : Int × Int) : (Int) → Option Bool := fun p54 =>
  rec27 (p54, w64 (p27.2 + (1 : Int)))
def F11.j53 (rec27 : (Int × Int) → Option Bool) (p27 : Int × Int) : (Bool) → Option Bool := fun p53 =>
  if p53 = true then (F11.j54 rec27 p27 (w64 (p27.1 + (1 : Int)))) else (F11.j54 rec27 p27 p27.1)
def F11.l37 (p27 : Int × Int) (x24_7 : (List Pod)) (rec27 : (Int × Int) → Option Bool) (rec37 : (Bool × Int) → Option Bool) : (Bool × Int) → Option Bool := fun p37 =>
  if decide (p37.2 < p27.2) = true then ((getI x24_7 p37.2).bind fun x43_2 => (getI x24_7 p27.2).bind fun x43_7 => if decide (x43_2.Owner = x43_7.Owner) = true then ((getI x24_7 p37.2).bind fun x43_14 => F11.j45 rec37 p37 (!x43_14.Hold)) else (F11.j45 rec37 p37 false)) else (if (!p37.1) = true then ((getI x24_7 p27.2).bind fun x50_5 => if decide (¬ x50_5.Owner = []) = true then ((getI x24_7 p27.2).bind fun x50_13 => F11.j53 rec27 p27 (!x50_13.Hold)) else (F11.j53 rec27 p27 false)) else (F11.j53 rec27 p27 false))
def F11.l27 (x24_7 : (List Pod)) (l37 : (Int × Int) → ((List Pod)) → ((Int × Int) → Option Bool) → (Bool × Int) → Option Bool) (rec18 : (Int × Int) → Option Bool) (p18 : Int × Int) (rec27 : (Int × Int) → Option Bool) : (Int × Int) → Option Bool := fun p27 =>
  if decide (p27.2 < (List.length x24_7 : Int)) = true then (l37 p27 x24_7 rec27 (true, 0)) else (rec18 (p27.1, w64 (p18.2 + (1 : Int))))
def F11.l18 (a0 : State) (l27 : ((List Pod)) → ((Int × Int) → ((List Pod)) → ((Int × Int) → Option Bool) → (Bool × Int) → Option Bool) → ((Int × Int) → Option Bool) → (Int × Int) → (Int × Int) → Option Bool) (l37 : (Int × Int) → ((List Pod)) → ((Int × Int) → Option Bool) → (Bool × Int) → Option Bool) (rec18 : (Int × Int) → Option Bool) : (Int × Int) → Option Bool := fun p18 =>
  if decide (p18.2 < (List.length a0.Nodes : Int)) = true then ((getI a0.Nodes p18.2).bind fun x24_4 => (onF a0 x24_4.Name).bind fun x24_7 => l27 x24_7 l37 rec18 p18 (p18.1, 0)) else ((A46 a0 3 (⟨0, 0⟩ : Marks)).bind fun x59_2 => some (decide ((List.length x59_2 : Int) = p18.1)))
def F11 (l37 : (Int × Int) → ((List Pod)) → ((Int × Int) → Option Bool) → (Bool × Int) → Option Bool) (l27 : ((List Pod)) → ((Int × Int) → ((List Pod)) → ((Int × Int) → Option Bool) → (Bool × Int) → Option Bool) → ((Int × Int) → Option Bool) → (Int × Int) → (Int × Int) → Option Bool) (l18 : (((List Pod)) → ((Int × Int) → ((List Pod)) → ((Int × Int) → Option Bool) → (Bool × Int) → Option Bool) → ((Int × Int) → Option Bool) → (Int × Int) → (Int × Int) → Option Bool) → ((Int × Int) → ((List Pod)) → ((Int × Int) → Option Bool) → (Bool × Int) → Option Bool) → (Int × Int) → Option Bool) (a0 : State) : Option Bool :=
  (F42).bind fun x5_0 => if (!x5_0) = true then (some false) else ((F26 a0).bind fun x10_1 => if (!x10_1) = true then (some true) else (l18 l27 l37 (0, 0)))
/-- ballast/ballastlaw19.StratTwins -/
theorem c11 (a0 : State) (l37 : (Int × Int) → ((List Pod)) → ((Int × Int) → Option Bool) → (Bool × Int) → Option Bool) (l27 : ((List Pod)) → ((Int × Int) → ((List Pod)) → ((Int × Int) → Option Bool) → (Bool × Int) → Option Bool) → ((Int × Int) → Option Bool) → (Int × Int) → (Int × Int) → Option Bool) (l18 : (((List Pod)) → ((Int × Int) → ((List Pod)) → ((Int × Int) → Option Bool) → (Bool × Int) → Option Bool) → ((Int × Int) → Option Bool) → (Int × Int) → (Int × Int) → Option Bool) → ((Int × Int) → ((List Pod)) → ((Int × Int) → Option Bool) → (Bool × Int) → Option Bool) → (Int × Int) → Option Bool) (hl37 : ∀ (p27 : Int × Int), ∀ (x24_7 : (List Pod)), ∀ (rec27 : (Int × Int) → Option Bool), Rounds (F11.l37 p27 x24_7 rec27) (l37 p27 x24_7 rec27)) (hl27 : ∀ (x24_7 : (List Pod)), ∀ (l37 : (Int × Int) → ((List Pod)) → ((Int × Int) → Option Bool) → (Bool × Int) → Option Bool), ∀ (rec18 : (Int × Int) → Option Bool), ∀ (p18 : Int × Int), Rounds (F11.l27 x24_7 l37 rec18 p18) (l27 x24_7 l37 rec18 p18)) (hl18 : ∀ (l27 : ((List Pod)) → ((Int × Int) → ((List Pod)) → ((Int × Int) → Option Bool) → (Bool × Int) → Option Bool) → ((Int × Int) → Option Bool) → (Int × Int) → (Int × Int) → Option Bool), ∀ (l37 : (Int × Int) → ((List Pod)) → ((Int × Int) → Option Bool) → (Bool × Int) → Option Bool), Rounds (F11.l18 a0 l27 l37) (l18 l27 l37)) (r : Bool) (h : F11 l37 l27 l18 a0 = some r) :
    Det Tryz.prog 11 [State.av a0] (.ret (AV.bool r)) := by
  refine Det.of_le ?_
  refine @calls_of_body Tryz.prog 11 Tryz.f11 _ Tryz.func11 rfl (by kernel_rfl) [.tmp 2] (by rw [Tryz.results11]) 85 Tryz.ntmps11 _ _ _ (by simp only [List.length_cons, List.length_nil]; decide) ?_
  unfold F11 at h
  refine awp_sr kpNone [] [] [1] (cs := []) (st' := ⟨85, [(1, .varp 1 0)], [(1, (false, a0.cs))], [], []⟩) (by kernel_rfl) trivial ?_
  refine awp_seq fun N3 hN3 => ?_
  obtain ⟨x5_0, hx5_0, h⟩ := Option.bind_eq_some_iff.1 h
  refine awp_sr kpNone [(0, AV.bool x5_0)] [] [1, 10] (cs := [(Det Tryz.prog 42 [] (.ret (AV.bool x5_0)))]) (st' := ⟨85, [(1, .varp 1 0), (10, AV.bool (!x5_0))], [(1, (false, a0.cs))], [], []⟩) (by kernel_rfl) ⟨c42  _ hx5_0, trivial⟩ ?_
  refine awp_cond (t := (!x5_0)) rfl (fun hb => ?_) (fun hb => ?_)
  · rw [if_pos hb] at h
    refine awp_sr kpNone [] [] [2] (cs := []) (st' := ⟨85, [(2, AV.bool false)], [(1, (false, a0.cs))], [], []⟩) (by kernel_rfl) trivial ?_
    have h := Option.some.inj h
    subst h
    exact awp_ret ⟨[AV.bool false], by kernel_rfl, Lw.refl _⟩
  · rw [if_false hb] at h
    refine awp_skip ?_
    refine hN3 _ ?_
    refine awp_seq fun N8 hN8 => ?_
    obtain ⟨x10_1, hx10_1, h⟩ := Option.bind_eq_some_iff.1 h
    refine awp_sr kpNone [(1, AV.bool x10_1)] [] [1, 13] (cs := [(Det Tryz.prog 26 [State.av a0] (.ret (AV.bool x10_1)))]) (st' := ⟨85, [(1, .varp 1 0), (13, AV.bool (!x10_1))], [(1, (false, a0.cs))], [], []⟩) (by kernel_rfl) ⟨c26 a0 _ hx10_1, trivial⟩ ?_
    refine awp_cond (t := (!x10_1)) rfl (fun hb => ?_) (fun hb => ?_)
    · rw [if_pos hb] at h
      refine awp_sr kpNone [] [] [2] (cs := []) (st' := ⟨85, [(2, AV.bool true)], [(1, (false, a0.cs))], [], []⟩) (by kernel_rfl) trivial ?_
      have h := Option.some.inj h
      subst h
      exact awp_ret ⟨[AV.bool true], by kernel_rfl, Lw.refl _⟩
    · rw [if_false hb] at h
      refine awp_skip ?_
      refine hN8 _ ?_
      refine awp_sr kpNone [] [] [1, 3] (cs := []) (st' := ⟨85, [(1, .varp 1 0), (3, AV.int 0)], [(1, (false, a0.cs))], [], []⟩) (by kernel_rfl) trivial ?_
      refine awp_seq fun N15 hN15 => ?_
      refine awp_sr kpNone [] [] [1, 3, 4] (cs := []) (st' := ⟨85, [(1, .varp 1 0), (3, AV.int 0), (4, AV.int 0)], [(1, (false, a0.cs))], [], []⟩) (by kernel_rfl) trivial ?_
      refine awp_block ?_
      refine awp_loop ?_
      refine awpL_le (st' := ⟨85, [(1, .varp 1 0), (3, AV.int 0), (4, AV.int 0)], [(1, (false, a0.cs))], [], []⟩) ?_ ?_
      · exact Le.rfl'
      refine awpL_fix (hl18 l27 l37) r (fun p18 => ⟨85, [(1, .varp 1 0), (3, AV.int p18.1), (4, AV.int p18.2)], [(1, (false, a0.cs))], [], []⟩) (fun rec18 hrec18 p18 h => ?_) (0, 0) h
      unfold F11.l18 at h
      refine awpL_round ?_
      refine awp_seq fun N19 hN19 => ?_
      refine awp_sr kpNone [(3, AV.int (List.length a0.Nodes : Int))] [] [1, 3, 4, 18] (cs := [((AV.int (List.length a0.Nodes : Int) = .val (.int .i64 (List.length (List.map Node.av a0.Nodes) : Int))))]) (st' := ⟨85, [(1, .varp 1 0), (3, AV.int p18.1), (4, AV.int p18.2), (18, AV.bool (decide (p18.2 < (List.length a0.Nodes : Int))))], [(1, (false, a0.cs))], [], []⟩) (by kernel_rfl) ⟨len_map _ _, trivial⟩ ?_
      refine awp_cond (t := decide (p18.2 < (List.length a0.Nodes : Int))) rfl (fun hb => ?_) (fun hb => ?_)
      · rw [if_pos hb] at h
        refine awp_skip ?_
        refine hN19 _ ?_
        refine awp_seq fun N22 hN22 => ?_
        refine awp_block ?_
        refine awp_seq fun N23 hN23 => ?_
        obtain ⟨x24_4, hx24_4, h⟩ := Option.bind_eq_some_iff.1 h
        obtain ⟨x24_7, hx24_7, h⟩ := Option.bind_eq_some_iff.1 h
        refine awp_regD mixedTryz kpNone [(4, Node.av x24_4), (7, AV.lst 11 Pod.av x24_7)] [] [1, 3, 4, 5] (by kernel_rfl) (cs := [(0 ≤ p18.2), ((List.map Node.av a0.Nodes)[Int.toNat p18.2]? = some (Node.av x24_4)), (Det Tryz.prog 50 [State.av a0, AV.str x24_4.Name] (.ret (AV.lst 11 Pod.av x24_7)))]) (st' := ⟨85, [(1, .varp 1 0), (3, AV.int p18.1), (4, AV.int p18.2), (5, AV.lst 11 Pod.av x24_7)], [(1, (false, a0.cs))], [], []⟩) (by kernel_rfl) ⟨getI_le hx24_4, getI_map hx24_4 _, d50 a0 x24_4.Name _ hx24_7, trivial⟩ ?_
        refine hN23 _ ?_
        refine awp_sr kpNone [] [] [1, 3, 4, 5, 6] (cs := []) (st' := ⟨85, [(1, .varp 1 0), (3, AV.int p18.1), (4, AV.int p18.2), (5, AV.lst 11 Pod.av x24_7), (6, AV.int 0)], [(1, (false, a0.cs))], [], []⟩) (by kernel_rfl) trivial ?_
        refine awp_block ?_
        refine awp_loop ?_
        refine awpL_le (st' := ⟨85, [(1, .varp 1 0), (3, AV.int p18.1), (4, AV.int p18.2), (5, AV.lst 11 Pod.av x24_7), (6, AV.int 0)], [(1, (false, a0.cs))], [], []⟩) ?_ ?_
        · exact Le.rfl'
        refine awpL_fix (hl27 x24_7 l37 rec18 p18) r (fun p27 => ⟨85, [(1, .varp 1 0), (3, AV.int p27.1), (4, AV.int p18.2), (5, AV.lst 11 Pod.av x24_7), (6, AV.int p27.2)], [(1, (false, a0.cs))], [], []⟩) (fun rec27 hrec27 p27 h => ?_) (p18.1, 0) h
        unfold F11.l27 at h
        refine awpL_round ?_
        refine awp_seq fun N28 hN28 => ?_
        refine awp_sr kpNone [(2, AV.int (List.length x24_7 : Int))] [] [1, 3, 4, 5, 6, 32] (cs := [((AV.int (List.length x24_7 : Int) = .val (.int .i64 (List.length (List.map Pod.av x24_7) : Int))))]) (st' := ⟨85, [(1, .varp 1 0), (3, AV.int p27.1), (4, AV.int p18.2), (5, AV.lst 11 Pod.av x24_7), (6, AV.int p27.2), (32, AV.bool (decide (p27.2 < (List.length x24_7 : Int))))], [(1, (false, a0.cs))], [], []⟩) (by kernel_rfl) ⟨len_map _ _, trivial⟩ ?_
        refine awp_cond (t := decide (p27.2 < (List.length x24_7 : Int))) rfl (fun hb => ?_) (fun hb => ?_)
        · rw [if_pos hb] at h
          refine awp_skip ?_
          refine hN28 _ ?_
          refine awp_seq fun N31 hN31 => ?_
          refine awp_block ?_
          refine awp_sr kpNone [] [] [1, 3, 4, 5, 6, 7] (cs := []) (st' := ⟨85, [(1, .varp 1 0), (3, AV.int p27.1), (4, AV.int p18.2), (5, AV.lst 11 Pod.av x24_7), (6, AV.int p27.2), (7, AV.bool true)], [(1, (false, a0.cs))], [], []⟩) (by kernel_rfl) trivial ?_
          refine awp_seq fun N34 hN34 => ?_
          refine awp_sr kpNone [] [] [1, 3, 4, 5, 6, 7, 8] (cs := []) (st' := ⟨85, [(1, .varp 1 0), (3, AV.int p27.1), (4, AV.int p18.2), (5, AV.lst 11 Pod.av x24_7), (6, AV.int p27.2), (7, AV.bool true), (8, AV.int 0)], [(1, (false, a0.cs))], [], []⟩) (by kernel_rfl) trivial ?_
          refine awp_block ?_
          refine awp_loop ?_
          refine awpL_le (st' := ⟨85, [(1, .varp 1 0), (3, AV.int p27.1), (4, AV.int p18.2), (5, AV.lst 11 Pod.av x24_7), (6, AV.int p27.2), (7, AV.bool true), (8, AV.int 0)], [(1, (false, a0.cs))], [], []⟩) ?_ ?_
          · exact Le.rfl'
          refine awpL_fix (hl37 p27 x24_7 rec27) r (fun p37 => ⟨85, [(1, .varp 1 0), (3, AV.int p27.1), (4, AV.int p18.2), (5, AV.lst 11 Pod.av x24_7), (6, AV.int p27.2), (7, AV.bool p37.1), (8, AV.int p37.2)], [(1, (false, a0.cs))], [], []⟩) (fun rec37 hrec37 p37 h => ?_) (true, 0) h
          unfold F11.l37 at h
          refine awpL_round ?_
          refine awp_seq fun N38 hN38 => ?_
          refine awp_sr kpNone [] [] [1, 3, 4, 5, 6, 7, 8, 37] (cs := []) (st' := ⟨85, [(1, .varp 1 0), (3, AV.int p27.1), (4, AV.int p18.2), (5, AV.lst 11 Pod.av x24_7), (6, AV.int p27.2), (7, AV.bool p37.1), (8, AV.int p37.2), (37, AV.bool (decide (p37.2 < p27.2)))], [(1, (false, a0.cs))], [], []⟩) (by kernel_rfl) trivial ?_
          refine awp_cond (t := decide (p37.2 < p27.2)) rfl (fun hb => ?_) (fun hb => ?_)
          · rw [if_pos hb] at h
            refine awp_skip ?_
            refine hN38 _ ?_
            refine awp_seq fun N41 hN41 => ?_
            refine awp_block ?_
            refine awp_seq fun N42 hN42 => ?_
            refine awp_to (σ := Bool) (fun p45 => ⟨85, [(1, .varp 1 0), (3, AV.int p27.1), (4, AV.int p18.2), (5, AV.lst 11 Pod.av x24_7), (6, AV.int p27.2), (7, AV.bool p37.1), (8, AV.int p37.2), (58, AV.bool p45)], [(1, (false, a0.cs))], [], []⟩) (fun p45 => F11.j45 rec37 p37 p45 = some r) (fun p45 h => ?_) (fun N45 hJ45 => ?_)
            · unfold F11.j45 at h
              refine hN42 _ ?_
              refine awp_to (σ := Bool) (fun p46 => ⟨85, [(1, .varp 1 0), (3, AV.int p27.1), (4, AV.int p18.2), (5, AV.lst 11 Pod.av x24_7), (6, AV.int p27.2), (7, AV.bool p46), (8, AV.int p37.2)], [(1, (false, a0.cs))], [], []⟩) (fun p46 => F11.j46 rec37 p37 p46 = some r) (fun p46 h => ?_) (fun N46 hJ46 => ?_)
              · unfold F11.j46 at h
                refine hN41 _ ?_
                refine awp_reg kpNone [] [] [1, 3, 4, 5, 6, 7, 8] (cs := []) (st' := ⟨85, [(1, .varp 1 0), (3, AV.int p27.1), (4, AV.int p18.2), (5, AV.lst 11 Pod.av x24_7), (6, AV.int p27.2), (7, AV.bool p46), (8, AV.int (w64 (p37.2 + (1 : Int))))], [(1, (false, a0.cs))], [], []⟩) (by kernel_rfl) trivial ?_
                refine awpL_le ?_ (hrec37 _ h)
                exact Le.rfl'
              · refine awp_cond (t := p45) rfl (fun hb => ?_) (fun hb => ?_)
                · rw [if_pos hb] at h
                  refine awp_reg kpNone [] [] [1, 3, 4, 5, 6, 7, 8] (cs := []) (st' := ⟨85, [(1, .varp 1 0), (3, AV.int p27.1), (4, AV.int p18.2), (5, AV.lst 11 Pod.av x24_7), (6, AV.int p27.2), (7, AV.bool false), (8, AV.int p37.2)], [(1, (false, a0.cs))], [], []⟩) (by kernel_rfl) trivial ?_
                  exact hJ46 false _ h (Le.rfl')
                · rw [if_false hb] at h
                  refine awp_skip ?_
                  exact hJ46 p37.1 _ h (Le.mk rfl ⟨⟨rfl, rfl⟩, rfl, rfl, .inl rfl, rfl, rfl, rfl, trivial⟩ ⟨⟨rfl, ⟨.inl rfl, .inl rfl, .inl rfl, trivial⟩⟩, trivial⟩ trivial trivial)
            · obtain ⟨x43_2, hx43_2, h⟩ := Option.bind_eq_some_iff.1 h
              obtain ⟨x43_7, hx43_7, h⟩ := Option.bind_eq_some_iff.1 h
              by_cases hg44 : decide (x43_2.Owner = x43_7.Owner) = true
              · rw [if_pos hg44] at h
                obtain ⟨x43_14, hx43_14, h⟩ := Option.bind_eq_some_iff.1 h
                refine awp_regD mixedTryz kpNone [(2, Pod.av x43_2), (7, Pod.av x43_7), (14, Pod.av x43_14)] [(11, true)] [1, 3, 4, 5, 6, 7, 8, 58] (by kernel_rfl) (cs := [(0 ≤ p37.2), ((List.map Pod.av x24_7)[Int.toNat p37.2]? = some (Pod.av x43_2)), (0 ≤ p27.2), ((List.map Pod.av x24_7)[Int.toNat p27.2]? = some (Pod.av x43_7)), (decide (x43_2.Owner = x43_7.Owner) = true), (0 ≤ p37.2), ((List.map Pod.av x24_7)[Int.toNat p37.2]? = some (Pod.av x43_14))]) (st' := ⟨85, [(1, .varp 1 0), (3, AV.int p27.1), (4, AV.int p18.2), (5, AV.lst 11 Pod.av x24_7), (6, AV.int p27.2), (7, AV.bool p37.1), (8, AV.int p37.2), (58, AV.bool (!x43_14.Hold))], [(1, (false, a0.cs))], [], []⟩) (by kernel_rfl) ⟨getI_le hx43_2, getI_map hx43_2 _, getI_le hx43_7, getI_map hx43_7 _, hg44, getI_le hx43_14, getI_map hx43_14 _, trivial⟩ ?_
                exact hJ45 (!x43_14.Hold) _ h (Le.rfl')
              · rw [if_neg hg44] at h
                have hg44 := Bool.eq_false_iff.2 hg44
                refine awp_regD mixedTryz kpNone [(2, Pod.av x43_2), (7, Pod.av x43_7)] [(11, false)] [1, 3, 4, 5, 6, 7, 8, 58] (by kernel_rfl) (cs := [(0 ≤ p37.2), ((List.map Pod.av x24_7)[Int.toNat p37.2]? = some (Pod.av x43_2)), (0 ≤ p27.2), ((List.map Pod.av x24_7)[Int.toNat p27.2]? = some (Pod.av x43_7)), (decide (x43_2.Owner = x43_7.Owner) = false)]) (st' := ⟨85, [(1, .varp 1 0), (3, AV.int p27.1), (4, AV.int p18.2), (5, AV.lst 11 Pod.av x24_7), (6, AV.int p27.2), (7, AV.bool p37.1), (8, AV.int p37.2), (58, AV.bool false)], [(1, (false, a0.cs))], [], []⟩) (by kernel_rfl) ⟨getI_le hx43_2, getI_map hx43_2 _, getI_le hx43_7, getI_map hx43_7 _, hg44, trivial⟩ ?_
                exact hJ45 false _ h (Le.rfl')
          · rw [if_false hb] at h
            refine awp_exit ?_
            refine hN34 _ ?_
            refine awp_seq fun N49 hN49 => ?_
            refine awp_to (σ := Bool) (fun p53 => ⟨85, [(1, .varp 1 0), (3, AV.int p27.1), (4, AV.int p18.2), (5, AV.lst 11 Pod.av x24_7), (6, AV.int p27.2), (76, AV.bool p53)], [(1, (false, a0.cs))], [], []⟩) (fun p53 => F11.j53 rec27 p27 p53 = some r) (fun p53 h => ?_) (fun N53 hJ53 => ?_)
            · unfold F11.j53 at h
              refine hN49 _ ?_
              refine awp_to (σ := Int) (fun p54 => ⟨85, [(1, .varp 1 0), (3, AV.int p54), (4, AV.int p18.2), (5, AV.lst 11 Pod.av x24_7), (6, AV.int p27.2)], [(1, (false, a0.cs))], [], []⟩) (fun p54 => F11.j54 rec27 p27 p54 = some r) (fun p54 h => ?_) (fun N54 hJ54 => ?_)
              · unfold F11.j54 at h
                refine hN31 _ ?_
                refine awp_reg kpNone [] [] [1, 3, 4, 5, 6] (cs := []) (st' := ⟨85, [(1, .varp 1 0), (3, AV.int p54), (4, AV.int p18.2), (5, AV.lst 11 Pod.av x24_7), (6, AV.int (w64 (p27.2 + (1 : Int))))], [(1, (false, a0.cs))], [], []⟩) (by kernel_rfl) trivial ?_
                refine awpL_le ?_ (hrec27 _ h)
                exact Le.rfl'
              · refine awp_cond (t := p53) rfl (fun hb => ?_) (fun hb => ?_)
                · rw [if_pos hb] at h
                  refine awp_reg kpNone [] [] [1, 3, 4, 5, 6] (cs := []) (st' := ⟨85, [(1, .varp 1 0), (3, AV.int (w64 (p27.1 + (1 : Int)))), (4, AV.int p18.2), (5, AV.lst 11 Pod.av x24_7), (6, AV.int p27.2)], [(1, (false, a0.cs))], [], []⟩) (by kernel_rfl) trivial ?_
                  exact hJ54 (w64 (p27.1 + (1 : Int))) _ h (Le.rfl')
                · rw [if_false hb] at h
                  refine awp_skip ?_
                  exact hJ54 p27.1 _ h (Le.mk rfl ⟨⟨rfl, rfl⟩, rfl, rfl, .inl rfl, rfl, trivial⟩ ⟨⟨rfl, ⟨.inl rfl, .inl rfl, .inl rfl, trivial⟩⟩, trivial⟩ trivial trivial)
            · by_cases hg51 : (!p37.1) = true
              · rw [if_pos hg51] at h
                obtain ⟨x50_5, hx50_5, h⟩ := Option.bind_eq_some_iff.1 h
                by_cases hg52 : decide (¬ x50_5.Owner = []) = true
                · rw [if_pos hg52] at h
                  obtain ⟨x50_13, hx50_13, h⟩ := Option.bind_eq_some_iff.1 h
                  refine awp_reg kpNone [(5, Pod.av x50_5), (13, Pod.av x50_13)] [(2, true), (10, true)] [1, 3, 4, 5, 6, 76] (cs := [((!p37.1) = true), (0 ≤ p27.2), ((List.map Pod.av x24_7)[Int.toNat p27.2]? = some (Pod.av x50_5)), (decide (¬ x50_5.Owner = []) = true), (0 ≤ p27.2), ((List.map Pod.av x24_7)[Int.toNat p27.2]? = some (Pod.av x50_13))]) (st' := ⟨85, [(1, .varp 1 0), (3, AV.int p27.1), (4, AV.int p18.2), (5, AV.lst 11 Pod.av x24_7), (6, AV.int p27.2), (76, AV.bool (!x50_13.Hold))], [(1, (false, a0.cs))], [], []⟩) (by kernel_rfl) ⟨hg51, getI_le hx50_5, getI_map hx50_5 _, hg52, getI_le hx50_13, getI_map hx50_13 _, trivial⟩ ?_
                  exact hJ53 (!x50_13.Hold) _ h (Le.rfl')
                · rw [if_neg hg52] at h
                  have hg52 := Bool.eq_false_iff.2 hg52
                  refine awp_reg kpNone [(5, Pod.av x50_5)] [(2, true), (10, false)] [1, 3, 4, 5, 6, 76] (cs := [((!p37.1) = true), (0 ≤ p27.2), ((List.map Pod.av x24_7)[Int.toNat p27.2]? = some (Pod.av x50_5)), (decide (¬ x50_5.Owner = []) = false)]) (st' := ⟨85, [(1, .varp 1 0), (3, AV.int p27.1), (4, AV.int p18.2), (5, AV.lst 11 Pod.av x24_7), (6, AV.int p27.2), (76, AV.bool false)], [(1, (false, a0.cs))], [], []⟩) (by kernel_rfl) ⟨hg51, getI_le hx50_5, getI_map hx50_5 _, hg52, trivial⟩ ?_
                  exact hJ53 false _ h (Le.rfl')
              · rw [if_neg hg51] at h
                have hg51 := Bool.eq_false_iff.2 hg51
                refine awp_reg kpNone [] [(2, false)] [1, 3, 4, 5, 6, 76] (cs := [((!p37.1) = false)]) (st' := ⟨85, [(1, .varp 1 0), (3, AV.int p27.1), (4, AV.int p18.2), (5, AV.lst 11 Pod.av x24_7), (6, AV.int p27.2), (76, AV.bool false)], [(1, (false, a0.cs))], [], []⟩) (by kernel_rfl) ⟨hg51, trivial⟩ ?_
                exact hJ53 false _ h (Le.rfl')
        · rw [if_false hb] at h
          refine awp_exit ?_
          refine hN22 _ ?_
          refine awp_reg kpNone [] [] [1, 3, 4] (cs := []) (st' := ⟨85, [(1, .varp 1 0), (3, AV.int p27.1), (4, AV.int (w64 (p18.2 + (1 : Int))))], [(1, (false, a0.cs))], [], []⟩) (by kernel_rfl) trivial ?_
          refine awpL_le ?_ (hrec18 _ h)
          exact Le.rfl'
      · rw [if_false hb] at h
        refine awp_exit ?_
        refine hN15 _ ?_
        obtain ⟨x59_2, hx59_2, h⟩ := Option.bind_eq_some_iff.1 h
        refine awp_sr kpNone [(2, AV.lst 1 AV.str x59_2), (3, AV.int (List.length x59_2 : Int))] [] [2] (cs := [(Det Tryz.prog 46 [State.av a0, AV.int 3, .agg [AV.fl 0, AV.fl 0]] (.ret (AV.lst 1 AV.str x59_2))), ((AV.int (List.length x59_2 : Int) = .val (.int .i64 (List.length (List.map AV.str x59_2) : Int))))]) (st' := ⟨85, [(2, AV.bool (decide ((List.length x59_2 : Int) = p18.1)))], [(1, (false, a0.cs))], [], []⟩) (by kernel_rfl) ⟨d46 a0 3 (⟨0, 0⟩ : Marks) _ hx59_2, len_map _ _, trivial⟩ ?_
        have h := Option.some.inj h
        subst h
        exact awp_ret ⟨[AV.bool (decide ((List.length x59_2 : Int) = p18.1))], by kernel_rfl, Lw.refl _⟩
def A11.l37 (a0 : State) (p27 : Int × Int) (x24_7 : (List Pod)) (rec27 : (Int × Int) → Option Bool) : (Bool × Int) → Option Bool := iterL (F11.l37 p27 x24_7 rec27) 4096
def A11.l27 (a0 : State) (x24_7 : (List Pod)) (l37 : (Int × Int) → ((List Pod)) → ((Int × Int) → Option Bool) → (Bool × Int) → Option Bool) (rec18 : (Int × Int) → Option Bool) (p18 : Int × Int) : (Int × Int) → Option Bool := iterL (F11.l27 x24_7 l37 rec18 p18) 4096
def A11.l18 (a0 : State) (l27 : ((List Pod)) → ((Int × Int) → ((List Pod)) → ((Int × Int) → Option Bool) → (Bool × Int) → Option Bool) → ((Int × Int) → Option Bool) → (Int × Int) → (Int × Int) → Option Bool) (l37 : (Int × Int) → ((List Pod)) → ((Int × Int) → Option Bool) → (Bool × Int) → Option Bool) : (Int × Int) → Option Bool := iterL (F11.l18 a0 l27 l37) 4096
def A11 (a0 : State) : Option Bool := F11 (A11.l37 a0) (A11.l27 a0) (A11.l18 a0) a0
theorem d11 (a0 : State) (r : Bool) (h : A11 a0 = some r) :
    Det Tryz.prog 11 [State.av a0] (.ret (AV.bool r)) := by
  exact c11 a0 (A11.l37 a0) (A11.l27 a0) (A11.l18 a0) (fun _ _ _ => rounds_iter _ _) (fun _ _ _ _ => rounds_iter _ _) (fun _ _ => rounds_iter _ _) r h


end Go.Proofs.Eng
