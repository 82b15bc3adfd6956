/- Printed walks and contracts. -/
import Derived.Test.YtdolhcmhdjmoeaaGreatDoorStrT8
set_option linter.unusedSimpArgs false
set_option linter.unusedVariables false
set_option maxRecDepth 100000
namespace Go.Proofs.Eng
open Go Go.Proofs Go.Sort
-- ballastref5.CheckVec
def F103.j29 (rec11 : (Int) → Option Int) (p11 : Int) : (Bool) → Option Int := fun p29 =>
  if p29 = true then (some 13) else (rec11 (w64 (p11 + (1 : Int))))
def F103.l11 (a0 : (List Amount)) (rec11 : (Int) → Option Int) : (Int) → Option Int := fun p11 =>
  if decide (p11 < (List.length a0 : Int)) = true then ((getI a0 p11).bind fun x18_2 => if (!(isName x18_2.Name)) = true then (some 3) else ((getI a0 p11).bind fun x23_2 => if decide (x23_2.N ≤ (0 : Int)) = true then (some 1) else (if decide ((0 : Int) < p11) = true then ((getI a0 p11).bind fun x27_5 => (getI a0 (w64 (p11 - (1 : Int)))).bind fun x27_11 => F103.j29 rec11 p11 ((Op.bytesLess x27_5.Name x27_11.Name) || decide (x27_5.Name = x27_11.Name))) else (F103.j29 rec11 p11 false)))) else (some 0)
def F103 (l11 : (Int) → Option Int) (a0 : (List Amount)) : Option Int :=
  if decide ((8 : Int) < (List.length a0 : Int)) = true then (some 4) else (l11 0)
/-- ballast/ballastref5.CheckVec -/
theorem c103 (a0 : (List Amount)) (l11 : (Int) → Option Int) (hl11 : Rounds (F103.l11 a0) (l11)) (r : Int) (h : F103 l11 a0 = some r) :
    Det Tryz.prog 103 [AV.lst 2 Amount.av a0] (.ret (AV.int r)) := by
  refine Det.of_le ?_
  refine @calls_of_body Tryz.prog 103 Tryz.f103 _ Tryz.func103 rfl (by kernel_rfl) [.tmp 2] (by rw [Tryz.results103]) 42 Tryz.ntmps103 _ _ _ (by simp only [List.length_cons, List.length_nil]; decide) ?_
  unfold F103 at h
  refine awp_sr kpNone [] [] [0] (cs := []) (st' := ⟨42, [(0, AV.lst 2 Amount.av a0)], [], [], []⟩) (by kernel_rfl) trivial ?_
  refine awp_seq fun N3 hN3 => ?_
  refine awp_sr kpNone [(1, AV.int (List.length a0 : Int))] [] [0, 6] (cs := [((AV.int (List.length a0 : Int) = .val (.int .i64 (List.length (List.map Amount.av a0) : Int))))]) (st' := ⟨42, [(0, AV.lst 2 Amount.av a0), (6, AV.bool (decide ((8 : Int) < (List.length a0 : Int))))], [], [], []⟩) (by kernel_rfl) ⟨len_map _ _, trivial⟩ ?_
  refine awp_cond (t := decide ((8 : Int) < (List.length a0 : Int))) rfl (fun hb => ?_) (fun hb => ?_)
  · rw [if_pos hb] at h
    refine awp_sr kpNone [] [] [2] (cs := []) (st' := ⟨42, [(2, AV.int 4)], [], [], []⟩) (by kernel_rfl) trivial ?_
    have h := Option.some.inj h
    subst h
    exact awp_ret ⟨[AV.int 4], by kernel_rfl, Lw.refl _⟩
  · rw [if_false hb] at h
    refine awp_skip ?_
    refine hN3 _ ?_
    refine awp_seq fun N8 hN8 => ?_
    refine awp_sr kpNone [] [] [0, 3] (cs := []) (st' := ⟨42, [(0, AV.lst 2 Amount.av a0), (3, AV.int 0)], [], [], []⟩) (by kernel_rfl) trivial ?_
    refine awp_block ?_
    refine awp_loop ?_
    refine awpL_le (st' := ⟨42, [(0, AV.lst 2 Amount.av a0), (3, AV.int 0)], [], [], []⟩) ?_ ?_
    · exact Le.rfl'
    refine awpL_fix hl11 r (fun p11 => ⟨42, [(0, AV.lst 2 Amount.av a0), (3, AV.int p11)], [], [], []⟩) (fun rec11 hrec11 p11 h => ?_) 0 h
    unfold F103.l11 at h
    refine awpL_round ?_
    refine awp_seq fun N12 hN12 => ?_
    refine awp_sr kpNone [(2, AV.int (List.length a0 : Int))] [] [0, 3, 10] (cs := [((AV.int (List.length a0 : Int) = .val (.int .i64 (List.length (List.map Amount.av a0) : Int))))]) (st' := ⟨42, [(0, AV.lst 2 Amount.av a0), (3, AV.int p11), (10, AV.bool (decide (p11 < (List.length a0 : Int))))], [], [], []⟩) (by kernel_rfl) ⟨len_map _ _, trivial⟩ ?_
    refine awp_cond (t := decide (p11 < (List.length a0 : Int))) rfl (fun hb => ?_) (fun hb => ?_)
    · rw [if_pos hb] at h
      refine awp_skip ?_
      refine hN12 _ ?_
      refine awp_seq fun N15 hN15 => ?_
      refine awp_block ?_
      refine awp_seq fun N16 hN16 => ?_
      obtain ⟨x18_2, hx18_2, h⟩ := Option.bind_eq_some_iff.1 h
      refine awp_sr kpNone [(2, Amount.av x18_2), (5, AV.bool (isName x18_2.Name))] [] [0, 3, 19] (cs := [(0 ≤ p11), ((List.map Amount.av a0)[Int.toNat p11]? = some (Amount.av x18_2)), (Det Tryz.prog 102 [AV.str x18_2.Name] (.ret (AV.bool (isName x18_2.Name))))]) (st' := ⟨42, [(0, AV.lst 2 Amount.av a0), (3, AV.int p11), (19, AV.bool (!(isName x18_2.Name)))], [], [], []⟩) (by kernel_rfl) ⟨getI_le hx18_2, getI_map hx18_2 _, d102 x18_2.Name, trivial⟩ ?_
      refine awp_cond (t := (!(isName x18_2.Name))) rfl (fun hb => ?_) (fun hb => ?_)
      · rw [if_pos hb] at h
        refine awp_sr kpNone [] [] [2] (cs := []) (st' := ⟨42, [(2, AV.int 3)], [], [], []⟩) (by kernel_rfl) trivial ?_
        have h := Option.some.inj h
        subst h
        exact awp_ret ⟨[AV.int 3], by kernel_rfl, Lw.refl _⟩
      · rw [if_false hb] at h
        refine awp_skip ?_
        refine hN16 _ ?_
        refine awp_seq fun N21 hN21 => ?_
        obtain ⟨x23_2, hx23_2, h⟩ := Option.bind_eq_some_iff.1 h
        refine awp_sr kpNone [(2, Amount.av x23_2)] [] [0, 3, 25] (cs := [(0 ≤ p11), ((List.map Amount.av a0)[Int.toNat p11]? = some (Amount.av x23_2))]) (st' := ⟨42, [(0, AV.lst 2 Amount.av a0), (3, AV.int p11), (25, AV.bool (decide (x23_2.N ≤ (0 : Int))))], [], [], []⟩) (by kernel_rfl) ⟨getI_le hx23_2, getI_map hx23_2 _, trivial⟩ ?_
        refine awp_cond (t := decide (x23_2.N ≤ (0 : Int))) rfl (fun hb => ?_) (fun hb => ?_)
        · rw [if_pos hb] at h
          refine awp_sr kpNone [] [] [2] (cs := []) (st' := ⟨42, [(2, AV.int 1)], [], [], []⟩) (by kernel_rfl) trivial ?_
          have h := Option.some.inj h
          subst h
          exact awp_ret ⟨[AV.int 1], by kernel_rfl, Lw.refl _⟩
        · rw [if_false hb] at h
          refine awp_skip ?_
          refine hN21 _ ?_
          refine awp_seq fun N26 hN26 => ?_
          refine awp_to (σ := Bool) (fun p29 => ⟨42, [(0, AV.lst 2 Amount.av a0), (3, AV.int p11), (41, AV.bool p29)], [], [], []⟩) (fun p29 => F103.j29 rec11 p11 p29 = some r) (fun p29 h => ?_) (fun N29 hJ29 => ?_)
          · unfold F103.j29 at h
            refine hN26 _ ?_
            refine awp_cond (t := p29) rfl (fun hb => ?_) (fun hb => ?_)
            · rw [if_pos hb] at h
              refine awp_sr kpNone [] [] [2] (cs := []) (st' := ⟨42, [(2, AV.int 13)], [], [], []⟩) (by kernel_rfl) trivial ?_
              have h := Option.some.inj h
              subst h
              exact awp_ret ⟨[AV.int 13], by kernel_rfl, Lw.refl _⟩
            · rw [if_false hb] at h
              refine awp_skip ?_
              refine hN15 _ ?_
              refine awp_reg kpNone [] [] [0, 3] (cs := []) (st' := ⟨42, [(0, AV.lst 2 Amount.av a0), (3, AV.int (w64 (p11 + (1 : Int))))], [], [], []⟩) (by kernel_rfl) trivial ?_
              refine awpL_le ?_ (hrec11 _ h)
              exact Le.rfl'
          · by_cases hg28 : decide ((0 : Int) < p11) = true
            · rw [if_pos hg28] at h
              obtain ⟨x27_5, hx27_5, h⟩ := Option.bind_eq_some_iff.1 h
              obtain ⟨x27_11, hx27_11, h⟩ := Option.bind_eq_some_iff.1 h
              refine awp_regD mixedTryz kpNone [(5, Amount.av x27_5), (11, Amount.av x27_11)] [(2, true)] [0, 3, 41] (by kernel_rfl) (cs := [(decide ((0 : Int) < p11) = true), (0 ≤ p11), ((List.map Amount.av a0)[Int.toNat p11]? = some (Amount.av x27_5)), (0 ≤ (w64 (p11 - (1 : Int)))), ((List.map Amount.av a0)[Int.toNat (w64 (p11 - (1 : Int)))]? = some (Amount.av x27_11))]) (st' := ⟨42, [(0, AV.lst 2 Amount.av a0), (3, AV.int p11), (41, AV.bool ((Op.bytesLess x27_5.Name x27_11.Name) || decide (x27_5.Name = x27_11.Name)))], [], [], []⟩) (by kernel_rfl) ⟨hg28, getI_le hx27_5, getI_map hx27_5 _, getI_le hx27_11, getI_map hx27_11 _, trivial⟩ ?_
              exact hJ29 ((Op.bytesLess x27_5.Name x27_11.Name) || decide (x27_5.Name = x27_11.Name)) _ h (Le.rfl')
            · rw [if_neg hg28] at h
              have hg28 := Bool.eq_false_iff.2 hg28
              refine awp_regD mixedTryz kpNone [] [(2, false)] [0, 3, 41] (by kernel_rfl) (cs := [(decide ((0 : Int) < p11) = false)]) (st' := ⟨42, [(0, AV.lst 2 Amount.av a0), (3, AV.int p11), (41, AV.bool false)], [], [], []⟩) (by kernel_rfl) ⟨hg28, trivial⟩ ?_
              exact hJ29 false _ h (Le.rfl')
    · rw [if_false hb] at h
      refine awp_exit ?_
      refine hN8 _ ?_
      refine awp_sr kpNone [] [] [2] (cs := []) (st' := ⟨42, [(2, AV.int 0)], [], [], []⟩) (by kernel_rfl) trivial ?_
      have h := Option.some.inj h
      subst h
      exact awp_ret ⟨[AV.int 0], by kernel_rfl, Lw.refl _⟩
-- {"kind": "tot", "S": "checkVec", "thm": "d103"}
theorem d103 (a0 : List Amount) : Det Tryz.prog 103 [AV.lst 2 Amount.av a0] (.ret (AV.int (checkVec a0))) := by
  refine Det.len 0 rfl fun hl => c103 a0 _ (rounds_prev a0 hl (fun o t => some (chkRows amtChk Amount.Name o t)) _ ?_ ?_) _ ?_
  · intro rec o
    simp [F103.l11, chkRows]
  · intro rec p x t o h1 hx hpo hr hw
    simp only [F103.l11, F103.j29, hx, hw, hr, h1, decide_true, if_true, Option.bind_some, chkRows_cons, amtChk]
    rcases hpo with ⟨h0, rfl⟩ | ⟨y, h0, hy, rfl⟩
    · rcases Bool.eq_false_or_eq_true (isName x.Name) with n1 | n1 <;> by_cases hn : x.N ≤ 0 <;> simp [n1, hn, h0]
    · rcases Bool.eq_false_or_eq_true (isName x.Name) with n1 | n1 <;> by_cases hn : x.N ≤ 0 <;> simp [n1, hn, h0, hy, leS] <;> split <;> rfl
  · simp only [F103, checkVec, decide_eq_true_eq]
    by_cases q : 8 < a0.length
    · rw [if_pos (by omega), if_pos q]
    · rw [if_neg (by omega), if_neg q]; simp


-- ballastref5.CheckSet
def F104.j26 (rec11 : (Int) → Option Int) (p11 : Int) : (Bool) → Option Int := fun p26 =>
  if p26 = true then (some 13) else (rec11 (w64 (p11 + (1 : Int))))
def F104.j20 (p11 : Int) (a0 : (List Pair)) (rec11 : (Int) → Option Int) : (Bool) → Option Int := fun p20 =>
  if p20 = true then (some 3) else (if decide ((0 : Int) < p11) = true then ((getI a0 p11).bind fun x24_5 => (getI a0 (w64 (p11 - (1 : Int)))).bind fun x24_11 => F104.j26 rec11 p11 ((Op.bytesLess x24_5.Key x24_11.Key) || decide (x24_5.Key = x24_11.Key))) else (F104.j26 rec11 p11 false))
def F104.l11 (a0 : (List Pair)) (rec11 : (Int) → Option Int) : (Int) → Option Int := fun p11 =>
  if decide (p11 < (List.length a0 : Int)) = true then ((getI a0 p11).bind fun x18_2 => if (!(isName x18_2.Key)) = true then (F104.j20 p11 a0 rec11 true) else ((getI a0 p11).bind fun x18_10 => F104.j20 p11 a0 rec11 (!(isName x18_10.Val)))) else (some 0)
def F104 (l11 : (Int) → Option Int) (a0 : (List Pair)) : Option Int :=
  if decide ((8 : Int) < (List.length a0 : Int)) = true then (some 4) else (l11 0)
/-- ballast/ballastref5.CheckSet -/
theorem c104 (a0 : (List Pair)) (l11 : (Int) → Option Int) (hl11 : Rounds (F104.l11 a0) (l11)) (r : Int) (h : F104 l11 a0 = some r) :
    Det Tryz.prog 104 [AV.lst 2 Pair.av a0] (.ret (AV.int r)) := by
  refine Det.of_le ?_
  refine @calls_of_body Tryz.prog 104 Tryz.f104 _ Tryz.func104 rfl (by kernel_rfl) [.tmp 2] (by rw [Tryz.results104]) 45 Tryz.ntmps104 _ _ _ (by simp only [List.length_cons, List.length_nil]; decide) ?_
  unfold F104 at h
  refine awp_sr kpNone [] [] [0] (cs := []) (st' := ⟨45, [(0, AV.lst 2 Pair.av a0)], [], [], []⟩) (by kernel_rfl) trivial ?_
  refine awp_seq fun N3 hN3 => ?_
  refine awp_sr kpNone [(1, AV.int (List.length a0 : Int))] [] [0, 6] (cs := [((AV.int (List.length a0 : Int) = .val (.int .i64 (List.length (List.map Pair.av a0) : Int))))]) (st' := ⟨45, [(0, AV.lst 2 Pair.av a0), (6, AV.bool (decide ((8 : Int) < (List.length a0 : Int))))], [], [], []⟩) (by kernel_rfl) ⟨len_map _ _, trivial⟩ ?_
  refine awp_cond (t := decide ((8 : Int) < (List.length a0 : Int))) rfl (fun hb => ?_) (fun hb => ?_)
  · rw [if_pos hb] at h
    refine awp_sr kpNone [] [] [2] (cs := []) (st' := ⟨45, [(2, AV.int 4)], [], [], []⟩) (by kernel_rfl) trivial ?_
    have h := Option.some.inj h
    subst h
    exact awp_ret ⟨[AV.int 4], by kernel_rfl, Lw.refl _⟩
  · rw [if_false hb] at h
    refine awp_skip ?_
    refine hN3 _ ?_
    refine awp_seq fun N8 hN8 => ?_
    refine awp_sr kpNone [] [] [0, 3] (cs := []) (st' := ⟨45, [(0, AV.lst 2 Pair.av a0), (3, AV.int 0)], [], [], []⟩) (by kernel_rfl) trivial ?_
    refine awp_block ?_
    refine awp_loop ?_
    refine awpL_le (st' := ⟨45, [(0, AV.lst 2 Pair.av a0), (3, AV.int 0)], [], [], []⟩) ?_ ?_
    · exact Le.rfl'
    refine awpL_fix hl11 r (fun p11 => ⟨45, [(0, AV.lst 2 Pair.av a0), (3, AV.int p11)], [], [], []⟩) (fun rec11 hrec11 p11 h => ?_) 0 h
    unfold F104.l11 at h
    refine awpL_round ?_
    refine awp_seq fun N12 hN12 => ?_
    refine awp_sr kpNone [(2, AV.int (List.length a0 : Int))] [] [0, 3, 10] (cs := [((AV.int (List.length a0 : Int) = .val (.int .i64 (List.length (List.map Pair.av a0) : Int))))]) (st' := ⟨45, [(0, AV.lst 2 Pair.av a0), (3, AV.int p11), (10, AV.bool (decide (p11 < (List.length a0 : Int))))], [], [], []⟩) (by kernel_rfl) ⟨len_map _ _, trivial⟩ ?_
    refine awp_cond (t := decide (p11 < (List.length a0 : Int))) rfl (fun hb => ?_) (fun hb => ?_)
    · rw [if_pos hb] at h
      refine awp_skip ?_
      refine hN12 _ ?_
      refine awp_seq fun N15 hN15 => ?_
      refine awp_block ?_
      refine awp_seq fun N16 hN16 => ?_
      refine awp_seq fun N17 hN17 => ?_
      refine awp_to (σ := Bool) (fun p20 => ⟨45, [(0, AV.lst 2 Pair.av a0), (3, AV.int p11), (28, AV.bool p20)], [], [], []⟩) (fun p20 => F104.j20 p11 a0 rec11 p20 = some r) (fun p20 h => ?_) (fun N20 hJ20 => ?_)
      · unfold F104.j20 at h
        refine hN17 _ ?_
        refine awp_cond (t := p20) rfl (fun hb => ?_) (fun hb => ?_)
        · rw [if_pos hb] at h
          refine awp_sr kpNone [] [] [2] (cs := []) (st' := ⟨45, [(2, AV.int 3)], [], [], []⟩) (by kernel_rfl) trivial ?_
          have h := Option.some.inj h
          subst h
          exact awp_ret ⟨[AV.int 3], by kernel_rfl, Lw.refl _⟩
        · rw [if_false hb] at h
          refine awp_skip ?_
          refine hN16 _ ?_
          refine awp_seq fun N23 hN23 => ?_
          refine awp_to (σ := Bool) (fun p26 => ⟨45, [(0, AV.lst 2 Pair.av a0), (3, AV.int p11), (44, AV.bool p26)], [], [], []⟩) (fun p26 => F104.j26 rec11 p11 p26 = some r) (fun p26 h => ?_) (fun N26 hJ26 => ?_)
          · unfold F104.j26 at h
            refine hN23 _ ?_
            refine awp_cond (t := p26) rfl (fun hb => ?_) (fun hb => ?_)
            · rw [if_pos hb] at h
              refine awp_sr kpNone [] [] [2] (cs := []) (st' := ⟨45, [(2, AV.int 13)], [], [], []⟩) (by kernel_rfl) trivial ?_
              have h := Option.some.inj h
              subst h
              exact awp_ret ⟨[AV.int 13], by kernel_rfl, Lw.refl _⟩
            · rw [if_false hb] at h
              refine awp_skip ?_
              refine hN15 _ ?_
              refine awp_reg kpNone [] [] [0, 3] (cs := []) (st' := ⟨45, [(0, AV.lst 2 Pair.av a0), (3, AV.int (w64 (p11 + (1 : Int))))], [], [], []⟩) (by kernel_rfl) trivial ?_
              refine awpL_le ?_ (hrec11 _ h)
              exact Le.rfl'
          · by_cases hg25 : decide ((0 : Int) < p11) = true
            · rw [if_pos hg25] at h
              obtain ⟨x24_5, hx24_5, h⟩ := Option.bind_eq_some_iff.1 h
              obtain ⟨x24_11, hx24_11, h⟩ := Option.bind_eq_some_iff.1 h
              refine awp_regD mixedTryz kpNone [(5, Pair.av x24_5), (11, Pair.av x24_11)] [(2, true)] [0, 3, 44] (by kernel_rfl) (cs := [(decide ((0 : Int) < p11) = true), (0 ≤ p11), ((List.map Pair.av a0)[Int.toNat p11]? = some (Pair.av x24_5)), (0 ≤ (w64 (p11 - (1 : Int)))), ((List.map Pair.av a0)[Int.toNat (w64 (p11 - (1 : Int)))]? = some (Pair.av x24_11))]) (st' := ⟨45, [(0, AV.lst 2 Pair.av a0), (3, AV.int p11), (44, AV.bool ((Op.bytesLess x24_5.Key x24_11.Key) || decide (x24_5.Key = x24_11.Key)))], [], [], []⟩) (by kernel_rfl) ⟨hg25, getI_le hx24_5, getI_map hx24_5 _, getI_le hx24_11, getI_map hx24_11 _, trivial⟩ ?_
              exact hJ26 ((Op.bytesLess x24_5.Key x24_11.Key) || decide (x24_5.Key = x24_11.Key)) _ h (Le.rfl')
            · rw [if_neg hg25] at h
              have hg25 := Bool.eq_false_iff.2 hg25
              refine awp_regD mixedTryz kpNone [] [(2, false)] [0, 3, 44] (by kernel_rfl) (cs := [(decide ((0 : Int) < p11) = false)]) (st' := ⟨45, [(0, AV.lst 2 Pair.av a0), (3, AV.int p11), (44, AV.bool false)], [], [], []⟩) (by kernel_rfl) ⟨hg25, trivial⟩ ?_
              exact hJ26 false _ h (Le.rfl')
      · obtain ⟨x18_2, hx18_2, h⟩ := Option.bind_eq_some_iff.1 h
        by_cases hg19 : (!(isName x18_2.Key)) = true
        · rw [if_pos hg19] at h
          refine awp_reg kpNone [(2, Pair.av x18_2), (5, AV.bool (isName x18_2.Key))] [(7, true)] [0, 3, 28] (cs := [(0 ≤ p11), ((List.map Pair.av a0)[Int.toNat p11]? = some (Pair.av x18_2)), (Det Tryz.prog 102 [AV.str x18_2.Key] (.ret (AV.bool (isName x18_2.Key)))), ((!(isName x18_2.Key)) = true)]) (st' := ⟨45, [(0, AV.lst 2 Pair.av a0), (3, AV.int p11), (28, AV.bool true)], [], [], []⟩) (by kernel_rfl) ⟨getI_le hx18_2, getI_map hx18_2 _, d102 x18_2.Key, hg19, trivial⟩ ?_
          exact hJ20 true _ h (Le.rfl')
        · rw [if_neg hg19] at h
          have hg19 := Bool.eq_false_iff.2 hg19
          obtain ⟨x18_10, hx18_10, h⟩ := Option.bind_eq_some_iff.1 h
          refine awp_reg kpNone [(2, Pair.av x18_2), (5, AV.bool (isName x18_2.Key)), (10, Pair.av x18_10), (13, AV.bool (isName x18_10.Val))] [(7, false)] [0, 3, 28] (cs := [(0 ≤ p11), ((List.map Pair.av a0)[Int.toNat p11]? = some (Pair.av x18_2)), (Det Tryz.prog 102 [AV.str x18_2.Key] (.ret (AV.bool (isName x18_2.Key)))), ((!(isName x18_2.Key)) = false), (0 ≤ p11), ((List.map Pair.av a0)[Int.toNat p11]? = some (Pair.av x18_10)), (Det Tryz.prog 102 [AV.str x18_10.Val] (.ret (AV.bool (isName x18_10.Val))))]) (st' := ⟨45, [(0, AV.lst 2 Pair.av a0), (3, AV.int p11), (28, AV.bool (!(isName x18_10.Val)))], [], [], []⟩) (by kernel_rfl) ⟨getI_le hx18_2, getI_map hx18_2 _, d102 x18_2.Key, hg19, getI_le hx18_10, getI_map hx18_10 _, d102 x18_10.Val, trivial⟩ ?_
          exact hJ20 (!(isName x18_10.Val)) _ h (Le.rfl')
    · rw [if_false hb] at h
      refine awp_exit ?_
      refine hN8 _ ?_
      refine awp_sr kpNone [] [] [2] (cs := []) (st' := ⟨45, [(2, AV.int 0)], [], [], []⟩) (by kernel_rfl) trivial ?_
      have h := Option.some.inj h
      subst h
      exact awp_ret ⟨[AV.int 0], by kernel_rfl, Lw.refl _⟩
-- {"kind": "tot", "S": "checkSet", "thm": "d104"}
theorem d104 (a0 : List Pair) : Det Tryz.prog 104 [AV.lst 2 Pair.av a0] (.ret (AV.int (checkSet a0))) := by
  refine Det.len 0 rfl fun hl => c104 a0 _ (rounds_prev a0 hl (fun o t => some (chkRows pairChk Pair.Key o t)) _ ?_ ?_) _ ?_
  · intro rec o
    simp [F104.l11, chkRows]
  · intro rec p x t o h1 hx hpo hr hw
    simp only [F104.l11, F104.j20, F104.j26, hx, hw, hr, h1, decide_true, if_true, Option.bind_some, chkRows_cons, pairChk]
    rcases hpo with ⟨h0, rfl⟩ | ⟨y, h0, hy, rfl⟩
    · rcases Bool.eq_false_or_eq_true (isName x.Key) with n1 | n1 <;> rcases Bool.eq_false_or_eq_true (isName x.Val) with n2 | n2 <;> simp [n1, n2, h0]
    · rcases Bool.eq_false_or_eq_true (isName x.Key) with n1 | n1 <;> rcases Bool.eq_false_or_eq_true (isName x.Val) with n2 | n2 <;> simp [n1, n2, h0, hy, leS] <;> split <;> rfl
  · simp only [F104, checkSet, decide_eq_true_eq]
    by_cases q : 8 < a0.length
    · rw [if_pos (by omega), if_pos q]
    · rw [if_neg (by omega), if_neg q]; simp


-- ballastref5.CheckTaints
def F301.j33 (rec25 : (Int) → Option Int) (p25 : Int) : (Bool) → Option Int := fun p33 =>
  if p33 = true then (some 6) else (rec25 (w64 (p25 + (1 : Int))))
def F301.l25 (p11 : Int) (a0 : (List Taint)) (rec11 : (Int) → Option Int) (rec25 : (Int) → Option Int) : (Int) → Option Int := fun p25 =>
  if decide (p25 < p11) = true then ((getI a0 p25).bind fun x31_2 => (getI a0 p11).bind fun x31_7 => if decide (x31_2.Key = x31_7.Key) = true then ((getI a0 p25).bind fun x31_14 => (getI a0 p11).bind fun x31_19 => F301.j33 rec25 p25 (decide (x31_14.Val = x31_19.Val))) else (F301.j33 rec25 p25 false)) else (rec11 (w64 (p11 + (1 : Int))))
def F301.j20 (l25 : (Int) → ((Int) → Option Int) → (Int) → Option Int) (p11 : Int) (rec11 : (Int) → Option Int) : (Bool) → Option Int := fun p20 =>
  if p20 = true then (some 3) else (l25 p11 rec11 0)
def F301.l11 (a0 : (List Taint)) (l25 : (Int) → ((Int) → Option Int) → (Int) → Option Int) (rec11 : (Int) → Option Int) : (Int) → Option Int := fun p11 =>
  if decide (p11 < (List.length a0 : Int)) = true then ((getI a0 p11).bind fun x18_2 => if (!(isName x18_2.Key)) = true then (F301.j20 l25 p11 rec11 true) else ((getI a0 p11).bind fun x18_10 => F301.j20 l25 p11 rec11 (!(isName x18_10.Val)))) else (some 0)
def F301 (l25 : (Int) → ((Int) → Option Int) → (Int) → Option Int) (l11 : ((Int) → ((Int) → Option Int) → (Int) → Option Int) → (Int) → Option Int) (a0 : (List Taint)) : Option Int :=
  if decide ((8 : Int) < (List.length a0 : Int)) = true then (some 4) else (l11 l25 0)
/-- ballast/ballastref5.CheckTaints -/
theorem c301 (a0 : (List Taint)) (l25 : (Int) → ((Int) → Option Int) → (Int) → Option Int) (l11 : ((Int) → ((Int) → Option Int) → (Int) → Option Int) → (Int) → Option Int) (hl25 : ∀ (p11 : Int), ∀ (rec11 : (Int) → Option Int), Rounds (F301.l25 p11 a0 rec11) (l25 p11 rec11)) (hl11 : ∀ (l25 : (Int) → ((Int) → Option Int) → (Int) → Option Int), Rounds (F301.l11 a0 l25) (l11 l25)) (r : Int) (h : F301 l25 l11 a0 = some r) :
    Det Tryz.prog 301 [AV.lst 3 Taint.av a0] (.ret (AV.int r)) := by
  refine Det.of_le ?_
  refine @calls_of_body Tryz.prog 301 Tryz.f301 _ Tryz.func301 rfl (by kernel_rfl) [.tmp 2] (by rw [Tryz.results301]) 59 Tryz.ntmps301 _ _ _ (by simp only [List.length_cons, List.length_nil]; decide) ?_
  unfold F301 at h
  refine awp_sr kpNone [] [] [0] (cs := []) (st' := ⟨59, [(0, AV.lst 3 Taint.av a0)], [], [], []⟩) (by kernel_rfl) trivial ?_
  refine awp_seq fun N3 hN3 => ?_
  refine awp_sr kpNone [(1, AV.int (List.length a0 : Int))] [] [0, 7] (cs := [((AV.int (List.length a0 : Int) = .val (.int .i64 (List.length (List.map Taint.av a0) : Int))))]) (st' := ⟨59, [(0, AV.lst 3 Taint.av a0), (7, AV.bool (decide ((8 : Int) < (List.length a0 : Int))))], [], [], []⟩) (by kernel_rfl) ⟨len_map _ _, trivial⟩ ?_
  refine awp_cond (t := decide ((8 : Int) < (List.length a0 : Int))) rfl (fun hb => ?_) (fun hb => ?_)
  · rw [if_pos hb] at h
    refine awp_sr kpNone [] [] [2] (cs := []) (st' := ⟨59, [(2, AV.int 4)], [], [], []⟩) (by kernel_rfl) trivial ?_
    have h := Option.some.inj h
    subst h
    exact awp_ret ⟨[AV.int 4], by kernel_rfl, Lw.refl _⟩
  · rw [if_false hb] at h
    refine awp_skip ?_
    refine hN3 _ ?_
    refine awp_seq fun N8 hN8 => ?_
    refine awp_sr kpNone [] [] [0, 3] (cs := []) (st' := ⟨59, [(0, AV.lst 3 Taint.av a0), (3, AV.int 0)], [], [], []⟩) (by kernel_rfl) trivial ?_
    refine awp_block ?_
    refine awp_loop ?_
    refine awpL_le (st' := ⟨59, [(0, AV.lst 3 Taint.av a0), (3, AV.int 0)], [], [], []⟩) ?_ ?_
    · exact Le.rfl'
    refine awpL_fix (hl11 l25) r (fun p11 => ⟨59, [(0, AV.lst 3 Taint.av a0), (3, AV.int p11)], [], [], []⟩) (fun rec11 hrec11 p11 h => ?_) 0 h
    unfold F301.l11 at h
    refine awpL_round ?_
    refine awp_seq fun N12 hN12 => ?_
    refine awp_sr kpNone [(2, AV.int (List.length a0 : Int))] [] [0, 3, 11] (cs := [((AV.int (List.length a0 : Int) = .val (.int .i64 (List.length (List.map Taint.av a0) : Int))))]) (st' := ⟨59, [(0, AV.lst 3 Taint.av a0), (3, AV.int p11), (11, AV.bool (decide (p11 < (List.length a0 : Int))))], [], [], []⟩) (by kernel_rfl) ⟨len_map _ _, trivial⟩ ?_
    refine awp_cond (t := decide (p11 < (List.length a0 : Int))) rfl (fun hb => ?_) (fun hb => ?_)
    · rw [if_pos hb] at h
      refine awp_skip ?_
      refine hN12 _ ?_
      refine awp_seq fun N15 hN15 => ?_
      refine awp_block ?_
      refine awp_seq fun N16 hN16 => ?_
      refine awp_seq fun N17 hN17 => ?_
      refine awp_to (σ := Bool) (fun p20 => ⟨59, [(0, AV.lst 3 Taint.av a0), (3, AV.int p11), (29, AV.bool p20)], [], [], []⟩) (fun p20 => F301.j20 l25 p11 rec11 p20 = some r) (fun p20 h => ?_) (fun N20 hJ20 => ?_)
      · unfold F301.j20 at h
        refine hN17 _ ?_
        refine awp_cond (t := p20) rfl (fun hb => ?_) (fun hb => ?_)
        · rw [if_pos hb] at h
          refine awp_sr kpNone [] [] [2] (cs := []) (st' := ⟨59, [(2, AV.int 3)], [], [], []⟩) (by kernel_rfl) trivial ?_
          have h := Option.some.inj h
          subst h
          exact awp_ret ⟨[AV.int 3], by kernel_rfl, Lw.refl _⟩
        · rw [if_false hb] at h
          refine awp_skip ?_
          refine hN16 _ ?_
          refine awp_sr kpNone [] [] [0, 3, 4] (cs := []) (st' := ⟨59, [(0, AV.lst 3 Taint.av a0), (3, AV.int p11), (4, AV.int 0)], [], [], []⟩) (by kernel_rfl) trivial ?_
          refine awp_block ?_
          refine awp_loop ?_
          refine awpL_le (st' := ⟨59, [(0, AV.lst 3 Taint.av a0), (3, AV.int p11), (4, AV.int 0)], [], [], []⟩) ?_ ?_
          · exact Le.rfl'
          refine awpL_fix (hl25 p11 rec11) r (fun p25 => ⟨59, [(0, AV.lst 3 Taint.av a0), (3, AV.int p11), (4, AV.int p25)], [], [], []⟩) (fun rec25 hrec25 p25 h => ?_) 0 h
          unfold F301.l25 at h
          refine awpL_round ?_
          refine awp_seq fun N26 hN26 => ?_
          refine awp_sr kpNone [] [] [0, 3, 4, 32] (cs := []) (st' := ⟨59, [(0, AV.lst 3 Taint.av a0), (3, AV.int p11), (4, AV.int p25), (32, AV.bool (decide (p25 < p11)))], [], [], []⟩) (by kernel_rfl) trivial ?_
          refine awp_cond (t := decide (p25 < p11)) rfl (fun hb => ?_) (fun hb => ?_)
          · rw [if_pos hb] at h
            refine awp_skip ?_
            refine hN26 _ ?_
            refine awp_seq fun N29 hN29 => ?_
            refine awp_block ?_
            refine awp_seq fun N30 hN30 => ?_
            refine awp_to (σ := Bool) (fun p33 => ⟨59, [(0, AV.lst 3 Taint.av a0), (3, AV.int p11), (4, AV.int p25), (58, AV.bool p33)], [], [], []⟩) (fun p33 => F301.j33 rec25 p25 p33 = some r) (fun p33 h => ?_) (fun N33 hJ33 => ?_)
            · unfold F301.j33 at h
              refine hN30 _ ?_
              refine awp_cond (t := p33) rfl (fun hb => ?_) (fun hb => ?_)
              · rw [if_pos hb] at h
                refine awp_sr kpNone [] [] [2] (cs := []) (st' := ⟨59, [(2, AV.int 6)], [], [], []⟩) (by kernel_rfl) trivial ?_
                have h := Option.some.inj h
                subst h
                exact awp_ret ⟨[AV.int 6], by kernel_rfl, Lw.refl _⟩
              · rw [if_false hb] at h
                refine awp_skip ?_
                refine hN29 _ ?_
                refine awp_reg kpNone [] [] [0, 3, 4] (cs := []) (st' := ⟨59, [(0, AV.lst 3 Taint.av a0), (3, AV.int p11), (4, AV.int (w64 (p25 + (1 : Int))))], [], [], []⟩) (by kernel_rfl) trivial ?_
                refine awpL_le ?_ (hrec25 _ h)
                exact Le.rfl'
            · obtain ⟨x31_2, hx31_2, h⟩ := Option.bind_eq_some_iff.1 h
              obtain ⟨x31_7, hx31_7, h⟩ := Option.bind_eq_some_iff.1 h
              by_cases hg32 : decide (x31_2.Key = x31_7.Key) = true
              · rw [if_pos hg32] at h
                obtain ⟨x31_14, hx31_14, h⟩ := Option.bind_eq_some_iff.1 h
                obtain ⟨x31_19, hx31_19, h⟩ := Option.bind_eq_some_iff.1 h
                refine awp_regD mixedTryz kpNone [(2, Taint.av x31_2), (7, Taint.av x31_7), (14, Taint.av x31_14), (19, Taint.av x31_19)] [(11, true)] [0, 3, 4, 58] (by kernel_rfl) (cs := [(0 ≤ p25), ((List.map Taint.av a0)[Int.toNat p25]? = some (Taint.av x31_2)), (0 ≤ p11), ((List.map Taint.av a0)[Int.toNat p11]? = some (Taint.av x31_7)), (decide (x31_2.Key = x31_7.Key) = true), (0 ≤ p25), ((List.map Taint.av a0)[Int.toNat p25]? = some (Taint.av x31_14)), (0 ≤ p11), ((List.map Taint.av a0)[Int.toNat p11]? = some (Taint.av x31_19))]) (st' := ⟨59, [(0, AV.lst 3 Taint.av a0), (3, AV.int p11), (4, AV.int p25), (58, AV.bool (decide (x31_14.Val = x31_19.Val)))], [], [], []⟩) (by kernel_rfl) ⟨getI_le hx31_2, getI_map hx31_2 _, getI_le hx31_7, getI_map hx31_7 _, hg32, getI_le hx31_14, getI_map hx31_14 _, getI_le hx31_19, getI_map hx31_19 _, trivial⟩ ?_
                exact hJ33 (decide (x31_14.Val = x31_19.Val)) _ h (Le.rfl')
              · rw [if_neg hg32] at h
                have hg32 := Bool.eq_false_iff.2 hg32
                refine awp_regD mixedTryz kpNone [(2, Taint.av x31_2), (7, Taint.av x31_7)] [(11, false)] [0, 3, 4, 58] (by kernel_rfl) (cs := [(0 ≤ p25), ((List.map Taint.av a0)[Int.toNat p25]? = some (Taint.av x31_2)), (0 ≤ p11), ((List.map Taint.av a0)[Int.toNat p11]? = some (Taint.av x31_7)), (decide (x31_2.Key = x31_7.Key) = false)]) (st' := ⟨59, [(0, AV.lst 3 Taint.av a0), (3, AV.int p11), (4, AV.int p25), (58, AV.bool false)], [], [], []⟩) (by kernel_rfl) ⟨getI_le hx31_2, getI_map hx31_2 _, getI_le hx31_7, getI_map hx31_7 _, hg32, trivial⟩ ?_
                exact hJ33 false _ h (Le.rfl')
          · rw [if_false hb] at h
            refine awp_exit ?_
            refine hN15 _ ?_
            refine awp_reg kpNone [] [] [0, 3] (cs := []) (st' := ⟨59, [(0, AV.lst 3 Taint.av a0), (3, AV.int (w64 (p11 + (1 : Int))))], [], [], []⟩) (by kernel_rfl) trivial ?_
            refine awpL_le ?_ (hrec11 _ h)
            exact Le.rfl'
      · obtain ⟨x18_2, hx18_2, h⟩ := Option.bind_eq_some_iff.1 h
        by_cases hg19 : (!(isName x18_2.Key)) = true
        · rw [if_pos hg19] at h
          refine awp_reg kpNone [(2, Taint.av x18_2), (5, AV.bool (isName x18_2.Key))] [(7, true)] [0, 3, 29] (cs := [(0 ≤ p11), ((List.map Taint.av a0)[Int.toNat p11]? = some (Taint.av x18_2)), (Det Tryz.prog 102 [AV.str x18_2.Key] (.ret (AV.bool (isName x18_2.Key)))), ((!(isName x18_2.Key)) = true)]) (st' := ⟨59, [(0, AV.lst 3 Taint.av a0), (3, AV.int p11), (29, AV.bool true)], [], [], []⟩) (by kernel_rfl) ⟨getI_le hx18_2, getI_map hx18_2 _, d102 x18_2.Key, hg19, trivial⟩ ?_
          exact hJ20 true _ h (Le.rfl')
        · rw [if_neg hg19] at h
          have hg19 := Bool.eq_false_iff.2 hg19
          obtain ⟨x18_10, hx18_10, h⟩ := Option.bind_eq_some_iff.1 h
          refine awp_reg kpNone [(2, Taint.av x18_2), (5, AV.bool (isName x18_2.Key)), (10, Taint.av x18_10), (13, AV.bool (isName x18_10.Val))] [(7, false)] [0, 3, 29] (cs := [(0 ≤ p11), ((List.map Taint.av a0)[Int.toNat p11]? = some (Taint.av x18_2)), (Det Tryz.prog 102 [AV.str x18_2.Key] (.ret (AV.bool (isName x18_2.Key)))), ((!(isName x18_2.Key)) = false), (0 ≤ p11), ((List.map Taint.av a0)[Int.toNat p11]? = some (Taint.av x18_10)), (Det Tryz.prog 102 [AV.str x18_10.Val] (.ret (AV.bool (isName x18_10.Val))))]) (st' := ⟨59, [(0, AV.lst 3 Taint.av a0), (3, AV.int p11), (29, AV.bool (!(isName x18_10.Val)))], [], [], []⟩) (by kernel_rfl) ⟨getI_le hx18_2, getI_map hx18_2 _, d102 x18_2.Key, hg19, getI_le hx18_10, getI_map hx18_10 _, d102 x18_10.Val, trivial⟩ ?_
          exact hJ20 (!(isName x18_10.Val)) _ h (Le.rfl')
    · rw [if_false hb] at h
      refine awp_exit ?_
      refine hN8 _ ?_
      refine awp_sr kpNone [] [] [2] (cs := []) (st' := ⟨59, [(2, AV.int 0)], [], [], []⟩) (by kernel_rfl) trivial ?_
      have h := Option.some.inj h
      subst h
      exact awp_ret ⟨[AV.int 0], by kernel_rfl, Lw.refl _⟩
-- {"kind": "tot", "S": "checkTaints", "thm": "d301"}
open Classical in
theorem d301 (a0 : List Taint) : Det Tryz.prog 301 [AV.lst 3 Taint.av a0] (.ret (AV.int (checkTaints a0))) := by
  by_cases q : 8 < a0.length
  · refine c301 a0 (fun _ _ _ => none) (fun _ _ => none) (fun _ _ => rounds_none _) (fun _ => rounds_none _) _ ?_
    simp only [F301, checkTaints, decide_eq_true_eq]
    rw [if_pos (by omega), if_pos q]
  · have hm : maxLen = 9223372036854775807 := rfl
    let L25 : Int → (Int → Option Int) → Int → Option Int := fun p11 rec11 p => if 0 ≤ p ∧ p ≤ p11 ∧ p11 < a0.length then (getI a0 p11).bind fun x => if ((a0.take p11.toNat).drop p.toNat).any (fun y => sameTaint y x) = true then some 6 else rec11 (w64 (p11 + 1)) else none
    refine c301 a0 L25 (fun l p => if l = L25 then (if 0 ≤ p ∧ p ≤ a0.length then some (chkTaints (a0.take p.toNat) (a0.drop p.toNat)) else none) else none) (fun p11 rec11 => ?_) (fun l => ?_) _ ?_
    · refine rounds_mk ⟨fun p => (p11 - p).toNat, fun p r h => ?_⟩
      simp only [L25] at h
      split at h
      · rename_i hp
        obtain ⟨x, hx, h⟩ := Option.bind_eq_some_iff.1 h
        by_cases hlt : p < p11
        · have hl : p < (a0.take p11.toNat).length := by rw [List.length_take]; omega
          obtain ⟨y, hy, hd⟩ := getI_drop hp.1 hl
          have hy' : getI a0 p = some y := by
            have h1 := getI_some hy
            rw [List.getElem?_take] at h1
            split at h1
            · simp only [getI, hp.1, if_true]; exact h1
            · cases h1
          rw [hd, List.any_cons] at h
          have hw : w64 (p + 1) = p + 1 := w64_of (by omega) (by omega)
          have hrec : (if (p11 - (p + 1)).toNat < (p11 - p).toNat then L25 p11 rec11 (p + 1) else none) = (if ((a0.take p11.toNat).drop (p + 1).toNat).any (fun y => sameTaint y x) = true then some 6 else rec11 (w64 (p11 + 1))) := by
            rw [if_pos (by omega)]
            simp only [L25]
            rw [if_pos (by omega), hx]
            rfl
          simp only [F301.l25, F301.j33, hy', hx, hlt, decide_true, if_true, Option.bind_some, hw, hrec]
          rw [← h]
          by_cases k1 : y.Key = x.Key <;> by_cases k2 : y.Val = x.Val <;> simp [sameTaint, k1, k2]
        · have hpe : p = p11 := by omega
          subst hpe
          have : (List.take p.toNat a0).drop p.toNat = [] := List.drop_eq_nil_of_le (by rw [List.length_take]; omega)
          rw [this] at h
          simp only [F301.l25, hlt, decide_false]
          simpa using h
      · cases h
    · by_cases hl : l = L25
      · subst hl
        simp only [if_true]
        refine rounds_take a0 (by omega) (fun d t => some (chkTaints d t)) _ ?_ ?_
        · intro rec d
          simp [F301.l11, chkTaints]
        · intro rec p x t h0 h1 hx hr hw
          have e : L25 p rec 0 = (if (a0.take p.toNat).any (fun y => sameTaint y x) = true then some 6 else rec (p + 1)) := by
            simp only [L25]
            rw [if_pos (by omega), hx, hw]
            simp
          simp only [F301.l11, F301.j20, hx, hw, h1, decide_true, if_true, Option.bind_some, chkTaints, e, hr]
          rcases Bool.eq_false_or_eq_true (isName x.Key) with n1 | n1 <;> rcases Bool.eq_false_or_eq_true (isName x.Val) with n2 | n2 <;> simp [n1, n2] <;> split <;> rfl
      · simp only [hl, if_false]
        exact rounds_none _
    · simp only [F301, checkTaints, decide_eq_true_eq]
      rw [if_neg (by omega), if_neg q]
      simp


-- ballastref10.CheckNode
def F245 (a0 : Node) : Option Int :=
  if (!(isName a0.Name)) = true then (some 3) else (if decide (¬ (checkVec a0.Cap) = (0 : Int)) = true then (some (checkVec a0.Cap)) else (if decide (¬ (checkSet a0.Labels) = (0 : Int)) = true then (some (checkSet a0.Labels)) else (some (checkTaints a0.Taints))))
/-- ballast/ballastref10.CheckNode -/
theorem c245 (a0 : Node) (r : Int) (h : F245 a0 = some r) :
    Det Tryz.prog 245 [Node.av a0] (.ret (AV.int r)) := by
  refine Det.of_le ?_
  refine @calls_of_body Tryz.prog 245 Tryz.f245 _ Tryz.func245 rfl (by kernel_rfl) [.tmp 2] (by rw [Tryz.results245]) 23 Tryz.ntmps245 _ _ _ (by simp only [List.length_cons, List.length_nil]; decide) ?_
  unfold F245 at h
  refine awp_sr kpNone [] [] [1] (cs := []) (st' := ⟨23, [(1, .varp 1 0)], [(1, (false, a0.cs))], [], []⟩) (by kernel_rfl) trivial ?_
  refine awp_seq fun N3 hN3 => ?_
  refine awp_sr kpNone [(2, AV.bool (isName a0.Name))] [] [1, 7] (cs := [(Det Tryz.prog 102 [AV.str a0.Name] (.ret (AV.bool (isName a0.Name))))]) (st' := ⟨23, [(1, .varp 1 0), (7, AV.bool (!(isName a0.Name)))], [(1, (false, a0.cs))], [], []⟩) (by kernel_rfl) ⟨d102 a0.Name, trivial⟩ ?_
  refine awp_cond (t := (!(isName a0.Name))) rfl (fun hb => ?_) (fun hb => ?_)
  · rw [if_pos hb] at h
    refine awp_sr kpNone [] [] [2] (cs := []) (st' := ⟨23, [(2, AV.int 3)], [(1, (false, a0.cs))], [], []⟩) (by kernel_rfl) trivial ?_
    have h := Option.some.inj h
    subst h
    exact awp_ret ⟨[AV.int 3], by kernel_rfl, Lw.refl _⟩
  · rw [if_false hb] at h
    refine awp_skip ?_
    refine hN3 _ ?_
    refine awp_sr kpNone [(2, AV.int (checkVec a0.Cap))] [] [1, 3] (cs := [(Det Tryz.prog 103 [AV.lst 2 Amount.av a0.Cap] (.ret (AV.int (checkVec a0.Cap))))]) (st' := ⟨23, [(1, .varp 1 0), (3, AV.int (checkVec a0.Cap))], [(1, (false, a0.cs))], [], []⟩) (by kernel_rfl) ⟨d103 a0.Cap, trivial⟩ ?_
    refine awp_seq fun N10 hN10 => ?_
    refine awp_sr kpNone [] [] [1, 3, 12] (cs := []) (st' := ⟨23, [(1, .varp 1 0), (3, AV.int (checkVec a0.Cap)), (12, AV.bool (decide (¬ (checkVec a0.Cap) = (0 : Int))))], [(1, (false, a0.cs))], [], []⟩) (by kernel_rfl) trivial ?_
    refine awp_cond (t := decide (¬ (checkVec a0.Cap) = (0 : Int))) rfl (fun hb => ?_) (fun hb => ?_)
    · rw [if_pos hb] at h
      refine awp_sr kpNone [] [] [2] (cs := []) (st' := ⟨23, [(2, AV.int (checkVec a0.Cap))], [(1, (false, a0.cs))], [], []⟩) (by kernel_rfl) trivial ?_
      have h := Option.some.inj h
      subst h
      exact awp_ret ⟨[AV.int (checkVec a0.Cap)], by kernel_rfl, Lw.refl _⟩
    · rw [if_false hb] at h
      refine awp_skip ?_
      refine hN10 _ ?_
      refine awp_sr kpNone [(2, AV.int (checkSet a0.Labels))] [] [1, 3] (cs := [(Det Tryz.prog 104 [AV.lst 2 Pair.av a0.Labels] (.ret (AV.int (checkSet a0.Labels))))]) (st' := ⟨23, [(1, .varp 1 0), (3, AV.int (checkSet a0.Labels))], [(1, (false, a0.cs))], [], []⟩) (by kernel_rfl) ⟨d104 a0.Labels, trivial⟩ ?_
      refine awp_seq fun N17 hN17 => ?_
      refine awp_sr kpNone [] [] [1, 3, 18] (cs := []) (st' := ⟨23, [(1, .varp 1 0), (3, AV.int (checkSet a0.Labels)), (18, AV.bool (decide (¬ (checkSet a0.Labels) = (0 : Int))))], [(1, (false, a0.cs))], [], []⟩) (by kernel_rfl) trivial ?_
      refine awp_cond (t := decide (¬ (checkSet a0.Labels) = (0 : Int))) rfl (fun hb => ?_) (fun hb => ?_)
      · rw [if_pos hb] at h
        refine awp_sr kpNone [] [] [2] (cs := []) (st' := ⟨23, [(2, AV.int (checkSet a0.Labels))], [(1, (false, a0.cs))], [], []⟩) (by kernel_rfl) trivial ?_
        have h := Option.some.inj h
        subst h
        exact awp_ret ⟨[AV.int (checkSet a0.Labels)], by kernel_rfl, Lw.refl _⟩
      · rw [if_false hb] at h
        refine awp_skip ?_
        refine hN17 _ ?_
        refine awp_sr kpNone [(2, AV.int (checkTaints a0.Taints))] [] [2] (cs := [(Det Tryz.prog 301 [AV.lst 3 Taint.av a0.Taints] (.ret (AV.int (checkTaints a0.Taints))))]) (st' := ⟨23, [(2, AV.int (checkTaints a0.Taints))], [(1, (false, a0.cs))], [], []⟩) (by kernel_rfl) ⟨d301 a0.Taints, trivial⟩ ?_
        have h := Option.some.inj h
        subst h
        exact awp_ret ⟨[AV.int (checkTaints a0.Taints)], by kernel_rfl, Lw.refl _⟩
-- {"kind": "tot", "S": "checkNode", "thm": "d245"}
theorem d245 (a0 : Node) : Det Tryz.prog 245 [Node.av a0] (.ret (AV.int (checkNode a0))) := by
  refine c245 a0 _ ?_
  simp only [F245, checkNode, fst0, named, decide_eq_true_eq]
  rcases Bool.eq_false_or_eq_true (isName a0.Name) with n1 | n1 <;> by_cases q1 : checkVec a0.Cap = 0 <;> by_cases q2 : checkSet a0.Labels = 0 <;> by_cases q3 : checkTaints a0.Taints = 0 <;> simp [n1, q1, q2, q3]


-- ballastref10.CheckNodes
def F145.j26 (rec11 : (Int) → Option Int) (p11 : Int) : (Bool) → Option Int := fun p26 =>
  if p26 = true then (some 13) else (rec11 (w64 (p11 + (1 : Int))))
def F145.l11 (a0 : (List Node)) (rec11 : (Int) → Option Int) : (Int) → Option Int := fun p11 =>
  if decide (p11 < (List.length a0 : Int)) = true then ((getI a0 p11).bind fun x17_2 => if decide (¬ (checkNode x17_2) = (0 : Int)) = true then (some (checkNode x17_2)) else (if decide ((0 : Int) < p11) = true then ((getI a0 p11).bind fun x24_5 => (getI a0 (w64 (p11 - (1 : Int)))).bind fun x24_11 => F145.j26 rec11 p11 ((Op.bytesLess x24_5.Name x24_11.Name) || decide (x24_5.Name = x24_11.Name))) else (F145.j26 rec11 p11 false))) else (some 0)
def F145 (l11 : (Int) → Option Int) (a0 : (List Node)) : Option Int :=
  if decide ((32 : Int) < (List.length a0 : Int)) = true then (some 4) else (l11 0)
/-- ballast/ballastref10.CheckNodes -/
theorem c145 (a0 : (List Node)) (l11 : (Int) → Option Int) (hl11 : Rounds (F145.l11 a0) (l11)) (r : Int) (h : F145 l11 a0 = some r) :
    Det Tryz.prog 145 [AV.lst 5 Node.av a0] (.ret (AV.int r)) := by
  refine Det.of_le ?_
  refine @calls_of_body Tryz.prog 145 Tryz.f145 _ Tryz.func145 rfl (by kernel_rfl) [.tmp 2] (by rw [Tryz.results145]) 38 Tryz.ntmps145 _ _ _ (by simp only [List.length_cons, List.length_nil]; decide) ?_
  unfold F145 at h
  refine awp_sr kpNone [] [] [0] (cs := []) (st' := ⟨38, [(0, AV.lst 5 Node.av a0)], [], [], []⟩) (by kernel_rfl) trivial ?_
  refine awp_seq fun N3 hN3 => ?_
  refine awp_sr kpNone [(1, AV.int (List.length a0 : Int))] [] [0, 7] (cs := [((AV.int (List.length a0 : Int) = .val (.int .i64 (List.length (List.map Node.av a0) : Int))))]) (st' := ⟨38, [(0, AV.lst 5 Node.av a0), (7, AV.bool (decide ((32 : Int) < (List.length a0 : Int))))], [], [], []⟩) (by kernel_rfl) ⟨len_map _ _, trivial⟩ ?_
  refine awp_cond (t := decide ((32 : Int) < (List.length a0 : Int))) rfl (fun hb => ?_) (fun hb => ?_)
  · rw [if_pos hb] at h
    refine awp_sr kpNone [] [] [2] (cs := []) (st' := ⟨38, [(2, AV.int 4)], [], [], []⟩) (by kernel_rfl) trivial ?_
    have h := Option.some.inj h
    subst h
    exact awp_ret ⟨[AV.int 4], by kernel_rfl, Lw.refl _⟩
  · rw [if_false hb] at h
    refine awp_skip ?_
    refine hN3 _ ?_
    refine awp_seq fun N8 hN8 => ?_
    refine awp_sr kpNone [] [] [0, 3] (cs := []) (st' := ⟨38, [(0, AV.lst 5 Node.av a0), (3, AV.int 0)], [], [], []⟩) (by kernel_rfl) trivial ?_
    refine awp_block ?_
    refine awp_loop ?_
    refine awpL_le (st' := ⟨38, [(0, AV.lst 5 Node.av a0), (3, AV.int 0)], [], [], []⟩) ?_ ?_
    · exact Le.rfl'
    refine awpL_fix hl11 r (fun p11 => ⟨38, [(0, AV.lst 5 Node.av a0), (3, AV.int p11)], [], [], []⟩) (fun rec11 hrec11 p11 h => ?_) 0 h
    unfold F145.l11 at h
    refine awpL_round ?_
    refine awp_seq fun N12 hN12 => ?_
    refine awp_sr kpNone [(2, AV.int (List.length a0 : Int))] [] [0, 3, 11] (cs := [((AV.int (List.length a0 : Int) = .val (.int .i64 (List.length (List.map Node.av a0) : Int))))]) (st' := ⟨38, [(0, AV.lst 5 Node.av a0), (3, AV.int p11), (11, AV.bool (decide (p11 < (List.length a0 : Int))))], [], [], []⟩) (by kernel_rfl) ⟨len_map _ _, trivial⟩ ?_
    refine awp_cond (t := decide (p11 < (List.length a0 : Int))) rfl (fun hb => ?_) (fun hb => ?_)
    · rw [if_pos hb] at h
      refine awp_skip ?_
      refine hN12 _ ?_
      refine awp_seq fun N15 hN15 => ?_
      refine awp_block ?_
      obtain ⟨x17_2, hx17_2, h⟩ := Option.bind_eq_some_iff.1 h
      refine awp_sr kpNone [(2, Node.av x17_2), (4, AV.int (checkNode x17_2))] [] [0, 3, 4] (cs := [(0 ≤ p11), ((List.map Node.av a0)[Int.toNat p11]? = some (Node.av x17_2)), (Det Tryz.prog 245 [Node.av x17_2] (.ret (AV.int (checkNode x17_2))))]) (st' := ⟨38, [(0, AV.lst 5 Node.av a0), (3, AV.int p11), (4, AV.int (checkNode x17_2))], [], [], []⟩) (by kernel_rfl) ⟨getI_le hx17_2, getI_map hx17_2 _, d245 x17_2, trivial⟩ ?_
      refine awp_seq fun N18 hN18 => ?_
      refine awp_sr kpNone [] [] [0, 3, 4, 20] (cs := []) (st' := ⟨38, [(0, AV.lst 5 Node.av a0), (3, AV.int p11), (4, AV.int (checkNode x17_2)), (20, AV.bool (decide (¬ (checkNode x17_2) = (0 : Int))))], [], [], []⟩) (by kernel_rfl) trivial ?_
      refine awp_cond (t := decide (¬ (checkNode x17_2) = (0 : Int))) rfl (fun hb => ?_) (fun hb => ?_)
      · rw [if_pos hb] at h
        refine awp_sr kpNone [] [] [2] (cs := []) (st' := ⟨38, [(2, AV.int (checkNode x17_2))], [], [], []⟩) (by kernel_rfl) trivial ?_
        have h := Option.some.inj h
        subst h
        exact awp_ret ⟨[AV.int (checkNode x17_2)], by kernel_rfl, Lw.refl _⟩
      · rw [if_false hb] at h
        refine awp_skip ?_
        refine hN18 _ ?_
        refine awp_seq fun N23 hN23 => ?_
        refine awp_to (σ := Bool) (fun p26 => ⟨38, [(0, AV.lst 5 Node.av a0), (3, AV.int p11), (37, AV.bool p26)], [], [], []⟩) (fun p26 => F145.j26 rec11 p11 p26 = some r) (fun p26 h => ?_) (fun N26 hJ26 => ?_)
        · unfold F145.j26 at h
          refine hN23 _ ?_
          refine awp_cond (t := p26) rfl (fun hb => ?_) (fun hb => ?_)
          · rw [if_pos hb] at h
            refine awp_sr kpNone [] [] [2] (cs := []) (st' := ⟨38, [(2, AV.int 13)], [], [], []⟩) (by kernel_rfl) trivial ?_
            have h := Option.some.inj h
            subst h
            exact awp_ret ⟨[AV.int 13], by kernel_rfl, Lw.refl _⟩
          · rw [if_false hb] at h
            refine awp_skip ?_
            refine hN15 _ ?_
            refine awp_reg kpNone [] [] [0, 3] (cs := []) (st' := ⟨38, [(0, AV.lst 5 Node.av a0), (3, AV.int (w64 (p11 + (1 : Int))))], [], [], []⟩) (by kernel_rfl) trivial ?_
            refine awpL_le ?_ (hrec11 _ h)
            exact Le.rfl'
        · by_cases hg25 : decide ((0 : Int) < p11) = true
          · rw [if_pos hg25] at h
            obtain ⟨x24_5, hx24_5, h⟩ := Option.bind_eq_some_iff.1 h
            obtain ⟨x24_11, hx24_11, h⟩ := Option.bind_eq_some_iff.1 h
            refine awp_regD mixedTryz kpNone [(5, Node.av x24_5), (11, Node.av x24_11)] [(2, true)] [0, 3, 37] (by kernel_rfl) (cs := [(decide ((0 : Int) < p11) = true), (0 ≤ p11), ((List.map Node.av a0)[Int.toNat p11]? = some (Node.av x24_5)), (0 ≤ (w64 (p11 - (1 : Int)))), ((List.map Node.av a0)[Int.toNat (w64 (p11 - (1 : Int)))]? = some (Node.av x24_11))]) (st' := ⟨38, [(0, AV.lst 5 Node.av a0), (3, AV.int p11), (37, AV.bool ((Op.bytesLess x24_5.Name x24_11.Name) || decide (x24_5.Name = x24_11.Name)))], [], [], []⟩) (by kernel_rfl) ⟨hg25, getI_le hx24_5, getI_map hx24_5 _, getI_le hx24_11, getI_map hx24_11 _, trivial⟩ ?_
            exact hJ26 ((Op.bytesLess x24_5.Name x24_11.Name) || decide (x24_5.Name = x24_11.Name)) _ h (Le.rfl')
          · rw [if_neg hg25] at h
            have hg25 := Bool.eq_false_iff.2 hg25
            refine awp_regD mixedTryz kpNone [] [(2, false)] [0, 3, 37] (by kernel_rfl) (cs := [(decide ((0 : Int) < p11) = false)]) (st' := ⟨38, [(0, AV.lst 5 Node.av a0), (3, AV.int p11), (37, AV.bool false)], [], [], []⟩) (by kernel_rfl) ⟨hg25, trivial⟩ ?_
            exact hJ26 false _ h (Le.rfl')
    · rw [if_false hb] at h
      refine awp_exit ?_
      refine hN8 _ ?_
      refine awp_sr kpNone [] [] [2] (cs := []) (st' := ⟨38, [(2, AV.int 0)], [], [], []⟩) (by kernel_rfl) trivial ?_
      have h := Option.some.inj h
      subst h
      exact awp_ret ⟨[AV.int 0], by kernel_rfl, Lw.refl _⟩
-- {"kind": "tot", "S": "checkNodes", "thm": "d145"}
theorem d145 (a0 : List Node) : Det Tryz.prog 145 [AV.lst 5 Node.av a0] (.ret (AV.int (checkNodes a0))) := by
  refine Det.len 0 rfl fun hl => c145 a0 _ (rounds_prev a0 hl (fun o t => some (chkRows checkNode Node.Name o t)) _ ?_ ?_) _ ?_
  · intro rec o
    simp [F145.l11, chkRows]
  · intro rec p x t o h1 hx hpo hr hw
    simp only [F145.l11, F145.j26, hx, hw, hr, h1, decide_true, if_true, Option.bind_some, chkRows_cons]
    rcases hpo with ⟨h0, rfl⟩ | ⟨y, h0, hy, rfl⟩
    · by_cases hn : checkNode x = 0 <;> simp [hn, h0]
    · by_cases hn : checkNode x = 0 <;> simp [hn, h0, hy, leS] <;> split <;> rfl
  · simp only [F145, checkNodes, decide_eq_true_eq]
    by_cases q : 32 < a0.length
    · rw [if_pos (by omega), if_pos q]
    · rw [if_neg (by omega), if_neg q]; simp


-- ballastref5.CheckSel
def F105.l11 (a0 : (List Term)) (rec11 : (Int) → Option Int) : (Int) → Option Int := fun p11 =>
  if decide (p11 < (List.length a0 : Int)) = true then ((getI a0 p11).bind fun x17_2 => if ((decide (x17_2.Op < (1 : Int))) || (decide ((4 : Int) < x17_2.Op))) = true then (some 1) else (if ((!(isName x17_2.Key)) || (bif (decide (x17_2.Op ≤ (2 : Int))) then ((!(isName x17_2.Val)) || ((decide ((3 : Int) ≤ x17_2.Op)) && (decide (¬ x17_2.Val = [])))) else ((decide ((3 : Int) ≤ x17_2.Op)) && (decide (¬ x17_2.Val = []))))) = true then (some 3) else (rec11 (w64 (p11 + (1 : Int)))))) else (some 0)
def F105 (l11 : (Int) → Option Int) (a0 : (List Term)) : Option Int :=
  if decide ((8 : Int) < (List.length a0 : Int)) = true then (some 4) else (l11 0)
/-- ballast/ballastref5.CheckSel -/
theorem c105 (a0 : (List Term)) (l11 : (Int) → Option Int) (hl11 : Rounds (F105.l11 a0) (l11)) (r : Int) (h : F105 l11 a0 = some r) :
    Det Tryz.prog 105 [AV.lst 3 Term.av a0] (.ret (AV.int r)) := by
  refine Det.of_le ?_
  refine @calls_of_body Tryz.prog 105 Tryz.f105 _ Tryz.func105 rfl (by kernel_rfl) [.tmp 2] (by rw [Tryz.results105]) 51 Tryz.ntmps105 _ _ _ (by simp only [List.length_cons, List.length_nil]; decide) ?_
  unfold F105 at h
  refine awp_sr kpNone [] [] [0] (cs := []) (st' := ⟨51, [(0, AV.lst 3 Term.av a0)], [], [], []⟩) (by kernel_rfl) trivial ?_
  refine awp_seq fun N3 hN3 => ?_
  refine awp_sr kpNone [(1, AV.int (List.length a0 : Int))] [] [0, 7] (cs := [((AV.int (List.length a0 : Int) = .val (.int .i64 (List.length (List.map Term.av a0) : Int))))]) (st' := ⟨51, [(0, AV.lst 3 Term.av a0), (7, AV.bool (decide ((8 : Int) < (List.length a0 : Int))))], [], [], []⟩) (by kernel_rfl) ⟨len_map _ _, trivial⟩ ?_
  refine awp_cond (t := decide ((8 : Int) < (List.length a0 : Int))) rfl (fun hb => ?_) (fun hb => ?_)
  · rw [if_pos hb] at h
    refine awp_sr kpNone [] [] [2] (cs := []) (st' := ⟨51, [(2, AV.int 4)], [], [], []⟩) (by kernel_rfl) trivial ?_
    have h := Option.some.inj h
    subst h
    exact awp_ret ⟨[AV.int 4], by kernel_rfl, Lw.refl _⟩
  · rw [if_false hb] at h
    refine awp_skip ?_
    refine hN3 _ ?_
    refine awp_seq fun N8 hN8 => ?_
    refine awp_sr kpNone [] [] [0, 3] (cs := []) (st' := ⟨51, [(0, AV.lst 3 Term.av a0), (3, AV.int 0)], [], [], []⟩) (by kernel_rfl) trivial ?_
    refine awp_block ?_
    refine awp_loop ?_
    refine awpL_le (st' := ⟨51, [(0, AV.lst 3 Term.av a0), (3, AV.int 0)], [], [], []⟩) ?_ ?_
    · exact Le.rfl'
    refine awpL_fix hl11 r (fun p11 => ⟨51, [(0, AV.lst 3 Term.av a0), (3, AV.int p11)], [], [], []⟩) (fun rec11 hrec11 p11 h => ?_) 0 h
    unfold F105.l11 at h
    refine awpL_round ?_
    refine awp_seq fun N12 hN12 => ?_
    refine awp_sr kpNone [(2, AV.int (List.length a0 : Int))] [] [0, 3, 11] (cs := [((AV.int (List.length a0 : Int) = .val (.int .i64 (List.length (List.map Term.av a0) : Int))))]) (st' := ⟨51, [(0, AV.lst 3 Term.av a0), (3, AV.int p11), (11, AV.bool (decide (p11 < (List.length a0 : Int))))], [], [], []⟩) (by kernel_rfl) ⟨len_map _ _, trivial⟩ ?_
    refine awp_cond (t := decide (p11 < (List.length a0 : Int))) rfl (fun hb => ?_) (fun hb => ?_)
    · rw [if_pos hb] at h
      refine awp_skip ?_
      refine hN12 _ ?_
      refine awp_seq fun N15 hN15 => ?_
      refine awp_block ?_
      obtain ⟨x17_2, hx17_2, h⟩ := Option.bind_eq_some_iff.1 h
      refine awp_sr kpNone [(2, Term.av x17_2)] [] [0, 3, 4] (cs := [(0 ≤ p11), ((List.map Term.av a0)[Int.toNat p11]? = some (Term.av x17_2))]) (st' := ⟨51, [(0, AV.lst 3 Term.av a0), (3, AV.int p11), (4, .varp 4 0)], [(4, (false, x17_2.cs))], [], []⟩) (by kernel_rfl) ⟨getI_le hx17_2, getI_map hx17_2 _, trivial⟩ ?_
      refine awp_seq fun N18 hN18 => ?_
      refine awp_seq fun N19 hN19 => ?_
      refine awp_to (σ := Bool) (fun p => ⟨51, [(0, AV.lst 3 Term.av a0), (3, AV.int p11), (4, .varp 4 0), (25, AV.bool p)], [(4, (false, x17_2.cs))], [], []⟩) (fun p => p = ((decide (x17_2.Op < (1 : Int))) || (decide ((4 : Int) < x17_2.Op)))) (fun p hp => ?_) (fun N22 hJ22 => ?_)
      · subst hp
        refine hN19 _ ?_
        refine awp_cond (t := ((decide (x17_2.Op < (1 : Int))) || (decide ((4 : Int) < x17_2.Op)))) rfl (fun hb => ?_) (fun hb => ?_)
        · rw [if_pos hb] at h
          refine awp_sr kpNone [] [] [2] (cs := []) (st' := ⟨51, [(2, AV.int 1)], [(4, (false, x17_2.cs))], [], []⟩) (by kernel_rfl) trivial ?_
          have h := Option.some.inj h
          subst h
          exact awp_ret ⟨[AV.int 1], by kernel_rfl, Lw.refl _⟩
        · rw [if_false hb] at h
          refine awp_skip ?_
          refine hN18 _ ?_
          refine awp_seq fun N25 hN25 => ?_
          refine awp_to (σ := Bool) (fun p => ⟨51, [(0, AV.lst 3 Term.av a0), (3, AV.int p11), (50, AV.bool p)], [(4, (false, x17_2.cs))], [], []⟩) (fun p => p = ((!(isName x17_2.Key)) || (bif (decide (x17_2.Op ≤ (2 : Int))) then ((!(isName x17_2.Val)) || ((decide ((3 : Int) ≤ x17_2.Op)) && (decide (¬ x17_2.Val = [])))) else ((decide ((3 : Int) ≤ x17_2.Op)) && (decide (¬ x17_2.Val = [])))))) (fun p hp => ?_) (fun N32 hJ32 => ?_)
          · subst hp
            refine hN25 _ ?_
            refine awp_cond (t := ((!(isName x17_2.Key)) || (bif (decide (x17_2.Op ≤ (2 : Int))) then ((!(isName x17_2.Val)) || ((decide ((3 : Int) ≤ x17_2.Op)) && (decide (¬ x17_2.Val = [])))) else ((decide ((3 : Int) ≤ x17_2.Op)) && (decide (¬ x17_2.Val = [])))))) rfl (fun hb => ?_) (fun hb => ?_)
            · rw [if_pos hb] at h
              refine awp_sr kpNone [] [] [2] (cs := []) (st' := ⟨51, [(2, AV.int 3)], [(4, (false, x17_2.cs))], [], []⟩) (by kernel_rfl) trivial ?_
              have h := Option.some.inj h
              subst h
              exact awp_ret ⟨[AV.int 3], by kernel_rfl, Lw.refl _⟩
            · rw [if_false hb] at h
              refine awp_skip ?_
              refine hN15 _ ?_
              refine awp_reg kpNone [] [] [0, 3] (cs := []) (st' := ⟨51, [(0, AV.lst 3 Term.av a0), (3, AV.int (w64 (p11 + (1 : Int))))], [(4, (false, x17_2.cs))], [], []⟩) (by kernel_rfl) trivial ?_
              refine awpL_le ?_ (hrec11 _ h)
              exact Le.mk rfl ⟨.inl rfl, rfl, trivial⟩ trivial trivial trivial
          · by_cases hg27 : (!(isName x17_2.Key)) = true
            · refine awp_reg kpNone [(2, AV.bool (isName x17_2.Key))] [(4, true)] [0, 3, 50] (cs := [(Det Tryz.prog 102 [AV.str x17_2.Key] (.ret (AV.bool (isName x17_2.Key)))), ((!(isName x17_2.Key)) = true)]) (st' := ⟨51, [(0, AV.lst 3 Term.av a0), (3, AV.int p11), (50, AV.bool true)], [(4, (false, x17_2.cs))], [], []⟩) (by kernel_rfl) ⟨d102 x17_2.Key, hg27, trivial⟩ ?_
              exact hJ32 true _ (by first | rfl | (rw [hg27]; done) | (rw [hg27]; rfl) | (simp [hg27]; done) | (exfalso; revert hg27; simp; done) | (exfalso; revert hg27; simp; intros; assumption)) (Le.rfl')
            · have hg27 := Bool.eq_false_iff.2 hg27
              by_cases hg28 : decide (x17_2.Op ≤ (2 : Int)) = true
              · by_cases hg29 : (!(isName x17_2.Val)) = true
                · refine awp_reg kpNone [(2, AV.bool (isName x17_2.Key)), (11, AV.bool (isName x17_2.Val))] [(4, false), (8, true), (15, true)] [0, 3, 50] (cs := [(Det Tryz.prog 102 [AV.str x17_2.Key] (.ret (AV.bool (isName x17_2.Key)))), ((!(isName x17_2.Key)) = false), (decide (x17_2.Op ≤ (2 : Int)) = true), (Det Tryz.prog 102 [AV.str x17_2.Val] (.ret (AV.bool (isName x17_2.Val)))), ((!(isName x17_2.Val)) = true)]) (st' := ⟨51, [(0, AV.lst 3 Term.av a0), (3, AV.int p11), (50, AV.bool true)], [(4, (false, x17_2.cs))], [], []⟩) (by kernel_rfl) ⟨d102 x17_2.Key, hg27, hg28, d102 x17_2.Val, hg29, trivial⟩ ?_
                  exact hJ32 true _ (by first | rfl | (rw [hg27, hg28, hg29]; done) | (rw [hg27, hg28, hg29]; rfl) | (simp [hg27, hg28, hg29]; done) | (exfalso; revert hg27 hg28 hg29; simp; done) | (exfalso; revert hg27 hg28 hg29; simp; intros; assumption)) (Le.rfl')
                · have hg29 := Bool.eq_false_iff.2 hg29
                  by_cases hg30 : decide ((3 : Int) ≤ x17_2.Op) = true
                  · refine awp_reg kpNone [(2, AV.bool (isName x17_2.Key)), (11, AV.bool (isName x17_2.Val))] [(4, false), (8, true), (15, false), (19, true)] [0, 3, 50] (cs := [(Det Tryz.prog 102 [AV.str x17_2.Key] (.ret (AV.bool (isName x17_2.Key)))), ((!(isName x17_2.Key)) = false), (decide (x17_2.Op ≤ (2 : Int)) = true), (Det Tryz.prog 102 [AV.str x17_2.Val] (.ret (AV.bool (isName x17_2.Val)))), ((!(isName x17_2.Val)) = false), (decide ((3 : Int) ≤ x17_2.Op) = true)]) (st' := ⟨51, [(0, AV.lst 3 Term.av a0), (3, AV.int p11), (50, AV.bool (decide (¬ x17_2.Val = [])))], [(4, (false, x17_2.cs))], [], []⟩) (by kernel_rfl) ⟨d102 x17_2.Key, hg27, hg28, d102 x17_2.Val, hg29, hg30, trivial⟩ ?_
                    exact hJ32 (decide (¬ x17_2.Val = [])) _ (by first | rfl | (rw [hg27, hg28, hg29, hg30]; done) | (rw [hg27, hg28, hg29, hg30]; rfl) | (simp [hg27, hg28, hg29, hg30]; done) | (exfalso; revert hg27 hg28 hg29 hg30; simp; done) | (exfalso; revert hg27 hg28 hg29 hg30; simp; intros; assumption)) (Le.rfl')
                  · have hg30 := Bool.eq_false_iff.2 hg30
                    refine awp_reg kpNone [(2, AV.bool (isName x17_2.Key)), (11, AV.bool (isName x17_2.Val))] [(4, false), (8, true), (15, false), (19, false)] [0, 3, 50] (cs := [(Det Tryz.prog 102 [AV.str x17_2.Key] (.ret (AV.bool (isName x17_2.Key)))), ((!(isName x17_2.Key)) = false), (decide (x17_2.Op ≤ (2 : Int)) = true), (Det Tryz.prog 102 [AV.str x17_2.Val] (.ret (AV.bool (isName x17_2.Val)))), ((!(isName x17_2.Val)) = false), (decide ((3 : Int) ≤ x17_2.Op) = false)]) (st' := ⟨51, [(0, AV.lst 3 Term.av a0), (3, AV.int p11), (50, AV.bool false)], [(4, (false, x17_2.cs))], [], []⟩) (by kernel_rfl) ⟨d102 x17_2.Key, hg27, hg28, d102 x17_2.Val, hg29, hg30, trivial⟩ ?_
                    exact hJ32 false _ (by first | rfl | (rw [hg27, hg28, hg29, hg30]; done) | (rw [hg27, hg28, hg29, hg30]; rfl) | (simp [hg27, hg28, hg29, hg30]; done) | (exfalso; revert hg27 hg28 hg29 hg30; simp; done) | (exfalso; revert hg27 hg28 hg29 hg30; simp; intros; assumption)) (Le.rfl')
              · have hg28 := Bool.eq_false_iff.2 hg28
                by_cases hg31 : decide ((3 : Int) ≤ x17_2.Op) = true
                · refine awp_reg kpNone [(2, AV.bool (isName x17_2.Key))] [(4, false), (8, false), (19, true)] [0, 3, 50] (cs := [(Det Tryz.prog 102 [AV.str x17_2.Key] (.ret (AV.bool (isName x17_2.Key)))), ((!(isName x17_2.Key)) = false), (decide (x17_2.Op ≤ (2 : Int)) = false), (decide ((3 : Int) ≤ x17_2.Op) = true)]) (st' := ⟨51, [(0, AV.lst 3 Term.av a0), (3, AV.int p11), (50, AV.bool (decide (¬ x17_2.Val = [])))], [(4, (false, x17_2.cs))], [], []⟩) (by kernel_rfl) ⟨d102 x17_2.Key, hg27, hg28, hg31, trivial⟩ ?_
                  exact hJ32 (decide (¬ x17_2.Val = [])) _ (by first | rfl | (rw [hg27, hg28, hg31]; done) | (rw [hg27, hg28, hg31]; rfl) | (simp [hg27, hg28, hg31]; done) | (exfalso; revert hg27 hg28 hg31; simp; done) | (exfalso; revert hg27 hg28 hg31; simp; intros; assumption)) (Le.rfl')
                · have hg31 := Bool.eq_false_iff.2 hg31
                  refine awp_reg kpNone [(2, AV.bool (isName x17_2.Key))] [(4, false), (8, false), (19, false)] [0, 3, 50] (cs := [(Det Tryz.prog 102 [AV.str x17_2.Key] (.ret (AV.bool (isName x17_2.Key)))), ((!(isName x17_2.Key)) = false), (decide (x17_2.Op ≤ (2 : Int)) = false), (decide ((3 : Int) ≤ x17_2.Op) = false)]) (st' := ⟨51, [(0, AV.lst 3 Term.av a0), (3, AV.int p11), (50, AV.bool false)], [(4, (false, x17_2.cs))], [], []⟩) (by kernel_rfl) ⟨d102 x17_2.Key, hg27, hg28, hg31, trivial⟩ ?_
                  exact hJ32 false _ (by first | rfl | (rw [hg27, hg28, hg31]; done) | (rw [hg27, hg28, hg31]; rfl) | (simp [hg27, hg28, hg31]; done) | (exfalso; revert hg27 hg28 hg31; simp; done) | (exfalso; revert hg27 hg28 hg31; simp; intros; assumption)) (Le.rfl')
      · by_cases hg21 : decide (x17_2.Op < (1 : Int)) = true
        · refine awp_reg kpNone [] [(3, true)] [0, 3, 4, 25] (cs := [(decide (x17_2.Op < (1 : Int)) = true)]) (st' := ⟨51, [(0, AV.lst 3 Term.av a0), (3, AV.int p11), (4, .varp 4 0), (25, AV.bool true)], [(4, (false, x17_2.cs))], [], []⟩) (by kernel_rfl) ⟨hg21, trivial⟩ ?_
          exact hJ22 true _ (by first | rfl | (rw [hg21]; done) | (rw [hg21]; rfl) | (simp [hg21]; done) | (exfalso; revert hg21; simp; done) | (exfalso; revert hg21; simp; intros; assumption)) (Le.rfl')
        · have hg21 := Bool.eq_false_iff.2 hg21
          refine awp_reg kpNone [] [(3, false)] [0, 3, 4, 25] (cs := [(decide (x17_2.Op < (1 : Int)) = false)]) (st' := ⟨51, [(0, AV.lst 3 Term.av a0), (3, AV.int p11), (4, .varp 4 0), (25, AV.bool (decide ((4 : Int) < x17_2.Op)))], [(4, (false, x17_2.cs))], [], []⟩) (by kernel_rfl) ⟨hg21, trivial⟩ ?_
          exact hJ22 (decide ((4 : Int) < x17_2.Op)) _ (by first | rfl | (rw [hg21]; done) | (rw [hg21]; rfl) | (simp [hg21]; done) | (exfalso; revert hg21; simp; done) | (exfalso; revert hg21; simp; intros; assumption)) (Le.rfl')
    · rw [if_false hb] at h
      refine awp_exit ?_
      refine hN8 _ ?_
      refine awp_sr kpNone [] [] [2] (cs := []) (st' := ⟨51, [(2, AV.int 0)], [], [], []⟩) (by kernel_rfl) trivial ?_
      have h := Option.some.inj h
      subst h
      exact awp_ret ⟨[AV.int 0], by kernel_rfl, Lw.refl _⟩
-- {"kind": "tot", "S": "checkSel", "thm": "d105"}
theorem d105 (a0 : List Term) : Det Tryz.prog 105 [AV.lst 3 Term.av a0] (.ret (AV.int (checkSel a0))) := by
  refine Det.len 0 rfl fun hl => c105 a0 _ (rounds_list a0 hl (fun t => some (chkAll termChk t)) _ ?_ ?_) _ ?_
  · intro rec
    simp [F105.l11, chkAll]
  · intro rec p x t h0 h1 hx hd hr hw
    simp only [F105.l11, hx, hw, hr, h1, decide_true, if_true, Option.bind_some, chkAll_cons, termChk, Bool.or_eq_true, decide_eq_true_eq]
    clear hr hx hd hw
    by_cases q1 : x.Op < 1 ∨ 4 < x.Op
    · simp [q1]
    · simp only [q1, if_false]
      rcases Bool.eq_false_or_eq_true (isName x.Key) with n0 | n0
      rotate_left
      · simp [n0]
      · by_cases q2 : x.Op ≤ 2
        · have q3 : ¬ 3 ≤ x.Op := by omega
          rcases Bool.eq_false_or_eq_true (isName x.Val) with n1 | n1 <;> simp [n0, n1, q2, q3]
        · have q3 : 3 ≤ x.Op := by omega
          by_cases q4 : x.Val = [] <;> simp [n0, q2, q3, q4]
  · simp only [F105, checkSel, decide_eq_true_eq]
    by_cases q : 8 < a0.length
    · rw [if_pos (by omega), if_pos q]
    · rw [if_neg (by omega), if_neg q]; simp


-- ballastref5.CheckTols
def F106.l11 (a0 : (List Tol)) (rec11 : (Int) → Option Int) : (Int) → Option Int := fun p11 =>
  if decide (p11 < (List.length a0 : Int)) = true then ((getI a0 p11).bind fun x17_2 => if (bif (decide (¬ x17_2.Key = [])) then ((!(isName x17_2.Key)) || (bif x17_2.Any then ((decide (¬ x17_2.Val = [])) || ((!x17_2.Any) && (!(isName x17_2.Val)))) else ((!x17_2.Any) && (!(isName x17_2.Val))))) else (bif x17_2.Any then ((decide (¬ x17_2.Val = [])) || ((!x17_2.Any) && (!(isName x17_2.Val)))) else ((!x17_2.Any) && (!(isName x17_2.Val))))) = true then (some 3) else (rec11 (w64 (p11 + (1 : Int))))) else (some 0)
def F106 (l11 : (Int) → Option Int) (a0 : (List Tol)) : Option Int :=
  if decide ((8 : Int) < (List.length a0 : Int)) = true then (some 4) else (l11 0)
/-- ballast/ballastref5.CheckTols -/
theorem c106 (a0 : (List Tol)) (l11 : (Int) → Option Int) (hl11 : Rounds (F106.l11 a0) (l11)) (r : Int) (h : F106 l11 a0 = some r) :
    Det Tryz.prog 106 [AV.lst 3 Tol.av a0] (.ret (AV.int r)) := by
  refine Det.of_le ?_
  refine @calls_of_body Tryz.prog 106 Tryz.f106 _ Tryz.func106 rfl (by kernel_rfl) [.tmp 2] (by rw [Tryz.results106]) 47 Tryz.ntmps106 _ _ _ (by simp only [List.length_cons, List.length_nil]; decide) ?_
  unfold F106 at h
  refine awp_sr kpNone [] [] [0] (cs := []) (st' := ⟨47, [(0, AV.lst 3 Tol.av a0)], [], [], []⟩) (by kernel_rfl) trivial ?_
  refine awp_seq fun N3 hN3 => ?_
  refine awp_sr kpNone [(1, AV.int (List.length a0 : Int))] [] [0, 7] (cs := [((AV.int (List.length a0 : Int) = .val (.int .i64 (List.length (List.map Tol.av a0) : Int))))]) (st' := ⟨47, [(0, AV.lst 3 Tol.av a0), (7, AV.bool (decide ((8 : Int) < (List.length a0 : Int))))], [], [], []⟩) (by kernel_rfl) ⟨len_map _ _, trivial⟩ ?_
  refine awp_cond (t := decide ((8 : Int) < (List.length a0 : Int))) rfl (fun hb => ?_) (fun hb => ?_)
  · rw [if_pos hb] at h
    refine awp_sr kpNone [] [] [2] (cs := []) (st' := ⟨47, [(2, AV.int 4)], [], [], []⟩) (by kernel_rfl) trivial ?_
    have h := Option.some.inj h
    subst h
    exact awp_ret ⟨[AV.int 4], by kernel_rfl, Lw.refl _⟩
  · rw [if_false hb] at h
    refine awp_skip ?_
    refine hN3 _ ?_
    refine awp_seq fun N8 hN8 => ?_
    refine awp_sr kpNone [] [] [0, 3] (cs := []) (st' := ⟨47, [(0, AV.lst 3 Tol.av a0), (3, AV.int 0)], [], [], []⟩) (by kernel_rfl) trivial ?_
    refine awp_block ?_
    refine awp_loop ?_
    refine awpL_le (st' := ⟨47, [(0, AV.lst 3 Tol.av a0), (3, AV.int 0)], [], [], []⟩) ?_ ?_
    · exact Le.rfl'
    refine awpL_fix hl11 r (fun p11 => ⟨47, [(0, AV.lst 3 Tol.av a0), (3, AV.int p11)], [], [], []⟩) (fun rec11 hrec11 p11 h => ?_) 0 h
    unfold F106.l11 at h
    refine awpL_round ?_
    refine awp_seq fun N12 hN12 => ?_
    refine awp_sr kpNone [(2, AV.int (List.length a0 : Int))] [] [0, 3, 11] (cs := [((AV.int (List.length a0 : Int) = .val (.int .i64 (List.length (List.map Tol.av a0) : Int))))]) (st' := ⟨47, [(0, AV.lst 3 Tol.av a0), (3, AV.int p11), (11, AV.bool (decide (p11 < (List.length a0 : Int))))], [], [], []⟩) (by kernel_rfl) ⟨len_map _ _, trivial⟩ ?_
    refine awp_cond (t := decide (p11 < (List.length a0 : Int))) rfl (fun hb => ?_) (fun hb => ?_)
    · rw [if_pos hb] at h
      refine awp_skip ?_
      refine hN12 _ ?_
      refine awp_seq fun N15 hN15 => ?_
      refine awp_block ?_
      obtain ⟨x17_2, hx17_2, h⟩ := Option.bind_eq_some_iff.1 h
      refine awp_sr kpNone [(2, Tol.av x17_2)] [] [0, 3, 4] (cs := [(0 ≤ p11), ((List.map Tol.av a0)[Int.toNat p11]? = some (Tol.av x17_2))]) (st' := ⟨47, [(0, AV.lst 3 Tol.av a0), (3, AV.int p11), (4, .varp 4 0)], [(4, (false, x17_2.cs))], [], []⟩) (by kernel_rfl) ⟨getI_le hx17_2, getI_map hx17_2 _, trivial⟩ ?_
      refine awp_seq fun N18 hN18 => ?_
      refine awp_to (σ := Bool) (fun p => ⟨47, [(0, AV.lst 3 Tol.av a0), (3, AV.int p11), (46, AV.bool p)], [(4, (false, x17_2.cs))], [], []⟩) (fun p => p = (bif (decide (¬ x17_2.Key = [])) then ((!(isName x17_2.Key)) || (bif x17_2.Any then ((decide (¬ x17_2.Val = [])) || ((!x17_2.Any) && (!(isName x17_2.Val)))) else ((!x17_2.Any) && (!(isName x17_2.Val))))) else (bif x17_2.Any then ((decide (¬ x17_2.Val = [])) || ((!x17_2.Any) && (!(isName x17_2.Val)))) else ((!x17_2.Any) && (!(isName x17_2.Val)))))) (fun p hp => ?_) (fun N30 hJ30 => ?_)
      · subst hp
        refine hN18 _ ?_
        refine awp_cond (t := (bif (decide (¬ x17_2.Key = [])) then ((!(isName x17_2.Key)) || (bif x17_2.Any then ((decide (¬ x17_2.Val = [])) || ((!x17_2.Any) && (!(isName x17_2.Val)))) else ((!x17_2.Any) && (!(isName x17_2.Val))))) else (bif x17_2.Any then ((decide (¬ x17_2.Val = [])) || ((!x17_2.Any) && (!(isName x17_2.Val)))) else ((!x17_2.Any) && (!(isName x17_2.Val)))))) rfl (fun hb => ?_) (fun hb => ?_)
        · rw [if_pos hb] at h
          refine awp_sr kpNone [] [] [2] (cs := []) (st' := ⟨47, [(2, AV.int 3)], [(4, (false, x17_2.cs))], [], []⟩) (by kernel_rfl) trivial ?_
          have h := Option.some.inj h
          subst h
          exact awp_ret ⟨[AV.int 3], by kernel_rfl, Lw.refl _⟩
        · rw [if_false hb] at h
          refine awp_skip ?_
          refine hN15 _ ?_
          refine awp_reg kpNone [] [] [0, 3] (cs := []) (st' := ⟨47, [(0, AV.lst 3 Tol.av a0), (3, AV.int (w64 (p11 + (1 : Int))))], [(4, (false, x17_2.cs))], [], []⟩) (by kernel_rfl) trivial ?_
          refine awpL_le ?_ (hrec11 _ h)
          exact Le.mk rfl ⟨.inl rfl, rfl, trivial⟩ trivial trivial trivial
      · by_cases hg20 : decide (¬ x17_2.Key = []) = true
        · by_cases hg21 : (!(isName x17_2.Key)) = true
          · refine awp_reg kpNone [(6, AV.bool (isName x17_2.Key))] [(3, true), (9, true)] [0, 3, 46] (cs := [(decide (¬ x17_2.Key = []) = true), (Det Tryz.prog 102 [AV.str x17_2.Key] (.ret (AV.bool (isName x17_2.Key)))), ((!(isName x17_2.Key)) = true)]) (st' := ⟨47, [(0, AV.lst 3 Tol.av a0), (3, AV.int p11), (46, AV.bool true)], [(4, (false, x17_2.cs))], [], []⟩) (by kernel_rfl) ⟨hg20, d102 x17_2.Key, hg21, trivial⟩ ?_
            exact hJ30 true _ (by first | rfl | (rw [hg20, hg21]; done) | (rw [hg20, hg21]; rfl) | (simp [hg20, hg21]; done) | (exfalso; revert hg20 hg21; simp; done) | (exfalso; revert hg20 hg21; simp; intros; assumption)) (Le.rfl')
          · have hg21 := Bool.eq_false_iff.2 hg21
            by_cases hg22 : x17_2.Any = true
            · by_cases hg23 : decide (¬ x17_2.Val = []) = true
              · refine awp_reg kpNone [(6, AV.bool (isName x17_2.Key))] [(3, true), (9, false), (12, true), (18, true)] [0, 3, 46] (cs := [(decide (¬ x17_2.Key = []) = true), (Det Tryz.prog 102 [AV.str x17_2.Key] (.ret (AV.bool (isName x17_2.Key)))), ((!(isName x17_2.Key)) = false), (x17_2.Any = true), (decide (¬ x17_2.Val = []) = true)]) (st' := ⟨47, [(0, AV.lst 3 Tol.av a0), (3, AV.int p11), (46, AV.bool true)], [(4, (false, x17_2.cs))], [], []⟩) (by kernel_rfl) ⟨hg20, d102 x17_2.Key, hg21, hg22, hg23, trivial⟩ ?_
                exact hJ30 true _ (by first | rfl | (rw [hg20, hg21, hg22, hg23]; done) | (rw [hg20, hg21, hg22, hg23]; rfl) | (simp [hg20, hg21, hg22, hg23]; done) | (exfalso; revert hg20 hg21 hg22 hg23; simp; done) | (exfalso; revert hg20 hg21 hg22 hg23; simp; intros; assumption)) (Le.rfl')
              · have hg23 := Bool.eq_false_iff.2 hg23
                by_cases hg24 : (!x17_2.Any) = true
                · refine awp_reg kpNone [(6, AV.bool (isName x17_2.Key)), (25, AV.bool (isName x17_2.Val))] [(3, true), (9, false), (12, true), (18, false), (22, true)] [0, 3, 46] (cs := [(decide (¬ x17_2.Key = []) = true), (Det Tryz.prog 102 [AV.str x17_2.Key] (.ret (AV.bool (isName x17_2.Key)))), ((!(isName x17_2.Key)) = false), (x17_2.Any = true), (decide (¬ x17_2.Val = []) = false), ((!x17_2.Any) = true), (Det Tryz.prog 102 [AV.str x17_2.Val] (.ret (AV.bool (isName x17_2.Val))))]) (st' := ⟨47, [(0, AV.lst 3 Tol.av a0), (3, AV.int p11), (46, AV.bool (!(isName x17_2.Val)))], [(4, (false, x17_2.cs))], [], []⟩) (by kernel_rfl) ⟨hg20, d102 x17_2.Key, hg21, hg22, hg23, hg24, d102 x17_2.Val, trivial⟩ ?_
                  exact hJ30 (!(isName x17_2.Val)) _ (by first | rfl | (rw [hg20, hg21, hg22, hg23, hg24]; done) | (rw [hg20, hg21, hg22, hg23, hg24]; rfl) | (simp [hg20, hg21, hg22, hg23, hg24]; done) | (exfalso; revert hg20 hg21 hg22 hg23 hg24; simp; done) | (exfalso; revert hg20 hg21 hg22 hg23 hg24; simp; intros; assumption)) (Le.rfl')
                · have hg24 := Bool.eq_false_iff.2 hg24
                  refine awp_reg kpNone [(6, AV.bool (isName x17_2.Key))] [(3, true), (9, false), (12, true), (18, false), (22, false)] [0, 3, 46] (cs := [(decide (¬ x17_2.Key = []) = true), (Det Tryz.prog 102 [AV.str x17_2.Key] (.ret (AV.bool (isName x17_2.Key)))), ((!(isName x17_2.Key)) = false), (x17_2.Any = true), (decide (¬ x17_2.Val = []) = false), ((!x17_2.Any) = false)]) (st' := ⟨47, [(0, AV.lst 3 Tol.av a0), (3, AV.int p11), (46, AV.bool false)], [(4, (false, x17_2.cs))], [], []⟩) (by kernel_rfl) ⟨hg20, d102 x17_2.Key, hg21, hg22, hg23, hg24, trivial⟩ ?_
                  exact hJ30 false _ (by first | rfl | (rw [hg20, hg21, hg22, hg23, hg24]; done) | (rw [hg20, hg21, hg22, hg23, hg24]; rfl) | (simp [hg20, hg21, hg22, hg23, hg24]; done) | (exfalso; revert hg20 hg21 hg22 hg23 hg24; simp; done) | (exfalso; revert hg20 hg21 hg22 hg23 hg24; simp; intros; assumption)) (Le.rfl')
            · have hg22 := Bool.eq_false_iff.2 hg22
              by_cases hg25 : (!x17_2.Any) = true
              · refine awp_reg kpNone [(6, AV.bool (isName x17_2.Key)), (25, AV.bool (isName x17_2.Val))] [(3, true), (9, false), (12, false), (22, true)] [0, 3, 46] (cs := [(decide (¬ x17_2.Key = []) = true), (Det Tryz.prog 102 [AV.str x17_2.Key] (.ret (AV.bool (isName x17_2.Key)))), ((!(isName x17_2.Key)) = false), (x17_2.Any = false), ((!x17_2.Any) = true), (Det Tryz.prog 102 [AV.str x17_2.Val] (.ret (AV.bool (isName x17_2.Val))))]) (st' := ⟨47, [(0, AV.lst 3 Tol.av a0), (3, AV.int p11), (46, AV.bool (!(isName x17_2.Val)))], [(4, (false, x17_2.cs))], [], []⟩) (by kernel_rfl) ⟨hg20, d102 x17_2.Key, hg21, hg22, hg25, d102 x17_2.Val, trivial⟩ ?_
                exact hJ30 (!(isName x17_2.Val)) _ (by first | rfl | (rw [hg20, hg21, hg22, hg25]; done) | (rw [hg20, hg21, hg22, hg25]; rfl) | (simp [hg20, hg21, hg22, hg25]; done) | (exfalso; revert hg20 hg21 hg22 hg25; simp; done) | (exfalso; revert hg20 hg21 hg22 hg25; simp; intros; assumption)) (Le.rfl')
              · have hg25 := Bool.eq_false_iff.2 hg25
                refine awp_reg kpNone [(6, AV.bool (isName x17_2.Key))] [(3, true), (9, false), (12, false), (22, false)] [0, 3, 46] (cs := [(decide (¬ x17_2.Key = []) = true), (Det Tryz.prog 102 [AV.str x17_2.Key] (.ret (AV.bool (isName x17_2.Key)))), ((!(isName x17_2.Key)) = false), (x17_2.Any = false), ((!x17_2.Any) = false)]) (st' := ⟨47, [(0, AV.lst 3 Tol.av a0), (3, AV.int p11), (46, AV.bool false)], [(4, (false, x17_2.cs))], [], []⟩) (by kernel_rfl) ⟨hg20, d102 x17_2.Key, hg21, hg22, hg25, trivial⟩ ?_
                exact hJ30 false _ (by first | rfl | (rw [hg20, hg21, hg22, hg25]; done) | (rw [hg20, hg21, hg22, hg25]; rfl) | (simp [hg20, hg21, hg22, hg25]; done) | (exfalso; revert hg20 hg21 hg22 hg25; simp; done) | (exfalso; revert hg20 hg21 hg22 hg25; simp; intros; assumption)) (Le.rfl')
        · have hg20 := Bool.eq_false_iff.2 hg20
          by_cases hg26 : x17_2.Any = true
          · by_cases hg27 : decide (¬ x17_2.Val = []) = true
            · refine awp_reg kpNone [] [(3, false), (12, true), (18, true)] [0, 3, 46] (cs := [(decide (¬ x17_2.Key = []) = false), (x17_2.Any = true), (decide (¬ x17_2.Val = []) = true)]) (st' := ⟨47, [(0, AV.lst 3 Tol.av a0), (3, AV.int p11), (46, AV.bool true)], [(4, (false, x17_2.cs))], [], []⟩) (by kernel_rfl) ⟨hg20, hg26, hg27, trivial⟩ ?_
              exact hJ30 true _ (by first | rfl | (rw [hg20, hg26, hg27]; done) | (rw [hg20, hg26, hg27]; rfl) | (simp [hg20, hg26, hg27]; done) | (exfalso; revert hg20 hg26 hg27; simp; done) | (exfalso; revert hg20 hg26 hg27; simp; intros; assumption)) (Le.rfl')
            · have hg27 := Bool.eq_false_iff.2 hg27
              by_cases hg28 : (!x17_2.Any) = true
              · refine awp_reg kpNone [(25, AV.bool (isName x17_2.Val))] [(3, false), (12, true), (18, false), (22, true)] [0, 3, 46] (cs := [(decide (¬ x17_2.Key = []) = false), (x17_2.Any = true), (decide (¬ x17_2.Val = []) = false), ((!x17_2.Any) = true), (Det Tryz.prog 102 [AV.str x17_2.Val] (.ret (AV.bool (isName x17_2.Val))))]) (st' := ⟨47, [(0, AV.lst 3 Tol.av a0), (3, AV.int p11), (46, AV.bool (!(isName x17_2.Val)))], [(4, (false, x17_2.cs))], [], []⟩) (by kernel_rfl) ⟨hg20, hg26, hg27, hg28, d102 x17_2.Val, trivial⟩ ?_
                exact hJ30 (!(isName x17_2.Val)) _ (by first | rfl | (rw [hg20, hg26, hg27, hg28]; done) | (rw [hg20, hg26, hg27, hg28]; rfl) | (simp [hg20, hg26, hg27, hg28]; done) | (exfalso; revert hg20 hg26 hg27 hg28; simp; done) | (exfalso; revert hg20 hg26 hg27 hg28; simp; intros; assumption)) (Le.rfl')
              · have hg28 := Bool.eq_false_iff.2 hg28
                refine awp_reg kpNone [] [(3, false), (12, true), (18, false), (22, false)] [0, 3, 46] (cs := [(decide (¬ x17_2.Key = []) = false), (x17_2.Any = true), (decide (¬ x17_2.Val = []) = false), ((!x17_2.Any) = false)]) (st' := ⟨47, [(0, AV.lst 3 Tol.av a0), (3, AV.int p11), (46, AV.bool false)], [(4, (false, x17_2.cs))], [], []⟩) (by kernel_rfl) ⟨hg20, hg26, hg27, hg28, trivial⟩ ?_
                exact hJ30 false _ (by first | rfl | (rw [hg20, hg26, hg27, hg28]; done) | (rw [hg20, hg26, hg27, hg28]; rfl) | (simp [hg20, hg26, hg27, hg28]; done) | (exfalso; revert hg20 hg26 hg27 hg28; simp; done) | (exfalso; revert hg20 hg26 hg27 hg28; simp; intros; assumption)) (Le.rfl')
          · have hg26 := Bool.eq_false_iff.2 hg26
            by_cases hg29 : (!x17_2.Any) = true
            · refine awp_reg kpNone [(25, AV.bool (isName x17_2.Val))] [(3, false), (12, false), (22, true)] [0, 3, 46] (cs := [(decide (¬ x17_2.Key = []) = false), (x17_2.Any = false), ((!x17_2.Any) = true), (Det Tryz.prog 102 [AV.str x17_2.Val] (.ret (AV.bool (isName x17_2.Val))))]) (st' := ⟨47, [(0, AV.lst 3 Tol.av a0), (3, AV.int p11), (46, AV.bool (!(isName x17_2.Val)))], [(4, (false, x17_2.cs))], [], []⟩) (by kernel_rfl) ⟨hg20, hg26, hg29, d102 x17_2.Val, trivial⟩ ?_
              exact hJ30 (!(isName x17_2.Val)) _ (by first | rfl | (rw [hg20, hg26, hg29]; done) | (rw [hg20, hg26, hg29]; rfl) | (simp [hg20, hg26, hg29]; done) | (exfalso; revert hg20 hg26 hg29; simp; done) | (exfalso; revert hg20 hg26 hg29; simp; intros; assumption)) (Le.rfl')
            · have hg29 := Bool.eq_false_iff.2 hg29
              refine awp_reg kpNone [] [(3, false), (12, false), (22, false)] [0, 3, 46] (cs := [(decide (¬ x17_2.Key = []) = false), (x17_2.Any = false), ((!x17_2.Any) = false)]) (st' := ⟨47, [(0, AV.lst 3 Tol.av a0), (3, AV.int p11), (46, AV.bool false)], [(4, (false, x17_2.cs))], [], []⟩) (by kernel_rfl) ⟨hg20, hg26, hg29, trivial⟩ ?_
              exact hJ30 false _ (by first | rfl | (rw [hg20, hg26, hg29]; done) | (rw [hg20, hg26, hg29]; rfl) | (simp [hg20, hg26, hg29]; done) | (exfalso; revert hg20 hg26 hg29; simp; done) | (exfalso; revert hg20 hg26 hg29; simp; intros; assumption)) (Le.rfl')
    · rw [if_false hb] at h
      refine awp_exit ?_
      refine hN8 _ ?_
      refine awp_sr kpNone [] [] [2] (cs := []) (st' := ⟨47, [(2, AV.int 0)], [], [], []⟩) (by kernel_rfl) trivial ?_
      have h := Option.some.inj h
      subst h
      exact awp_ret ⟨[AV.int 0], by kernel_rfl, Lw.refl _⟩
-- {"kind": "tot", "S": "checkTols", "thm": "d106"}
theorem d106 (a0 : List Tol) : Det Tryz.prog 106 [AV.lst 3 Tol.av a0] (.ret (AV.int (checkTols a0))) := by
  refine Det.len 0 rfl fun hl => c106 a0 _ (rounds_list a0 hl (fun t => some (chkAll tolChk t)) _ ?_ ?_) _ ?_
  · intro rec
    simp [F106.l11, chkAll]
  · intro rec p x t h0 h1 hx hd hr hw
    simp only [F106.l11, hx, hw, hr, h1, decide_true, if_true, Option.bind_some, chkAll_cons, tolChk, decide_eq_true_eq]
    clear hr hx hd hw
    rcases Bool.eq_false_or_eq_true (isName x.Key) with n1 | n1 <;> rcases Bool.eq_false_or_eq_true (isName x.Val) with n2 | n2 <;> rcases Bool.eq_false_or_eq_true x.Any with n3 | n3 <;> by_cases q1 : x.Key = [] <;> by_cases q2 : x.Val = [] <;> simp_all
  · simp only [F106, checkTols, decide_eq_true_eq]
    by_cases q : 8 < a0.length
    · rw [if_pos (by omega), if_pos q]
    · rw [if_neg (by omega), if_neg q]; simp


-- ballastref10.CheckPod
def F31 (a0 : Pod) : Option Int :=
  if ((!(isName a0.Name)) || ((decide (¬ a0.Owner = [])) && (!(isName a0.Owner)))) = true then (some 3) else (if ((decide (a0.Prio < ((-1) : Int))) || ((decide ((1000000 : Int) < a0.Prio)) || (!(a0.Hold == (decide (a0.Prio = ((-1) : Int))))))) = true then (some 1) else (if decide (¬ (checkVec a0.Need) = (0 : Int)) = true then (some (checkVec a0.Need)) else (if decide (¬ (checkSet a0.Labels) = (0 : Int)) = true then (some (checkSet a0.Labels)) else (if decide (¬ (checkSel a0.Sel) = (0 : Int)) = true then (some (checkSel a0.Sel)) else (if decide (¬ (checkTols a0.Tols) = (0 : Int)) = true then (some (checkTols a0.Tols)) else (if ((decide (¬ a0.Key = [])) && (!(isName a0.Key))) = true then (some 3) else (if (bif (decide (¬ a0.Key = [])) then ((decide (a0.Most < (1 : Int))) || ((decide ((128 : Int) < a0.Most)) || ((decide (a0.Key = [])) && (decide (¬ a0.Most = (0 : Int)))))) else ((decide (a0.Key = [])) && (decide (¬ a0.Most = (0 : Int))))) = true then (some 1) else (if ((decide (¬ a0.Node = [])) && (!(isName a0.Node))) = true then (some 3) else (some 0)))))))))
/-- ballast/ballastref10.CheckPod -/
theorem c31 (a0 : Pod) (r : Int) (h : F31 a0 = some r) :
    Det Tryz.prog 31 [Pod.av a0] (.ret (AV.int r)) := by
  refine Det.of_le ?_
  refine @calls_of_body Tryz.prog 31 Tryz.f31 _ Tryz.func31 rfl (by kernel_rfl) [.tmp 2] (by rw [Tryz.results31]) 100 Tryz.ntmps31 _ _ _ (by simp only [List.length_cons, List.length_nil]; decide) ?_
  unfold F31 at h
  refine awp_sr kpNone [] [] [1] (cs := []) (st' := ⟨100, [(1, .varp 1 0)], [(1, (false, a0.cs))], [], []⟩) (by kernel_rfl) trivial ?_
  refine awp_seq fun N3 hN3 => ?_
  refine awp_seq fun N4 hN4 => ?_
  refine awp_to (σ := Bool) (fun p => ⟨100, [(1, .varp 1 0), (18, AV.bool p)], [(1, (false, a0.cs))], [], []⟩) (fun p => p = ((!(isName a0.Name)) || ((decide (¬ a0.Owner = [])) && (!(isName a0.Owner))))) (fun p hp => ?_) (fun N8 hJ8 => ?_)
  · subst hp
    refine hN4 _ ?_
    refine awp_cond (t := ((!(isName a0.Name)) || ((decide (¬ a0.Owner = [])) && (!(isName a0.Owner))))) rfl (fun hb => ?_) (fun hb => ?_)
    · rw [if_pos hb] at h
      refine awp_sr kpNone [] [] [2] (cs := []) (st' := ⟨100, [(2, AV.int 3)], [(1, (false, a0.cs))], [], []⟩) (by kernel_rfl) trivial ?_
      have h := Option.some.inj h
      subst h
      exact awp_ret ⟨[AV.int 3], by kernel_rfl, Lw.refl _⟩
    · rw [if_false hb] at h
      refine awp_skip ?_
      refine hN3 _ ?_
      refine awp_seq fun N11 hN11 => ?_
      refine awp_seq fun N12 hN12 => ?_
      refine awp_to (σ := Bool) (fun p => ⟨100, [(1, .varp 1 0), (34, AV.bool p)], [(1, (false, a0.cs))], [], []⟩) (fun p => p = ((decide (a0.Prio < ((-1) : Int))) || ((decide ((1000000 : Int) < a0.Prio)) || (!(a0.Hold == (decide (a0.Prio = ((-1) : Int)))))))) (fun p hp => ?_) (fun N16 hJ16 => ?_)
      · subst hp
        refine hN12 _ ?_
        refine awp_cond (t := ((decide (a0.Prio < ((-1) : Int))) || ((decide ((1000000 : Int) < a0.Prio)) || (!(a0.Hold == (decide (a0.Prio = ((-1) : Int)))))))) rfl (fun hb => ?_) (fun hb => ?_)
        · rw [if_pos hb] at h
          refine awp_sr kpNone [] [] [2] (cs := []) (st' := ⟨100, [(2, AV.int 1)], [(1, (false, a0.cs))], [], []⟩) (by kernel_rfl) trivial ?_
          have h := Option.some.inj h
          subst h
          exact awp_ret ⟨[AV.int 1], by kernel_rfl, Lw.refl _⟩
        · rw [if_false hb] at h
          refine awp_skip ?_
          refine hN11 _ ?_
          refine awp_sr kpNone [(2, AV.int (checkVec a0.Need))] [] [1, 3] (cs := [(Det Tryz.prog 103 [AV.lst 2 Amount.av a0.Need] (.ret (AV.int (checkVec a0.Need))))]) (st' := ⟨100, [(1, .varp 1 0), (3, AV.int (checkVec a0.Need))], [(1, (false, a0.cs))], [], []⟩) (by kernel_rfl) ⟨d103 a0.Need, trivial⟩ ?_
          refine awp_seq fun N21 hN21 => ?_
          refine awp_sr kpNone [] [] [1, 3, 39] (cs := []) (st' := ⟨100, [(1, .varp 1 0), (3, AV.int (checkVec a0.Need)), (39, AV.bool (decide (¬ (checkVec a0.Need) = (0 : Int))))], [(1, (false, a0.cs))], [], []⟩) (by kernel_rfl) trivial ?_
          refine awp_cond (t := decide (¬ (checkVec a0.Need) = (0 : Int))) rfl (fun hb => ?_) (fun hb => ?_)
          · rw [if_pos hb] at h
            refine awp_sr kpNone [] [] [2] (cs := []) (st' := ⟨100, [(2, AV.int (checkVec a0.Need))], [(1, (false, a0.cs))], [], []⟩) (by kernel_rfl) trivial ?_
            have h := Option.some.inj h
            subst h
            exact awp_ret ⟨[AV.int (checkVec a0.Need)], by kernel_rfl, Lw.refl _⟩
          · rw [if_false hb] at h
            refine awp_skip ?_
            refine hN21 _ ?_
            refine awp_sr kpNone [(2, AV.int (checkSet a0.Labels))] [] [1, 3] (cs := [(Det Tryz.prog 104 [AV.lst 2 Pair.av a0.Labels] (.ret (AV.int (checkSet a0.Labels))))]) (st' := ⟨100, [(1, .varp 1 0), (3, AV.int (checkSet a0.Labels))], [(1, (false, a0.cs))], [], []⟩) (by kernel_rfl) ⟨d104 a0.Labels, trivial⟩ ?_
            refine awp_seq fun N28 hN28 => ?_
            refine awp_sr kpNone [] [] [1, 3, 45] (cs := []) (st' := ⟨100, [(1, .varp 1 0), (3, AV.int (checkSet a0.Labels)), (45, AV.bool (decide (¬ (checkSet a0.Labels) = (0 : Int))))], [(1, (false, a0.cs))], [], []⟩) (by kernel_rfl) trivial ?_
            refine awp_cond (t := decide (¬ (checkSet a0.Labels) = (0 : Int))) rfl (fun hb => ?_) (fun hb => ?_)
            · rw [if_pos hb] at h
              refine awp_sr kpNone [] [] [2] (cs := []) (st' := ⟨100, [(2, AV.int (checkSet a0.Labels))], [(1, (false, a0.cs))], [], []⟩) (by kernel_rfl) trivial ?_
              have h := Option.some.inj h
              subst h
              exact awp_ret ⟨[AV.int (checkSet a0.Labels)], by kernel_rfl, Lw.refl _⟩
            · rw [if_false hb] at h
              refine awp_skip ?_
              refine hN28 _ ?_
              refine awp_sr kpNone [(2, AV.int (checkSel a0.Sel))] [] [1, 3] (cs := [(Det Tryz.prog 105 [AV.lst 3 Term.av a0.Sel] (.ret (AV.int (checkSel a0.Sel))))]) (st' := ⟨100, [(1, .varp 1 0), (3, AV.int (checkSel a0.Sel))], [(1, (false, a0.cs))], [], []⟩) (by kernel_rfl) ⟨d105 a0.Sel, trivial⟩ ?_
              refine awp_seq fun N35 hN35 => ?_
              refine awp_sr kpNone [] [] [1, 3, 51] (cs := []) (st' := ⟨100, [(1, .varp 1 0), (3, AV.int (checkSel a0.Sel)), (51, AV.bool (decide (¬ (checkSel a0.Sel) = (0 : Int))))], [(1, (false, a0.cs))], [], []⟩) (by kernel_rfl) trivial ?_
              refine awp_cond (t := decide (¬ (checkSel a0.Sel) = (0 : Int))) rfl (fun hb => ?_) (fun hb => ?_)
              · rw [if_pos hb] at h
                refine awp_sr kpNone [] [] [2] (cs := []) (st' := ⟨100, [(2, AV.int (checkSel a0.Sel))], [(1, (false, a0.cs))], [], []⟩) (by kernel_rfl) trivial ?_
                have h := Option.some.inj h
                subst h
                exact awp_ret ⟨[AV.int (checkSel a0.Sel)], by kernel_rfl, Lw.refl _⟩
              · rw [if_false hb] at h
                refine awp_skip ?_
                refine hN35 _ ?_
                refine awp_sr kpNone [(2, AV.int (checkTols a0.Tols))] [] [1, 3] (cs := [(Det Tryz.prog 106 [AV.lst 3 Tol.av a0.Tols] (.ret (AV.int (checkTols a0.Tols))))]) (st' := ⟨100, [(1, .varp 1 0), (3, AV.int (checkTols a0.Tols))], [(1, (false, a0.cs))], [], []⟩) (by kernel_rfl) ⟨d106 a0.Tols, trivial⟩ ?_
                refine awp_seq fun N42 hN42 => ?_
                refine awp_sr kpNone [] [] [1, 3, 57] (cs := []) (st' := ⟨100, [(1, .varp 1 0), (3, AV.int (checkTols a0.Tols)), (57, AV.bool (decide (¬ (checkTols a0.Tols) = (0 : Int))))], [(1, (false, a0.cs))], [], []⟩) (by kernel_rfl) trivial ?_
                refine awp_cond (t := decide (¬ (checkTols a0.Tols) = (0 : Int))) rfl (fun hb => ?_) (fun hb => ?_)
                · rw [if_pos hb] at h
                  refine awp_sr kpNone [] [] [2] (cs := []) (st' := ⟨100, [(2, AV.int (checkTols a0.Tols))], [(1, (false, a0.cs))], [], []⟩) (by kernel_rfl) trivial ?_
                  have h := Option.some.inj h
                  subst h
                  exact awp_ret ⟨[AV.int (checkTols a0.Tols)], by kernel_rfl, Lw.refl _⟩
                · rw [if_false hb] at h
                  refine awp_skip ?_
                  refine hN42 _ ?_
                  refine awp_seq fun N47 hN47 => ?_
                  refine awp_seq fun N48 hN48 => ?_
                  refine awp_to (σ := Bool) (fun p => ⟨100, [(1, .varp 1 0), (67, AV.bool p)], [(1, (false, a0.cs))], [], []⟩) (fun p => p = ((decide (¬ a0.Key = [])) && (!(isName a0.Key)))) (fun p hp => ?_) (fun N51 hJ51 => ?_)
                  · subst hp
                    refine hN48 _ ?_
                    refine awp_cond (t := ((decide (¬ a0.Key = [])) && (!(isName a0.Key)))) rfl (fun hb => ?_) (fun hb => ?_)
                    · rw [if_pos hb] at h
                      refine awp_sr kpNone [] [] [2] (cs := []) (st' := ⟨100, [(2, AV.int 3)], [(1, (false, a0.cs))], [], []⟩) (by kernel_rfl) trivial ?_
                      have h := Option.some.inj h
                      subst h
                      exact awp_ret ⟨[AV.int 3], by kernel_rfl, Lw.refl _⟩
                    · rw [if_false hb] at h
                      refine awp_skip ?_
                      refine hN47 _ ?_
                      refine awp_seq fun N54 hN54 => ?_
                      refine awp_seq fun N55 hN55 => ?_
                      refine awp_to (σ := Bool) (fun p => ⟨100, [(1, .varp 1 0), (90, AV.bool p)], [(1, (false, a0.cs))], [], []⟩) (fun p => p = (bif (decide (¬ a0.Key = [])) then ((decide (a0.Most < (1 : Int))) || ((decide ((128 : Int) < a0.Most)) || ((decide (a0.Key = [])) && (decide (¬ a0.Most = (0 : Int)))))) else ((decide (a0.Key = [])) && (decide (¬ a0.Most = (0 : Int)))))) (fun p hp => ?_) (fun N62 hJ62 => ?_)
                      · subst hp
                        refine hN55 _ ?_
                        refine awp_cond (t := (bif (decide (¬ a0.Key = [])) then ((decide (a0.Most < (1 : Int))) || ((decide ((128 : Int) < a0.Most)) || ((decide (a0.Key = [])) && (decide (¬ a0.Most = (0 : Int)))))) else ((decide (a0.Key = [])) && (decide (¬ a0.Most = (0 : Int)))))) rfl (fun hb => ?_) (fun hb => ?_)
                        · rw [if_pos hb] at h
                          refine awp_sr kpNone [] [] [2] (cs := []) (st' := ⟨100, [(2, AV.int 1)], [(1, (false, a0.cs))], [], []⟩) (by kernel_rfl) trivial ?_
                          have h := Option.some.inj h
                          subst h
                          exact awp_ret ⟨[AV.int 1], by kernel_rfl, Lw.refl _⟩
                        · rw [if_false hb] at h
                          refine awp_skip ?_
                          refine hN54 _ ?_
                          refine awp_seq fun N65 hN65 => ?_
                          refine awp_seq fun N66 hN66 => ?_
                          refine awp_to (σ := Bool) (fun p => ⟨100, [(99, AV.bool p)], [(1, (false, a0.cs))], [], []⟩) (fun p => p = ((decide (¬ a0.Node = [])) && (!(isName a0.Node)))) (fun p hp => ?_) (fun N69 hJ69 => ?_)
                          · subst hp
                            refine hN66 _ ?_
                            refine awp_cond (t := ((decide (¬ a0.Node = [])) && (!(isName a0.Node)))) rfl (fun hb => ?_) (fun hb => ?_)
                            · rw [if_pos hb] at h
                              refine awp_sr kpNone [] [] [2] (cs := []) (st' := ⟨100, [(2, AV.int 3)], [(1, (false, a0.cs))], [], []⟩) (by kernel_rfl) trivial ?_
                              have h := Option.some.inj h
                              subst h
                              exact awp_ret ⟨[AV.int 3], by kernel_rfl, Lw.refl _⟩
                            · rw [if_false hb] at h
                              refine awp_skip ?_
                              refine hN65 _ ?_
                              refine awp_sr kpNone [] [] [2] (cs := []) (st' := ⟨100, [(2, AV.int 0)], [(1, (false, a0.cs))], [], []⟩) (by kernel_rfl) trivial ?_
                              have h := Option.some.inj h
                              subst h
                              exact awp_ret ⟨[AV.int 0], by kernel_rfl, Lw.refl _⟩
                          · by_cases hg68 : decide (¬ a0.Node = []) = true
                            · refine awp_reg kpNone [(6, AV.bool (isName a0.Node))] [(3, true)] [99] (cs := [(decide (¬ a0.Node = []) = true), (Det Tryz.prog 102 [AV.str a0.Node] (.ret (AV.bool (isName a0.Node))))]) (st' := ⟨100, [(99, AV.bool (!(isName a0.Node)))], [(1, (false, a0.cs))], [], []⟩) (by kernel_rfl) ⟨hg68, d102 a0.Node, trivial⟩ ?_
                              exact hJ69 (!(isName a0.Node)) _ (by first | rfl | (rw [hg68]; done) | (rw [hg68]; rfl) | (simp [hg68]; done) | (exfalso; revert hg68; simp; done) | (exfalso; revert hg68; simp; intros; assumption)) (Le.rfl')
                            · have hg68 := Bool.eq_false_iff.2 hg68
                              refine awp_reg kpNone [] [(3, false)] [99] (cs := [(decide (¬ a0.Node = []) = false)]) (st' := ⟨100, [(99, AV.bool false)], [(1, (false, a0.cs))], [], []⟩) (by kernel_rfl) ⟨hg68, trivial⟩ ?_
                              exact hJ69 false _ (by first | rfl | (rw [hg68]; done) | (rw [hg68]; rfl) | (simp [hg68]; done) | (exfalso; revert hg68; simp; done) | (exfalso; revert hg68; simp; intros; assumption)) (Le.rfl')
                      · by_cases hg57 : decide (¬ a0.Key = []) = true
                        · by_cases hg58 : decide (a0.Most < (1 : Int)) = true
                          · refine awp_reg kpNone [] [(3, true), (7, true)] [1, 90] (cs := [(decide (¬ a0.Key = []) = true), (decide (a0.Most < (1 : Int)) = true)]) (st' := ⟨100, [(1, .varp 1 0), (90, AV.bool true)], [(1, (false, a0.cs))], [], []⟩) (by kernel_rfl) ⟨hg57, hg58, trivial⟩ ?_
                            exact hJ62 true _ (by first | rfl | (rw [hg57, hg58]; done) | (rw [hg57, hg58]; rfl) | (simp [hg57, hg58]; done) | (exfalso; revert hg57 hg58; simp; done) | (exfalso; revert hg57 hg58; simp; intros; assumption)) (Le.rfl')
                          · have hg58 := Bool.eq_false_iff.2 hg58
                            by_cases hg59 : decide ((128 : Int) < a0.Most) = true
                            · refine awp_reg kpNone [] [(3, true), (7, false), (13, true)] [1, 90] (cs := [(decide (¬ a0.Key = []) = true), (decide (a0.Most < (1 : Int)) = false), (decide ((128 : Int) < a0.Most) = true)]) (st' := ⟨100, [(1, .varp 1 0), (90, AV.bool true)], [(1, (false, a0.cs))], [], []⟩) (by kernel_rfl) ⟨hg57, hg58, hg59, trivial⟩ ?_
                              exact hJ62 true _ (by first | rfl | (rw [hg57, hg58, hg59]; done) | (rw [hg57, hg58, hg59]; rfl) | (simp [hg57, hg58, hg59]; done) | (exfalso; revert hg57 hg58 hg59; simp; done) | (exfalso; revert hg57 hg58 hg59; simp; intros; assumption)) (Le.rfl')
                            · have hg59 := Bool.eq_false_iff.2 hg59
                              by_cases hg60 : decide (a0.Key = []) = true
                              · refine awp_reg kpNone [] [(3, true), (7, false), (13, false), (17, true)] [1, 90] (cs := [(decide (¬ a0.Key = []) = true), (decide (a0.Most < (1 : Int)) = false), (decide ((128 : Int) < a0.Most) = false), (decide (a0.Key = []) = true)]) (st' := ⟨100, [(1, .varp 1 0), (90, AV.bool (decide (¬ a0.Most = (0 : Int))))], [(1, (false, a0.cs))], [], []⟩) (by kernel_rfl) ⟨hg57, hg58, hg59, hg60, trivial⟩ ?_
                                exact hJ62 (decide (¬ a0.Most = (0 : Int))) _ (by first | rfl | (rw [hg57, hg58, hg59, hg60]; done) | (rw [hg57, hg58, hg59, hg60]; rfl) | (simp [hg57, hg58, hg59, hg60]; done) | (exfalso; revert hg57 hg58 hg59 hg60; simp; done) | (exfalso; revert hg57 hg58 hg59 hg60; simp; intros; assumption)) (Le.rfl')
                              · have hg60 := Bool.eq_false_iff.2 hg60
                                refine awp_reg kpNone [] [(3, true), (7, false), (13, false), (17, false)] [1, 90] (cs := [(decide (¬ a0.Key = []) = true), (decide (a0.Most < (1 : Int)) = false), (decide ((128 : Int) < a0.Most) = false), (decide (a0.Key = []) = false)]) (st' := ⟨100, [(1, .varp 1 0), (90, AV.bool false)], [(1, (false, a0.cs))], [], []⟩) (by kernel_rfl) ⟨hg57, hg58, hg59, hg60, trivial⟩ ?_
                                exact hJ62 false _ (by first | rfl | (rw [hg57, hg58, hg59, hg60]; done) | (rw [hg57, hg58, hg59, hg60]; rfl) | (simp [hg57, hg58, hg59, hg60]; done) | (exfalso; revert hg57 hg58 hg59 hg60; simp; done) | (exfalso; revert hg57 hg58 hg59 hg60; simp; intros; assumption)) (Le.rfl')
                        · have hg57 := Bool.eq_false_iff.2 hg57
                          by_cases hg61 : decide (a0.Key = []) = true
                          · refine awp_reg kpNone [] [(3, false), (17, true)] [1, 90] (cs := [(decide (¬ a0.Key = []) = false), (decide (a0.Key = []) = true)]) (st' := ⟨100, [(1, .varp 1 0), (90, AV.bool (decide (¬ a0.Most = (0 : Int))))], [(1, (false, a0.cs))], [], []⟩) (by kernel_rfl) ⟨hg57, hg61, trivial⟩ ?_
                            exact hJ62 (decide (¬ a0.Most = (0 : Int))) _ (by first | rfl | (rw [hg57, hg61]; done) | (rw [hg57, hg61]; rfl) | (simp [hg57, hg61]; done) | (exfalso; revert hg57 hg61; simp; done) | (exfalso; revert hg57 hg61; simp; intros; assumption)) (Le.rfl')
                          · have hg61 := Bool.eq_false_iff.2 hg61
                            refine awp_reg kpNone [] [(3, false), (17, false)] [1, 90] (cs := [(decide (¬ a0.Key = []) = false), (decide (a0.Key = []) = false)]) (st' := ⟨100, [(1, .varp 1 0), (90, AV.bool false)], [(1, (false, a0.cs))], [], []⟩) (by kernel_rfl) ⟨hg57, hg61, trivial⟩ ?_
                            exact hJ62 false _ (by first | rfl | (rw [hg57, hg61]; done) | (rw [hg57, hg61]; rfl) | (simp [hg57, hg61]; done) | (exfalso; revert hg57 hg61; simp; done) | (exfalso; revert hg57 hg61; simp; intros; assumption)) (Le.rfl')
                  · by_cases hg50 : decide (¬ a0.Key = []) = true
                    · refine awp_reg kpNone [(6, AV.bool (isName a0.Key))] [(3, true)] [1, 67] (cs := [(decide (¬ a0.Key = []) = true), (Det Tryz.prog 102 [AV.str a0.Key] (.ret (AV.bool (isName a0.Key))))]) (st' := ⟨100, [(1, .varp 1 0), (67, AV.bool (!(isName a0.Key)))], [(1, (false, a0.cs))], [], []⟩) (by kernel_rfl) ⟨hg50, d102 a0.Key, trivial⟩ ?_
                      exact hJ51 (!(isName a0.Key)) _ (by first | rfl | (rw [hg50]; done) | (rw [hg50]; rfl) | (simp [hg50]; done) | (exfalso; revert hg50; simp; done) | (exfalso; revert hg50; simp; intros; assumption)) (Le.rfl')
                    · have hg50 := Bool.eq_false_iff.2 hg50
                      refine awp_reg kpNone [] [(3, false)] [1, 67] (cs := [(decide (¬ a0.Key = []) = false)]) (st' := ⟨100, [(1, .varp 1 0), (67, AV.bool false)], [(1, (false, a0.cs))], [], []⟩) (by kernel_rfl) ⟨hg50, trivial⟩ ?_
                      exact hJ51 false _ (by first | rfl | (rw [hg50]; done) | (rw [hg50]; rfl) | (simp [hg50]; done) | (exfalso; revert hg50; simp; done) | (exfalso; revert hg50; simp; intros; assumption)) (Le.rfl')
      · by_cases hg14 : decide (a0.Prio < ((-1) : Int)) = true
        · refine awp_reg kpNone [] [(3, true)] [1, 34] (cs := [(decide (a0.Prio < ((-1) : Int)) = true)]) (st' := ⟨100, [(1, .varp 1 0), (34, AV.bool true)], [(1, (false, a0.cs))], [], []⟩) (by kernel_rfl) ⟨hg14, trivial⟩ ?_
          exact hJ16 true _ (by first | rfl | (rw [hg14]; done) | (rw [hg14]; rfl) | (simp [hg14]; done) | (exfalso; revert hg14; simp; done) | (exfalso; revert hg14; simp; intros; assumption)) (Le.rfl')
        · have hg14 := Bool.eq_false_iff.2 hg14
          by_cases hg15 : decide ((1000000 : Int) < a0.Prio) = true
          · refine awp_reg kpNone [] [(3, false), (8, true)] [1, 34] (cs := [(decide (a0.Prio < ((-1) : Int)) = false), (decide ((1000000 : Int) < a0.Prio) = true)]) (st' := ⟨100, [(1, .varp 1 0), (34, AV.bool true)], [(1, (false, a0.cs))], [], []⟩) (by kernel_rfl) ⟨hg14, hg15, trivial⟩ ?_
            exact hJ16 true _ (by first | rfl | (rw [hg14, hg15]; done) | (rw [hg14, hg15]; rfl) | (simp [hg14, hg15]; done) | (exfalso; revert hg14 hg15; simp; done) | (exfalso; revert hg14 hg15; simp; intros; assumption)) (Le.rfl')
          · have hg15 := Bool.eq_false_iff.2 hg15
            refine awp_reg kpNone [] [(3, false), (8, false)] [1, 34] (cs := [(decide (a0.Prio < ((-1) : Int)) = false), (decide ((1000000 : Int) < a0.Prio) = false)]) (st' := ⟨100, [(1, .varp 1 0), (34, AV.bool (!(a0.Hold == (decide (a0.Prio = ((-1) : Int))))))], [(1, (false, a0.cs))], [], []⟩) (by kernel_rfl) ⟨hg14, hg15, trivial⟩ ?_
            exact hJ16 (!(a0.Hold == (decide (a0.Prio = ((-1) : Int))))) _ (by first | rfl | (rw [hg14, hg15]; done) | (rw [hg14, hg15]; rfl) | (simp [hg14, hg15]; done) | (exfalso; revert hg14 hg15; simp; done) | (exfalso; revert hg14 hg15; simp; intros; assumption)) (Le.rfl')
  · by_cases hg6 : (!(isName a0.Name)) = true
    · refine awp_reg kpNone [(2, AV.bool (isName a0.Name))] [(4, true)] [1, 18] (cs := [(Det Tryz.prog 102 [AV.str a0.Name] (.ret (AV.bool (isName a0.Name)))), ((!(isName a0.Name)) = true)]) (st' := ⟨100, [(1, .varp 1 0), (18, AV.bool true)], [(1, (false, a0.cs))], [], []⟩) (by kernel_rfl) ⟨d102 a0.Name, hg6, trivial⟩ ?_
      exact hJ8 true _ (by first | rfl | (rw [hg6]; done) | (rw [hg6]; rfl) | (simp [hg6]; done) | (exfalso; revert hg6; simp; done) | (exfalso; revert hg6; simp; intros; assumption)) (Le.rfl')
    · have hg6 := Bool.eq_false_iff.2 hg6
      by_cases hg7 : decide (¬ a0.Owner = []) = true
      · refine awp_reg kpNone [(2, AV.bool (isName a0.Name)), (11, AV.bool (isName a0.Owner))] [(4, false), (8, true)] [1, 18] (cs := [(Det Tryz.prog 102 [AV.str a0.Name] (.ret (AV.bool (isName a0.Name)))), ((!(isName a0.Name)) = false), (decide (¬ a0.Owner = []) = true), (Det Tryz.prog 102 [AV.str a0.Owner] (.ret (AV.bool (isName a0.Owner))))]) (st' := ⟨100, [(1, .varp 1 0), (18, AV.bool (!(isName a0.Owner)))], [(1, (false, a0.cs))], [], []⟩) (by kernel_rfl) ⟨d102 a0.Name, hg6, hg7, d102 a0.Owner, trivial⟩ ?_
        exact hJ8 (!(isName a0.Owner)) _ (by first | rfl | (rw [hg6, hg7]; done) | (rw [hg6, hg7]; rfl) | (simp [hg6, hg7]; done) | (exfalso; revert hg6 hg7; simp; done) | (exfalso; revert hg6 hg7; simp; intros; assumption)) (Le.rfl')
      · have hg7 := Bool.eq_false_iff.2 hg7
        refine awp_reg kpNone [(2, AV.bool (isName a0.Name))] [(4, false), (8, false)] [1, 18] (cs := [(Det Tryz.prog 102 [AV.str a0.Name] (.ret (AV.bool (isName a0.Name)))), ((!(isName a0.Name)) = false), (decide (¬ a0.Owner = []) = false)]) (st' := ⟨100, [(1, .varp 1 0), (18, AV.bool false)], [(1, (false, a0.cs))], [], []⟩) (by kernel_rfl) ⟨d102 a0.Name, hg6, hg7, trivial⟩ ?_
        exact hJ8 false _ (by first | rfl | (rw [hg6, hg7]; done) | (rw [hg6, hg7]; rfl) | (simp [hg6, hg7]; done) | (exfalso; revert hg6 hg7; simp; done) | (exfalso; revert hg6 hg7; simp; intros; assumption)) (Le.rfl')
-- {"kind": "tot", "S": "checkPod", "thm": "d31"}
theorem d31 (a0 : Pod) : Det Tryz.prog 31 [Pod.av a0] (.ret (AV.int (checkPod a0))) := by
  refine c31 a0 _ ?_
  simp only [F31, checkPod, fst0, named, maybeName]
  have hp : ((decide (a0.Prio < ((-1) : Int))) || ((decide ((1000000 : Int) < a0.Prio)) || (!(a0.Hold == (decide (a0.Prio = ((-1) : Int))))))) = decide (prioChk a0 ≠ 0) := by
    unfold prioChk
    cases a0.Hold
    · by_cases q1 : a0.Prio = -1
      · simp [q1]
      · by_cases q2 : 0 ≤ a0.Prio ∧ a0.Prio ≤ 1000000
        · have : ¬ a0.Prio < -1 := by omega
          have : ¬ 1000000 < a0.Prio := by omega
          simp [q1, q2, *]
        · by_cases q3 : a0.Prio < -1
          · simp [q2, q3]
          · have : 1000000 < a0.Prio := by omega
            simp [q2, this]
    · by_cases q1 : a0.Prio = -1
      · simp [q1]
      · simp [q1]
  have hm : (bif (decide (¬ a0.Key = [])) then ((decide (a0.Most < (1 : Int))) || ((decide ((128 : Int) < a0.Most)) || ((decide (a0.Key = [])) && (decide (¬ a0.Most = (0 : Int)))))) else ((decide (a0.Key = [])) && (decide (¬ a0.Most = (0 : Int))))) = decide (mostChk a0 ≠ 0) := by
    unfold mostChk
    by_cases q0 : a0.Key = []
    · by_cases q1 : a0.Most = 0 <;> simp [q0, q1]
    · by_cases q2 : 1 ≤ a0.Most ∧ a0.Most ≤ 128
      · have : ¬ a0.Most < 1 := by omega
        have : ¬ 128 < a0.Most := by omega
        simp [q0, q2, *]
      · by_cases q3 : a0.Most < 1
        · simp [q0, q2, q3]
        · have : 128 < a0.Most := by omega
          simp [q0, q2, this]
  have hpv : prioChk a0 ≠ 0 → prioChk a0 = 1 := by
    unfold prioChk
    repeat' split
    all_goals simp
  have hmv : mostChk a0 ≠ 0 → mostChk a0 = 1 := by
    unfold mostChk
    repeat' split
    all_goals simp
  rw [hp, hm]
  rcases Bool.eq_false_or_eq_true (isName a0.Name) with n1 | n1
  rotate_left
  · simp [n1]
  by_cases o1 : a0.Owner = []
  · by_cases q2 : prioChk a0 = 0
    rotate_left
    · simp [n1, o1, q2, hpv q2]
    by_cases q3 : checkVec a0.Need = 0
    rotate_left
    · simp [n1, o1, q2, q3]
    by_cases q4 : checkSet a0.Labels = 0
    rotate_left
    · simp [n1, o1, q2, q3, q4]
    by_cases q5 : checkSel a0.Sel = 0
    rotate_left
    · simp [n1, o1, q2, q3, q4, q5]
    by_cases q6 : checkTols a0.Tols = 0
    rotate_left
    · simp [n1, o1, q2, q3, q4, q5, q6]
    by_cases k1 : a0.Key = [] <;> rcases Bool.eq_false_or_eq_true (isName a0.Key) with k2 | k2 <;> by_cases q7 : mostChk a0 = 0 <;> by_cases k3 : a0.Node = [] <;> rcases Bool.eq_false_or_eq_true (isName a0.Node) with k4 | k4 <;> simp_all
  · rcases Bool.eq_false_or_eq_true (isName a0.Owner) with n2 | n2
    rotate_left
    · simp [n1, o1, n2]
    by_cases q2 : prioChk a0 = 0
    rotate_left
    · simp [n1, n2, o1, q2, hpv q2]
    by_cases q3 : checkVec a0.Need = 0
    rotate_left
    · simp [n1, n2, o1, q2, q3]
    by_cases q4 : checkSet a0.Labels = 0
    rotate_left
    · simp [n1, n2, o1, q2, q3, q4]
    by_cases q5 : checkSel a0.Sel = 0
    rotate_left
    · simp [n1, n2, o1, q2, q3, q4, q5]
    by_cases q6 : checkTols a0.Tols = 0
    rotate_left
    · simp [n1, n2, o1, q2, q3, q4, q5, q6]
    by_cases k1 : a0.Key = [] <;> rcases Bool.eq_false_or_eq_true (isName a0.Key) with k2 | k2 <;> by_cases q7 : mostChk a0 = 0 <;> by_cases k3 : a0.Node = [] <;> rcases Bool.eq_false_or_eq_true (isName a0.Node) with k4 | k4 <;> simp_all


-- ballastref10.CheckPods
def F146.j26 (rec11 : (Int) → Option Int) (p11 : Int) : (Bool) → Option Int := fun p26 =>
  if p26 = true then (some 13) else (rec11 (w64 (p11 + (1 : Int))))
def F146.l11 (a0 : (List Pod)) (rec11 : (Int) → Option Int) : (Int) → Option Int := fun p11 =>
  if decide (p11 < (List.length a0 : Int)) = true then ((getI a0 p11).bind fun x17_2 => if decide (¬ (checkPod x17_2) = (0 : Int)) = true then (some (checkPod x17_2)) else (if decide ((0 : Int) < p11) = true then ((getI a0 p11).bind fun x24_5 => (getI a0 (w64 (p11 - (1 : Int)))).bind fun x24_11 => F146.j26 rec11 p11 ((Op.bytesLess x24_5.Name x24_11.Name) || decide (x24_5.Name = x24_11.Name))) else (F146.j26 rec11 p11 false))) else (some 0)
def F146 (l11 : (Int) → Option Int) (a0 : (List Pod)) : Option Int :=
  if decide ((128 : Int) < (List.length a0 : Int)) = true then (some 4) else (l11 0)
/-- ballast/ballastref10.CheckPods -/
theorem c146 (a0 : (List Pod)) (l11 : (Int) → Option Int) (hl11 : Rounds (F146.l11 a0) (l11)) (r : Int) (h : F146 l11 a0 = some r) :
    Det Tryz.prog 146 [AV.lst 11 Pod.av a0] (.ret (AV.int r)) := by
  refine Det.of_le ?_
  refine @calls_of_body Tryz.prog 146 Tryz.f146 _ Tryz.func146 rfl (by kernel_rfl) [.tmp 2] (by rw [Tryz.results146]) 38 Tryz.ntmps146 _ _ _ (by simp only [List.length_cons, List.length_nil]; decide) ?_
  unfold F146 at h
  refine awp_sr kpNone [] [] [0] (cs := []) (st' := ⟨38, [(0, AV.lst 11 Pod.av a0)], [], [], []⟩) (by kernel_rfl) trivial ?_
  refine awp_seq fun N3 hN3 => ?_
  refine awp_sr kpNone [(1, AV.int (List.length a0 : Int))] [] [0, 7] (cs := [((AV.int (List.length a0 : Int) = .val (.int .i64 (List.length (List.map Pod.av a0) : Int))))]) (st' := ⟨38, [(0, AV.lst 11 Pod.av a0), (7, AV.bool (decide ((128 : Int) < (List.length a0 : Int))))], [], [], []⟩) (by kernel_rfl) ⟨len_map _ _, trivial⟩ ?_
  refine awp_cond (t := decide ((128 : Int) < (List.length a0 : Int))) rfl (fun hb => ?_) (fun hb => ?_)
  · rw [if_pos hb] at h
    refine awp_sr kpNone [] [] [2] (cs := []) (st' := ⟨38, [(2, AV.int 4)], [], [], []⟩) (by kernel_rfl) trivial ?_
    have h := Option.some.inj h
    subst h
    exact awp_ret ⟨[AV.int 4], by kernel_rfl, Lw.refl _⟩
  · rw [if_false hb] at h
    refine awp_skip ?_
    refine hN3 _ ?_
    refine awp_seq fun N8 hN8 => ?_
    refine awp_sr kpNone [] [] [0, 3] (cs := []) (st' := ⟨38, [(0, AV.lst 11 Pod.av a0), (3, AV.int 0)], [], [], []⟩) (by kernel_rfl) trivial ?_
    refine awp_block ?_
    refine awp_loop ?_
    refine awpL_le (st' := ⟨38, [(0, AV.lst 11 Pod.av a0), (3, AV.int 0)], [], [], []⟩) ?_ ?_
    · exact Le.rfl'
    refine awpL_fix hl11 r (fun p11 => ⟨38, [(0, AV.lst 11 Pod.av a0), (3, AV.int p11)], [], [], []⟩) (fun rec11 hrec11 p11 h => ?_) 0 h
    unfold F146.l11 at h
    refine awpL_round ?_
    refine awp_seq fun N12 hN12 => ?_
    refine awp_sr kpNone [(2, AV.int (List.length a0 : Int))] [] [0, 3, 11] (cs := [((AV.int (List.length a0 : Int) = .val (.int .i64 (List.length (List.map Pod.av a0) : Int))))]) (st' := ⟨38, [(0, AV.lst 11 Pod.av a0), (3, AV.int p11), (11, AV.bool (decide (p11 < (List.length a0 : Int))))], [], [], []⟩) (by kernel_rfl) ⟨len_map _ _, trivial⟩ ?_
    refine awp_cond (t := decide (p11 < (List.length a0 : Int))) rfl (fun hb => ?_) (fun hb => ?_)
    · rw [if_pos hb] at h
      refine awp_skip ?_
      refine hN12 _ ?_
      refine awp_seq fun N15 hN15 => ?_
      refine awp_block ?_
      obtain ⟨x17_2, hx17_2, h⟩ := Option.bind_eq_some_iff.1 h
      refine awp_sr kpNone [(2, Pod.av x17_2), (4, AV.int (checkPod x17_2))] [] [0, 3, 4] (cs := [(0 ≤ p11), ((List.map Pod.av a0)[Int.toNat p11]? = some (Pod.av x17_2)), (Det Tryz.prog 31 [Pod.av x17_2] (.ret (AV.int (checkPod x17_2))))]) (st' := ⟨38, [(0, AV.lst 11 Pod.av a0), (3, AV.int p11), (4, AV.int (checkPod x17_2))], [], [], []⟩) (by kernel_rfl) ⟨getI_le hx17_2, getI_map hx17_2 _, d31 x17_2, trivial⟩ ?_
      refine awp_seq fun N18 hN18 => ?_
      refine awp_sr kpNone [] [] [0, 3, 4, 20] (cs := []) (st' := ⟨38, [(0, AV.lst 11 Pod.av a0), (3, AV.int p11), (4, AV.int (checkPod x17_2)), (20, AV.bool (decide (¬ (checkPod x17_2) = (0 : Int))))], [], [], []⟩) (by kernel_rfl) trivial ?_
      refine awp_cond (t := decide (¬ (checkPod x17_2) = (0 : Int))) rfl (fun hb => ?_) (fun hb => ?_)
      · rw [if_pos hb] at h
        refine awp_sr kpNone [] [] [2] (cs := []) (st' := ⟨38, [(2, AV.int (checkPod x17_2))], [], [], []⟩) (by kernel_rfl) trivial ?_
        have h := Option.some.inj h
        subst h
        exact awp_ret ⟨[AV.int (checkPod x17_2)], by kernel_rfl, Lw.refl _⟩
      · rw [if_false hb] at h
        refine awp_skip ?_
        refine hN18 _ ?_
        refine awp_seq fun N23 hN23 => ?_
        refine awp_to (σ := Bool) (fun p26 => ⟨38, [(0, AV.lst 11 Pod.av a0), (3, AV.int p11), (37, AV.bool p26)], [], [], []⟩) (fun p26 => F146.j26 rec11 p11 p26 = some r) (fun p26 h => ?_) (fun N26 hJ26 => ?_)
        · unfold F146.j26 at h
          refine hN23 _ ?_
          refine awp_cond (t := p26) rfl (fun hb => ?_) (fun hb => ?_)
          · rw [if_pos hb] at h
            refine awp_sr kpNone [] [] [2] (cs := []) (st' := ⟨38, [(2, AV.int 13)], [], [], []⟩) (by kernel_rfl) trivial ?_
            have h := Option.some.inj h
            subst h
            exact awp_ret ⟨[AV.int 13], by kernel_rfl, Lw.refl _⟩
          · rw [if_false hb] at h
            refine awp_skip ?_
            refine hN15 _ ?_
            refine awp_reg kpNone [] [] [0, 3] (cs := []) (st' := ⟨38, [(0, AV.lst 11 Pod.av a0), (3, AV.int (w64 (p11 + (1 : Int))))], [], [], []⟩) (by kernel_rfl) trivial ?_
            refine awpL_le ?_ (hrec11 _ h)
            exact Le.rfl'
        · by_cases hg25 : decide ((0 : Int) < p11) = true
          · rw [if_pos hg25] at h
            obtain ⟨x24_5, hx24_5, h⟩ := Option.bind_eq_some_iff.1 h
            obtain ⟨x24_11, hx24_11, h⟩ := Option.bind_eq_some_iff.1 h
            refine awp_regD mixedTryz kpNone [(5, Pod.av x24_5), (11, Pod.av x24_11)] [(2, true)] [0, 3, 37] (by kernel_rfl) (cs := [(decide ((0 : Int) < p11) = true), (0 ≤ p11), ((List.map Pod.av a0)[Int.toNat p11]? = some (Pod.av x24_5)), (0 ≤ (w64 (p11 - (1 : Int)))), ((List.map Pod.av a0)[Int.toNat (w64 (p11 - (1 : Int)))]? = some (Pod.av x24_11))]) (st' := ⟨38, [(0, AV.lst 11 Pod.av a0), (3, AV.int p11), (37, AV.bool ((Op.bytesLess x24_5.Name x24_11.Name) || decide (x24_5.Name = x24_11.Name)))], [], [], []⟩) (by kernel_rfl) ⟨hg25, getI_le hx24_5, getI_map hx24_5 _, getI_le hx24_11, getI_map hx24_11 _, trivial⟩ ?_
            exact hJ26 ((Op.bytesLess x24_5.Name x24_11.Name) || decide (x24_5.Name = x24_11.Name)) _ h (Le.rfl')
          · rw [if_neg hg25] at h
            have hg25 := Bool.eq_false_iff.2 hg25
            refine awp_regD mixedTryz kpNone [] [(2, false)] [0, 3, 37] (by kernel_rfl) (cs := [(decide ((0 : Int) < p11) = false)]) (st' := ⟨38, [(0, AV.lst 11 Pod.av a0), (3, AV.int p11), (37, AV.bool false)], [], [], []⟩) (by kernel_rfl) ⟨hg25, trivial⟩ ?_
            exact hJ26 false _ h (Le.rfl')
    · rw [if_false hb] at h
      refine awp_exit ?_
      refine hN8 _ ?_
      refine awp_sr kpNone [] [] [2] (cs := []) (st' := ⟨38, [(2, AV.int 0)], [], [], []⟩) (by kernel_rfl) trivial ?_
      have h := Option.some.inj h
      subst h
      exact awp_ret ⟨[AV.int 0], by kernel_rfl, Lw.refl _⟩
-- {"kind": "tot", "S": "checkPods", "thm": "d146"}
theorem d146 (a0 : List Pod) : Det Tryz.prog 146 [AV.lst 11 Pod.av a0] (.ret (AV.int (checkPods a0))) := by
  refine Det.len 0 rfl fun hl => c146 a0 _ (rounds_prev a0 hl (fun o t => some (chkRows checkPod Pod.Name o t)) _ ?_ ?_) _ ?_
  · intro rec o
    simp [F146.l11, chkRows]
  · intro rec p x t o h1 hx hpo hr hw
    simp only [F146.l11, F146.j26, hx, hw, hr, h1, decide_true, if_true, Option.bind_some, chkRows_cons]
    rcases hpo with ⟨h0, rfl⟩ | ⟨y, h0, hy, rfl⟩
    · by_cases hn : checkPod x = 0 <;> simp [hn, h0]
    · by_cases hn : checkPod x = 0 <;> simp [hn, h0, hy, leS] <;> split <;> rfl
  · simp only [F146, checkPods, decide_eq_true_eq]
    by_cases q : 128 < a0.length
    · rw [if_pos (by omega), if_pos q]
    · rw [if_neg (by omega), if_neg q]; simp


-- ballastref10.CheckBudget
def F246 (a0 : Budget) : Option Int :=
  if (!(isName a0.Name)) = true then (some 3) else (if decide (¬ (checkSel a0.Sel) = (0 : Int)) = true then (some (checkSel a0.Sel)) else (if ((decide (a0.Floor < (0 : Int))) || (decide ((128 : Int) < a0.Floor))) = true then (some 1) else (some 0)))
/-- ballast/ballastref10.CheckBudget -/
theorem c246 (a0 : Budget) (r : Int) (h : F246 a0 = some r) :
    Det Tryz.prog 246 [Budget.av a0] (.ret (AV.int r)) := by
  refine Det.of_le ?_
  refine @calls_of_body Tryz.prog 246 Tryz.f246 _ Tryz.func246 rfl (by kernel_rfl) [.tmp 2] (by rw [Tryz.results246]) 22 Tryz.ntmps246 _ _ _ (by simp only [List.length_cons, List.length_nil]; decide) ?_
  unfold F246 at h
  refine awp_sr kpNone [] [] [1] (cs := []) (st' := ⟨22, [(1, .varp 1 0)], [(1, (false, a0.cs))], [], []⟩) (by kernel_rfl) trivial ?_
  refine awp_seq fun N3 hN3 => ?_
  refine awp_sr kpNone [(2, AV.bool (isName a0.Name))] [] [1, 7] (cs := [(Det Tryz.prog 102 [AV.str a0.Name] (.ret (AV.bool (isName a0.Name))))]) (st' := ⟨22, [(1, .varp 1 0), (7, AV.bool (!(isName a0.Name)))], [(1, (false, a0.cs))], [], []⟩) (by kernel_rfl) ⟨d102 a0.Name, trivial⟩ ?_
  refine awp_cond (t := (!(isName a0.Name))) rfl (fun hb => ?_) (fun hb => ?_)
  · rw [if_pos hb] at h
    refine awp_sr kpNone [] [] [2] (cs := []) (st' := ⟨22, [(2, AV.int 3)], [(1, (false, a0.cs))], [], []⟩) (by kernel_rfl) trivial ?_
    have h := Option.some.inj h
    subst h
    exact awp_ret ⟨[AV.int 3], by kernel_rfl, Lw.refl _⟩
  · rw [if_false hb] at h
    refine awp_skip ?_
    refine hN3 _ ?_
    refine awp_sr kpNone [(2, AV.int (checkSel a0.Sel))] [] [1, 3] (cs := [(Det Tryz.prog 105 [AV.lst 3 Term.av a0.Sel] (.ret (AV.int (checkSel a0.Sel))))]) (st' := ⟨22, [(1, .varp 1 0), (3, AV.int (checkSel a0.Sel))], [(1, (false, a0.cs))], [], []⟩) (by kernel_rfl) ⟨d105 a0.Sel, trivial⟩ ?_
    refine awp_seq fun N10 hN10 => ?_
    refine awp_sr kpNone [] [] [1, 3, 12] (cs := []) (st' := ⟨22, [(1, .varp 1 0), (3, AV.int (checkSel a0.Sel)), (12, AV.bool (decide (¬ (checkSel a0.Sel) = (0 : Int))))], [(1, (false, a0.cs))], [], []⟩) (by kernel_rfl) trivial ?_
    refine awp_cond (t := decide (¬ (checkSel a0.Sel) = (0 : Int))) rfl (fun hb => ?_) (fun hb => ?_)
    · rw [if_pos hb] at h
      refine awp_sr kpNone [] [] [2] (cs := []) (st' := ⟨22, [(2, AV.int (checkSel a0.Sel))], [(1, (false, a0.cs))], [], []⟩) (by kernel_rfl) trivial ?_
      have h := Option.some.inj h
      subst h
      exact awp_ret ⟨[AV.int (checkSel a0.Sel)], by kernel_rfl, Lw.refl _⟩
    · rw [if_false hb] at h
      refine awp_skip ?_
      refine hN10 _ ?_
      refine awp_seq fun N15 hN15 => ?_
      refine awp_seq fun N16 hN16 => ?_
      refine awp_to (σ := Bool) (fun p => ⟨22, [(21, AV.bool p)], [(1, (false, a0.cs))], [], []⟩) (fun p => p = ((decide (a0.Floor < (0 : Int))) || (decide ((128 : Int) < a0.Floor)))) (fun p hp => ?_) (fun N19 hJ19 => ?_)
      · subst hp
        refine hN16 _ ?_
        refine awp_cond (t := ((decide (a0.Floor < (0 : Int))) || (decide ((128 : Int) < a0.Floor)))) rfl (fun hb => ?_) (fun hb => ?_)
        · rw [if_pos hb] at h
          refine awp_sr kpNone [] [] [2] (cs := []) (st' := ⟨22, [(2, AV.int 1)], [(1, (false, a0.cs))], [], []⟩) (by kernel_rfl) trivial ?_
          have h := Option.some.inj h
          subst h
          exact awp_ret ⟨[AV.int 1], by kernel_rfl, Lw.refl _⟩
        · rw [if_false hb] at h
          refine awp_skip ?_
          refine hN15 _ ?_
          refine awp_sr kpNone [] [] [2] (cs := []) (st' := ⟨22, [(2, AV.int 0)], [(1, (false, a0.cs))], [], []⟩) (by kernel_rfl) trivial ?_
          have h := Option.some.inj h
          subst h
          exact awp_ret ⟨[AV.int 0], by kernel_rfl, Lw.refl _⟩
      · by_cases hg18 : decide (a0.Floor < (0 : Int)) = true
        · refine awp_reg kpNone [] [(3, true)] [21] (cs := [(decide (a0.Floor < (0 : Int)) = true)]) (st' := ⟨22, [(21, AV.bool true)], [(1, (false, a0.cs))], [], []⟩) (by kernel_rfl) ⟨hg18, trivial⟩ ?_
          exact hJ19 true _ (by first | rfl | (rw [hg18]; done) | (rw [hg18]; rfl) | (simp [hg18]; done) | (exfalso; revert hg18; simp; done) | (exfalso; revert hg18; simp; intros; assumption)) (Le.rfl')
        · have hg18 := Bool.eq_false_iff.2 hg18
          refine awp_reg kpNone [] [(3, false)] [21] (cs := [(decide (a0.Floor < (0 : Int)) = false)]) (st' := ⟨22, [(21, AV.bool (decide ((128 : Int) < a0.Floor)))], [(1, (false, a0.cs))], [], []⟩) (by kernel_rfl) ⟨hg18, trivial⟩ ?_
          exact hJ19 (decide ((128 : Int) < a0.Floor)) _ (by first | rfl | (rw [hg18]; done) | (rw [hg18]; rfl) | (simp [hg18]; done) | (exfalso; revert hg18; simp; done) | (exfalso; revert hg18; simp; intros; assumption)) (Le.rfl')
-- {"kind": "tot", "S": "checkBudget", "thm": "d246"}
theorem d246 (a0 : Budget) : Det Tryz.prog 246 [Budget.av a0] (.ret (AV.int (checkBudget a0))) := by
  refine c246 a0 _ ?_
  simp only [F246, checkBudget, fst0, named, floorChk, Bool.or_eq_true, decide_eq_true_eq]
  rcases Bool.eq_false_or_eq_true (isName a0.Name) with n1 | n1 <;> by_cases q1 : checkSel a0.Sel = 0 <;> by_cases q2 : a0.Floor < 0 ∨ 128 < a0.Floor <;> simp [n1, q1, q2]


-- ballastref10.CheckBudgets
def F147.j26 (rec11 : (Int) → Option Int) (p11 : Int) : (Bool) → Option Int := fun p26 =>
  if p26 = true then (some 13) else (rec11 (w64 (p11 + (1 : Int))))
def F147.l11 (a0 : (List Budget)) (rec11 : (Int) → Option Int) : (Int) → Option Int := fun p11 =>
  if decide (p11 < (List.length a0 : Int)) = true then ((getI a0 p11).bind fun x17_2 => if decide (¬ (checkBudget x17_2) = (0 : Int)) = true then (some (checkBudget x17_2)) else (if decide ((0 : Int) < p11) = true then ((getI a0 p11).bind fun x24_5 => (getI a0 (w64 (p11 - (1 : Int)))).bind fun x24_11 => F147.j26 rec11 p11 ((Op.bytesLess x24_5.Name x24_11.Name) || decide (x24_5.Name = x24_11.Name))) else (F147.j26 rec11 p11 false))) else (some 0)
def F147 (l11 : (Int) → Option Int) (a0 : (List Budget)) : Option Int :=
  if decide ((8 : Int) < (List.length a0 : Int)) = true then (some 4) else (l11 0)
/-- ballast/ballastref10.CheckBudgets -/
theorem c147 (a0 : (List Budget)) (l11 : (Int) → Option Int) (hl11 : Rounds (F147.l11 a0) (l11)) (r : Int) (h : F147 l11 a0 = some r) :
    Det Tryz.prog 147 [AV.lst 3 Budget.av a0] (.ret (AV.int r)) := by
  refine Det.of_le ?_
  refine @calls_of_body Tryz.prog 147 Tryz.f147 _ Tryz.func147 rfl (by kernel_rfl) [.tmp 2] (by rw [Tryz.results147]) 38 Tryz.ntmps147 _ _ _ (by simp only [List.length_cons, List.length_nil]; decide) ?_
  unfold F147 at h
  refine awp_sr kpNone [] [] [0] (cs := []) (st' := ⟨38, [(0, AV.lst 3 Budget.av a0)], [], [], []⟩) (by kernel_rfl) trivial ?_
  refine awp_seq fun N3 hN3 => ?_
  refine awp_sr kpNone [(1, AV.int (List.length a0 : Int))] [] [0, 7] (cs := [((AV.int (List.length a0 : Int) = .val (.int .i64 (List.length (List.map Budget.av a0) : Int))))]) (st' := ⟨38, [(0, AV.lst 3 Budget.av a0), (7, AV.bool (decide ((8 : Int) < (List.length a0 : Int))))], [], [], []⟩) (by kernel_rfl) ⟨len_map _ _, trivial⟩ ?_
  refine awp_cond (t := decide ((8 : Int) < (List.length a0 : Int))) rfl (fun hb => ?_) (fun hb => ?_)
  · rw [if_pos hb] at h
    refine awp_sr kpNone [] [] [2] (cs := []) (st' := ⟨38, [(2, AV.int 4)], [], [], []⟩) (by kernel_rfl) trivial ?_
    have h := Option.some.inj h
    subst h
    exact awp_ret ⟨[AV.int 4], by kernel_rfl, Lw.refl _⟩
  · rw [if_false hb] at h
    refine awp_skip ?_
    refine hN3 _ ?_
    refine awp_seq fun N8 hN8 => ?_
    refine awp_sr kpNone [] [] [0, 3] (cs := []) (st' := ⟨38, [(0, AV.lst 3 Budget.av a0), (3, AV.int 0)], [], [], []⟩) (by kernel_rfl) trivial ?_
    refine awp_block ?_
    refine awp_loop ?_
    refine awpL_le (st' := ⟨38, [(0, AV.lst 3 Budget.av a0), (3, AV.int 0)], [], [], []⟩) ?_ ?_
    · exact Le.rfl'
    refine awpL_fix hl11 r (fun p11 => ⟨38, [(0, AV.lst 3 Budget.av a0), (3, AV.int p11)], [], [], []⟩) (fun rec11 hrec11 p11 h => ?_) 0 h
    unfold F147.l11 at h
    refine awpL_round ?_
    refine awp_seq fun N12 hN12 => ?_
    refine awp_sr kpNone [(2, AV.int (List.length a0 : Int))] [] [0, 3, 11] (cs := [((AV.int (List.length a0 : Int) = .val (.int .i64 (List.length (List.map Budget.av a0) : Int))))]) (st' := ⟨38, [(0, AV.lst 3 Budget.av a0), (3, AV.int p11), (11, AV.bool (decide (p11 < (List.length a0 : Int))))], [], [], []⟩) (by kernel_rfl) ⟨len_map _ _, trivial⟩ ?_
    refine awp_cond (t := decide (p11 < (List.length a0 : Int))) rfl (fun hb => ?_) (fun hb => ?_)
    · rw [if_pos hb] at h
      refine awp_skip ?_
      refine hN12 _ ?_
      refine awp_seq fun N15 hN15 => ?_
      refine awp_block ?_
      obtain ⟨x17_2, hx17_2, h⟩ := Option.bind_eq_some_iff.1 h
      refine awp_sr kpNone [(2, Budget.av x17_2), (4, AV.int (checkBudget x17_2))] [] [0, 3, 4] (cs := [(0 ≤ p11), ((List.map Budget.av a0)[Int.toNat p11]? = some (Budget.av x17_2)), (Det Tryz.prog 246 [Budget.av x17_2] (.ret (AV.int (checkBudget x17_2))))]) (st' := ⟨38, [(0, AV.lst 3 Budget.av a0), (3, AV.int p11), (4, AV.int (checkBudget x17_2))], [], [], []⟩) (by kernel_rfl) ⟨getI_le hx17_2, getI_map hx17_2 _, d246 x17_2, trivial⟩ ?_
      refine awp_seq fun N18 hN18 => ?_
      refine awp_sr kpNone [] [] [0, 3, 4, 20] (cs := []) (st' := ⟨38, [(0, AV.lst 3 Budget.av a0), (3, AV.int p11), (4, AV.int (checkBudget x17_2)), (20, AV.bool (decide (¬ (checkBudget x17_2) = (0 : Int))))], [], [], []⟩) (by kernel_rfl) trivial ?_
      refine awp_cond (t := decide (¬ (checkBudget x17_2) = (0 : Int))) rfl (fun hb => ?_) (fun hb => ?_)
      · rw [if_pos hb] at h
        refine awp_sr kpNone [] [] [2] (cs := []) (st' := ⟨38, [(2, AV.int (checkBudget x17_2))], [], [], []⟩) (by kernel_rfl) trivial ?_
        have h := Option.some.inj h
        subst h
        exact awp_ret ⟨[AV.int (checkBudget x17_2)], by kernel_rfl, Lw.refl _⟩
      · rw [if_false hb] at h
        refine awp_skip ?_
        refine hN18 _ ?_
        refine awp_seq fun N23 hN23 => ?_
        refine awp_to (σ := Bool) (fun p26 => ⟨38, [(0, AV.lst 3 Budget.av a0), (3, AV.int p11), (37, AV.bool p26)], [], [], []⟩) (fun p26 => F147.j26 rec11 p11 p26 = some r) (fun p26 h => ?_) (fun N26 hJ26 => ?_)
        · unfold F147.j26 at h
          refine hN23 _ ?_
          refine awp_cond (t := p26) rfl (fun hb => ?_) (fun hb => ?_)
          · rw [if_pos hb] at h
            refine awp_sr kpNone [] [] [2] (cs := []) (st' := ⟨38, [(2, AV.int 13)], [], [], []⟩) (by kernel_rfl) trivial ?_
            have h := Option.some.inj h
            subst h
            exact awp_ret ⟨[AV.int 13], by kernel_rfl, Lw.refl _⟩
          · rw [if_false hb] at h
            refine awp_skip ?_
            refine hN15 _ ?_
            refine awp_reg kpNone [] [] [0, 3] (cs := []) (st' := ⟨38, [(0, AV.lst 3 Budget.av a0), (3, AV.int (w64 (p11 + (1 : Int))))], [], [], []⟩) (by kernel_rfl) trivial ?_
            refine awpL_le ?_ (hrec11 _ h)
            exact Le.rfl'
        · by_cases hg25 : decide ((0 : Int) < p11) = true
          · rw [if_pos hg25] at h
            obtain ⟨x24_5, hx24_5, h⟩ := Option.bind_eq_some_iff.1 h
            obtain ⟨x24_11, hx24_11, h⟩ := Option.bind_eq_some_iff.1 h
            refine awp_regD mixedTryz kpNone [(5, Budget.av x24_5), (11, Budget.av x24_11)] [(2, true)] [0, 3, 37] (by kernel_rfl) (cs := [(decide ((0 : Int) < p11) = true), (0 ≤ p11), ((List.map Budget.av a0)[Int.toNat p11]? = some (Budget.av x24_5)), (0 ≤ (w64 (p11 - (1 : Int)))), ((List.map Budget.av a0)[Int.toNat (w64 (p11 - (1 : Int)))]? = some (Budget.av x24_11))]) (st' := ⟨38, [(0, AV.lst 3 Budget.av a0), (3, AV.int p11), (37, AV.bool ((Op.bytesLess x24_5.Name x24_11.Name) || decide (x24_5.Name = x24_11.Name)))], [], [], []⟩) (by kernel_rfl) ⟨hg25, getI_le hx24_5, getI_map hx24_5 _, getI_le hx24_11, getI_map hx24_11 _, trivial⟩ ?_
            exact hJ26 ((Op.bytesLess x24_5.Name x24_11.Name) || decide (x24_5.Name = x24_11.Name)) _ h (Le.rfl')
          · rw [if_neg hg25] at h
            have hg25 := Bool.eq_false_iff.2 hg25
            refine awp_regD mixedTryz kpNone [] [(2, false)] [0, 3, 37] (by kernel_rfl) (cs := [(decide ((0 : Int) < p11) = false)]) (st' := ⟨38, [(0, AV.lst 3 Budget.av a0), (3, AV.int p11), (37, AV.bool false)], [], [], []⟩) (by kernel_rfl) ⟨hg25, trivial⟩ ?_
            exact hJ26 false _ h (Le.rfl')
    · rw [if_false hb] at h
      refine awp_exit ?_
      refine hN8 _ ?_
      refine awp_sr kpNone [] [] [2] (cs := []) (st' := ⟨38, [(2, AV.int 0)], [], [], []⟩) (by kernel_rfl) trivial ?_
      have h := Option.some.inj h
      subst h
      exact awp_ret ⟨[AV.int 0], by kernel_rfl, Lw.refl _⟩
-- {"kind": "tot", "S": "checkBudgets", "thm": "d147"}
theorem d147 (a0 : List Budget) : Det Tryz.prog 147 [AV.lst 3 Budget.av a0] (.ret (AV.int (checkBudgets a0))) := by
  refine Det.len 0 rfl fun hl => c147 a0 _ (rounds_prev a0 hl (fun o t => some (chkRows checkBudget Budget.Name o t)) _ ?_ ?_) _ ?_
  · intro rec o
    simp [F147.l11, chkRows]
  · intro rec p x t o h1 hx hpo hr hw
    simp only [F147.l11, F147.j26, hx, hw, hr, h1, decide_true, if_true, Option.bind_some, chkRows_cons]
    rcases hpo with ⟨h0, rfl⟩ | ⟨y, h0, hy, rfl⟩
    · by_cases hn : checkBudget x = 0 <;> simp [hn, h0]
    · by_cases hn : checkBudget x = 0 <;> simp [hn, h0, hy, leS] <;> split <;> rfl
  · simp only [F147, checkBudgets, decide_eq_true_eq]
    by_cases q : 8 < a0.length
    · rw [if_pos (by omega), if_pos q]
    · rw [if_neg (by omega), if_neg q]; simp


-- ballastref10.FindNode
def F120.l6 (a0 : (List Node)) (a1 : Str) (rec6 : (Int) → Option (Node × Bool)) : (Int) → Option (Node × Bool) := fun p6 =>
  if decide (p6 < (List.length a0 : Int)) = true then ((getI a0 p6).bind fun x12_2 => if decide (x12_2.Name = a1) = true then ((getI a0 p6).bind fun x14_2 => some (x14_2, true)) else (rec6 (w64 (p6 + (1 : Int))))) else (some ((⟨[], ([] : (List Amount)), ([] : (List Pair)), ([] : (List Taint)), false⟩ : Node), false))
def F120 (l6 : (Int) → Option (Node × Bool)) (a0 : (List Node)) (a1 : Str) : Option (Node × Bool) :=
  l6 0
/-- ballast/ballastref10.FindNode -/
theorem c120 (a0 : (List Node)) (a1 : Str) (l6 : (Int) → Option (Node × Bool)) (hl6 : Rounds (F120.l6 a0 a1) (l6)) (r : (Node × Bool)) (h : F120 l6 a0 a1 = some r) :
    Det Tryz.prog 120 [AV.lst 5 Node.av a0, AV.str a1] (.ret (.tuple [Node.av r.1, AV.bool r.2])) := by
  refine Det.of_le ?_
  refine @calls_of_body Tryz.prog 120 Tryz.f120 _ Tryz.func120 rfl (by kernel_rfl) [.cell 4 190, .tmp 5] (by rw [Tryz.results120]) 25 Tryz.ntmps120 _ _ _ (by simp only [List.length_cons, List.length_nil]; decide) ?_
  unfold F120 at h
  refine awp_sr kpNone [] [] [0, 1, 4] (cs := []) (st' := ⟨25, [(0, AV.lst 5 Node.av a0), (1, AV.str a1), (4, .varp 4 0)], [(4, (false, [AV.str [], .nils, .nils, .nils, AV.bool false]))], [], []⟩) (by kernel_rfl) trivial ?_
  refine awp_seq fun N3 hN3 => ?_
  refine awp_sr kpNone [] [] [0, 1, 4, 6] (cs := []) (st' := ⟨25, [(0, AV.lst 5 Node.av a0), (1, AV.str a1), (4, .varp 4 0), (6, AV.int 0)], [(4, (false, [AV.str [], .nils, .nils, .nils, AV.bool false]))], [], []⟩) (by kernel_rfl) trivial ?_
  refine awp_block ?_
  refine awp_loop ?_
  refine awpL_le (st' := ⟨25, [(0, AV.lst 5 Node.av a0), (1, AV.str a1), (4, .varp 4 0), (6, AV.int 0)], [(4, (false, [AV.str [], .nils, .nils, .nils, AV.bool false]))], [], []⟩) ?_ ?_
  · exact Le.rfl'
  refine awpL_fix hl6 r (fun p6 => ⟨25, [(0, AV.lst 5 Node.av a0), (1, AV.str a1), (4, .varp 4 0), (6, AV.int p6)], [(4, (false, [AV.str [], .nils, .nils, .nils, AV.bool false]))], [], []⟩) (fun rec6 hrec6 p6 h => ?_) 0 h
  unfold F120.l6 at h
  refine awpL_round ?_
  refine awp_seq fun N7 hN7 => ?_
  refine awp_sr kpNone [(2, AV.int (List.length a0 : Int))] [] [0, 1, 4, 6, 10] (cs := [((AV.int (List.length a0 : Int) = .val (.int .i64 (List.length (List.map Node.av a0) : Int))))]) (st' := ⟨25, [(0, AV.lst 5 Node.av a0), (1, AV.str a1), (4, .varp 4 0), (6, AV.int p6), (10, AV.bool (decide (p6 < (List.length a0 : Int))))], [(4, (false, [AV.str [], .nils, .nils, .nils, AV.bool false]))], [], []⟩) (by kernel_rfl) ⟨len_map _ _, trivial⟩ ?_
  refine awp_cond (t := decide (p6 < (List.length a0 : Int))) rfl (fun hb => ?_) (fun hb => ?_)
  · rw [if_pos hb] at h
    refine awp_skip ?_
    refine hN7 _ ?_
    refine awp_seq fun N10 hN10 => ?_
    refine awp_block ?_
    obtain ⟨x12_2, hx12_2, h⟩ := Option.bind_eq_some_iff.1 h
    refine awp_sr kpNone [(2, Node.av x12_2)] [] [0, 1, 4, 6, 19] (cs := [(0 ≤ p6), ((List.map Node.av a0)[Int.toNat p6]? = some (Node.av x12_2))]) (st' := ⟨25, [(0, AV.lst 5 Node.av a0), (1, AV.str a1), (4, .varp 4 0), (6, AV.int p6), (19, AV.bool (decide (x12_2.Name = a1)))], [(4, (false, [AV.str [], .nils, .nils, .nils, AV.bool false]))], [], []⟩) (by kernel_rfl) ⟨getI_le hx12_2, getI_map hx12_2 _, trivial⟩ ?_
    refine awp_cond (t := decide (x12_2.Name = a1)) rfl (fun hb => ?_) (fun hb => ?_)
    · rw [if_pos hb] at h
      obtain ⟨x14_2, hx14_2, h⟩ := Option.bind_eq_some_iff.1 h
      refine awp_sr kpNone [(2, Node.av x14_2)] [] [4, 5] (cs := [(0 ≤ p6), ((List.map Node.av a0)[Int.toNat p6]? = some (Node.av x14_2))]) (st' := ⟨25, [(4, .varp 4 0), (5, AV.bool true)], [(4, (false, x14_2.cs))], [], []⟩) (by kernel_rfl) ⟨getI_le hx14_2, getI_map hx14_2 _, trivial⟩ ?_
      have h := Option.some.inj h
      subst h
      exact awp_ret ⟨[Node.av x14_2, AV.bool true], by kernel_rfl, Lw.refl _⟩
    · rw [if_false hb] at h
      refine awp_skip ?_
      refine hN10 _ ?_
      refine awp_reg kpNone [] [] [0, 1, 4, 6] (cs := []) (st' := ⟨25, [(0, AV.lst 5 Node.av a0), (1, AV.str a1), (4, .varp 4 0), (6, AV.int (w64 (p6 + (1 : Int))))], [(4, (false, [AV.str [], .nils, .nils, .nils, AV.bool false]))], [], []⟩) (by kernel_rfl) trivial ?_
      refine awpL_le ?_ (hrec6 _ h)
      exact Le.rfl'
  · rw [if_false hb] at h
    refine awp_exit ?_
    refine hN3 _ ?_
    refine awp_sr kpNone [] [] [4, 5] (cs := []) (st' := ⟨25, [(4, .varp 4 0), (5, AV.bool false)], [(4, (false, [AV.str [], .nils, .nils, .nils, AV.bool false]))], [], []⟩) (by kernel_rfl) trivial ?_
    have h := Option.some.inj h
    subst h
    exact awp_ret ⟨[.agg [AV.str [], .nils, .nils, .nils, AV.bool false], AV.bool false], by kernel_rfl, Lw.tupleL ⟨(Lw.aggL ⟨(Lw.refl _), (Lw.nils _), (Lw.nils _), (Lw.nils _), (Lw.refl _), trivial⟩), (Lw.refl _), trivial⟩⟩
-- {"kind": "tot", "S": "nodeFind", "thm": "d120"}
theorem d120 (a0 : List Node) (a1 : Str) : Det Tryz.prog 120 [AV.lst 5 Node.av a0, AV.str a1] (.ret (.tuple [Node.av (nodeFind a0 a1).1, AV.bool (nodeFind a0 a1).2])) := by
  refine Det.len 0 rfl fun hl => c120 a0 a1 _ (rounds_list a0 hl (fun t => some (nodeFind t a1)) _ ?_ ?_) _ ?_
  · intro rec
    simp [F120.l6, nodeFind, Node.none]
  · intro rec p x t h0 h1 hx hd hr hw
    simp only [F120.l6, hx, hw, hr, h1, decide_true, if_true, Option.bind_some, nodeFind, decide_eq_true_eq]
    split <;> rfl
  · simp [F120]


end Go.Proofs.Eng
